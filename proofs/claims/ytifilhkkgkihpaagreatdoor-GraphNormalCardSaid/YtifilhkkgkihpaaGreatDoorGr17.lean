/- Plain: the normal graphs of two graphs are alike just if their roots are. Plain: sizes of a graph's bytes; the normal graph's heads are little. -/
import Derived.Test.YtifilhkkgkihpaaGreatDoorGr13
import Derived.Test.YtifilhkkgkihpaaGreatDoorGr16
import Derived.Test.YtifilhkkgkihpaaGreatDoorGr10
set_option linter.unusedSimpArgs false
set_option linter.unusedVariables false
set_option linter.unusedSimpArgs false
set_option linter.unusedVariables false
namespace Go.Proofs.YtifilhkkgkihpaaGreatDoor
open Go.RowKit
/-- a row of heads lies in another one, its i-th head at e i. -/
def Emb (HS U : List Hd) (e : Nat → Nat) : Prop := ∀ i h, HS[i]? = some h → ∃ h', U[e i]? = some h' ∧ h'.kd = h.kd ∧ h'.op = h.op ∧ h'.NS = h.NS ∧ h'.KS = h.KS.map (fun k => ((e k.toNat : Nat) : Int))
theorem Emb.cl {HS U : List Hd} {e : Nat → Nat} (he : Emb HS U e) (hok : OkHeads HS) {cl cl' : List Nat} (hst : Stands HS cl) (hco : Coarse HS cl) (hst' : Stands U cl') (hco' : Coarse U cl') {i j : Nat} (hi : i < HS.length) (hj : j < HS.length) : cl.getD i 0 = cl.getD j 0 ↔ cl'.getD (e i) 0 = cl'.getD (e j) 0 := by
  have hlt : ∀ i, i < HS.length → e i < U.length := fun i hi => by
    obtain ⟨h', h1, _⟩ := he i _ (List.getElem?_eq_getElem hi)
    exact (List.getElem?_eq_some_iff.1 h1).1
  constructor
  · intro h0
    refine hco' (fun p q => ∃ i j, i < HS.length ∧ j < HS.length ∧ p = e i ∧ q = e j ∧ cl.getD i 0 = cl.getD j 0) (fun p q x y hr hx hy => ?_) _ _ (hlt i hi) (hlt j hj) ⟨i, j, hi, hj, rfl, rfl, h0⟩
    obtain ⟨i, j, hi, hj, rfl, rfl, h0⟩ := hr
    obtain ⟨a, ha⟩ : ∃ a, HS[i]? = some a := ⟨_, List.getElem?_eq_getElem hi⟩
    obtain ⟨b, hb⟩ : ∃ b, HS[j]? = some b := ⟨_, List.getElem?_eq_getElem hj⟩
    obtain ⟨a', a0, a1, a2, a3, a4⟩ := he i a ha
    obtain ⟨b', b0, b1, b2, b3, b4⟩ := he j b hb
    rw [hx] at a0
    rw [hy] at b0
    cases a0
    cases b0
    obtain ⟨s1, s2, s3, s4⟩ := hst i j a b ha hb h0
    refine ⟨by rw [a1, b1, s1], by rw [a2, b2, s2], by rw [a3, b3, s3], by rw [a4, b4]; simpa using congrArg List.length s4, fun n k l hk hl => ?_⟩
    rw [a4, List.getElem?_map] at hk
    rw [b4, List.getElem?_map] at hl
    cases hk0 : a.KS[n]? with
    | none => rw [hk0] at hk; cases hk
    | some k0 =>
      cases hl0 : b.KS[n]? with
      | none => rw [hl0] at hl; cases hl
      | some l0 =>
        rw [hk0] at hk
        rw [hl0] at hl
        simp only [Option.map_some, Option.some.injEq] at hk hl
        have r1 := ok_kids hok ha k0 (List.mem_of_getElem? hk0)
        have r2 := ok_kids hok hb l0 (List.mem_of_getElem? hl0)
        have h1 := congrArg (fun l => l[n]?) s4
        simp only [List.getElem?_map, hk0, hl0, Option.map_some, Option.some.injEq] at h1
        exact ⟨k0.toNat, l0.toNat, by omega, by omega, by rw [← hk]; simp, by rw [← hl]; simp, h1⟩
  · intro h0
    refine hco (fun p q => p < HS.length ∧ q < HS.length ∧ cl'.getD (e p) 0 = cl'.getD (e q) 0) (fun p q x y hr hx hy => ?_) i j hi hj ⟨hi, hj, h0⟩
    obtain ⟨a', a0, a1, a2, a3, a4⟩ := he p x hx
    obtain ⟨b', b0, b1, b2, b3, b4⟩ := he q y hy
    obtain ⟨s1, s2, s3, s4⟩ := hst' _ _ a' b' a0 b0 hr.2.2
    rw [a4, b4, List.map_map, List.map_map] at s4
    refine ⟨by rw [← a1, ← b1, s1], by rw [← a2, ← b2, s2], by rw [← a3, ← b3, s3], by simpa using congrArg List.length s4, fun n k l hk hl => ?_⟩
    have r1 := ok_kids hok hx k (List.mem_of_getElem? hk)
    have r2 := ok_kids hok hy l (List.mem_of_getElem? hl)
    have h1 := congrArg (fun l => l[n]?) s4
    simp only [List.getElem?_map, hk, hl, Option.map_some, Option.some.injEq, Function.comp, Int.toNat_natCast] at h1
    exact ⟨by omega, by omega, h1⟩
theorem NPl.into {HS U : List Hd} {e : Nat → Nat} (he : Emb HS U e) (hok : OkHeads HS) {cl cl' : List Nat} {root : Nat} {ord : List Nat} {OS : List Hd} (h : NPl HS cl root ord OS []) (hst : Stands HS cl) (hco : Coarse HS cl) (hst' : Stands U cl') (hco' : Coarse U cl') (hroot : root < HS.length) (hb : ∀ i, i < U.length → cl'.getD i 0 < 100) : ∃ ord', NPl U cl' (e root) ord' OS [] ∧ ord'.length = ord.length := by
  have hlt : ∀ i, i < HS.length → e i < U.length := fun i hi => by
    obtain ⟨h', h1, _⟩ := he i _ (List.getElem?_eq_getElem hi)
    exact (List.getElem?_eq_some_iff.1 h1).1
  have hex : ∀ c : Nat, ∃ d : Nat, ∀ k, k < HS.length → cl.getD k 0 = c → cl'.getD (e k) 0 = d := fun c => by
    by_cases hc : ∃ k, k < HS.length ∧ cl.getD k 0 = c
    · obtain ⟨k, hk, rfl⟩ := hc
      exact ⟨cl'.getD (e k) 0, fun m hm h2 => (he.cl hok hst hco hst' hco' hm hk).1 h2⟩
    · exact ⟨0, fun k hk h2 => absurd ⟨k, hk, h2⟩ hc⟩
  obtain ⟨g, hg⟩ := Classical.axiomOfChoice hex
  have hg2 : ∀ k, k < HS.length → cl'.getD (e k) 0 = g (cl.getD k 0) := fun k hk => hg _ k hk rfl
  have hinj : ∀ a ∈ ord, ∀ k, k < HS.length → g a = g (cl.getD k 0) → a = cl.getD k 0 := fun a ha k hk h2 => by
    obtain ⟨m, hm, rfl⟩ := h.of a ha
    rw [← hg2 m hm, ← hg2 k hk] at h2
    exact (he.cl hok hst hco hst' hco' hm hk).2 h2
  have hix : ∀ k, k < HS.length → idxN (ord.map g) (cl'.getD (e k) 0) = idxN ord (cl.getD k 0) := fun k hk => by
    rw [hg2 k hk]
    exact idxN_map g ord _ (fun a ha h2 => hinj a ha k hk h2)
  refine ⟨ord.map g, ⟨by simpa using h.le, fun k x hx => ?_, by simpa using h.grow, ?_, fun c hc => ?_, ?_, fun c hc => ?_, h.fwd⟩, by simp⟩
  · obtain ⟨r, y, h1, h2, h3, h4, h5, h6, h7⟩ := (h.heads k x hx).of
    have hrl := (List.getElem?_eq_some_iff.1 h1).1
    have hkl : k < ord.length := Nat.lt_of_lt_of_le (List.getElem?_eq_some_iff.1 hx).1 h.le
    have hky : ∀ q ∈ y.KS, q.toNat < HS.length := fun q hq => by have := ok_kids hok h1 q hq; omega
    obtain ⟨y', g0, g1, g2, g3, g4⟩ := he r y h1
    refine ⟨e r, y', g0, ?_, by rw [h3, g1], by rw [h4, g2], by rw [h5, g3], ?_, fun q hq => ?_⟩
    · rw [hg2 r hrl, h2, List.getD_eq_getElem?_getD, List.getD_eq_getElem?_getD, List.getElem?_map, List.getElem?_eq_getElem hkl]
      rfl
    · rw [h6, g4, List.map_map]
      refine List.map_congr_left fun q hq => ?_
      simp only [Function.comp, Int.toNat_natCast]
      unfold posN
      rw [hix _ (hky q hq)]
    · rw [g4] at hq
      obtain ⟨q0, hq0, rfl⟩ := List.mem_map.1 hq
      rw [Int.toNat_natCast, hix _ (hky q0 hq0)]
      exact h7 q0 hq0
  · have : (ord.map g).Nodup := by
      rw [List.nodup_iff_pairwise_ne, List.pairwise_map]
      refine List.Pairwise.imp_of_mem ?_ (List.nodup_iff_pairwise_ne.1 h.nodup)
      intro a b ha hb2 hne h2
      obtain ⟨k, hk, rfl⟩ := h.of b hb2
      exact hne (hinj a ha k hk h2)
    exact this
  · obtain ⟨a, ha, rfl⟩ := List.mem_map.1 hc
    obtain ⟨k, hk, rfl⟩ := h.of a ha
    rw [← hg2 k hk]
    exact hb _ (hlt k hk)
  · rw [List.getElem?_map, h.first, hg2 root hroot]
    rfl
  · obtain ⟨a, ha, rfl⟩ := List.mem_map.1 hc
    obtain ⟨k, hk, rfl⟩ := h.of a ha
    exact ⟨e k, hlt k hk, hg2 k hk⟩
/-- a head whose kids are told from n on. -/
def shH (n : Nat) (h : Hd) : Hd := { h with KS := h.KS.map (· + (n : Int)) }
/-- two rows of heads, one behind the other. -/
def two (A B : List Hd) : List Hd := A ++ B.map (shH A.length)
theorem emb_l {A B : List Hd} (hok : OkHeads A) : Emb A (two A B) id := fun i h hi => by
  refine ⟨h, ?_, rfl, rfl, rfl, ?_⟩
  · unfold two
    rw [id, List.getElem?_append_left (List.getElem?_eq_some_iff.1 hi).1]
    exact hi
  · refine (List.map_id _).symm.trans (List.map_congr_left fun k hk => ?_)
    have := ok_kids hok hi k hk
    simp only [id]
    omega
theorem emb_r {A B : List Hd} (hok : OkHeads B) : Emb B (two A B) (fun i => A.length + i) := fun i h hi => by
  refine ⟨shH A.length h, ?_, rfl, rfl, rfl, ?_⟩
  · show (A ++ B.map (shH A.length))[A.length + i]? = _
    rw [List.getElem?_append_right (by omega), List.getElem?_map, show A.length + i - A.length = i by omega, hi]
    rfl
  · refine List.map_congr_left fun k hk => ?_
    have := ok_kids hok hi k hk
    simp only
    omega
theorem two_ok {A B : List Hd} (hA : OkHeads A) (hB : OkHeads B) : OkHeads (two A B) := fun x hx => by
  have hl : (two A B).length = A.length + B.length := by simp [two]
  rw [hl]
  rcases List.mem_append.1 hx with h | h
  · refine headB_move (hA x h) rfl (fun k hk => ?_)
    obtain ⟨i, hi⟩ := List.getElem?_of_mem h
    have := ok_kids hA hi k hk
    omega
  · obtain ⟨y, hy, rfl⟩ := List.mem_map.1 h
    refine headB_move (hB y hy) (by simp [shH]) (fun k hk => ?_)
    obtain ⟨q, hq, rfl⟩ := List.mem_map.1 hk
    obtain ⟨i, hi⟩ := List.getElem?_of_mem hy
    have := ok_kids hB hi q hq
    omega
theorem NPl.reroot {HS : List Hd} {cl : List Nat} {r r' : Nat} {ord : List Nat} {OS : List Hd} (h : NPl HS cl r ord OS []) (e : cl.getD r 0 = cl.getD r' 0) : NPl HS cl r' ord OS [] := ⟨h.le, h.heads, h.grow, h.nodup, h.lt, by rw [← e]; exact h.first, h.of, h.fwd⟩
/-- alike roots: one normal graph. -/
theorem norm_same {A B OA OB : List Hd} (hA : OkHeads A) (hB : OkHeads B) (hl : A.length + B.length ≤ 100) {ra rb : Nat} (hra : ra < A.length) (hrb : rb < B.length) (nA : NormF A ra OA) (nB : NormF B rb OB) (hb : Bis A B ra rb) : Alk OA OB := by
  obtain ⟨cl, ord, a1, a2, a3, a4⟩ := nA
  obtain ⟨cl', ord', b1, b2, b3, b4⟩ := nB
  have hU := two_ok hA hB
  have hlU : (two A B).length = A.length + B.length := by simp [two]
  obtain ⟨c1, c2, c3, c4⟩ := clL_all hU
  have hbd : ∀ i, i < (two A B).length → (clL (two A B)).getD i 0 < 100 := fun i hi => by have := c2 i hi; omega
  obtain ⟨o1, p1, p2⟩ := a3.into (emb_l hA) hA a1 a2 c3 c4 hra hbd
  obtain ⟨o2, q1, q2⟩ := b3.into (emb_r hB) hB b1 b2 c3 c4 hrb hbd
  have he : (clL (two A B)).getD ra 0 = (clL (two A B)).getD (A.length + rb) 0 := by
    obtain ⟨R, hR, h1⟩ := hb
    refine c4 (fun p q => ∃ i j, i < A.length ∧ j < B.length ∧ p = i ∧ q = A.length + j ∧ R i j) (fun p q x y hr hx hy => ?_) _ _ (by omega) (by omega) ⟨ra, rb, hra, hrb, rfl, rfl, h1⟩
    obtain ⟨i, j, hi, hj, rfl, rfl, h0⟩ := hr
    obtain ⟨a, ha⟩ : ∃ a, A[p]? = some a := ⟨_, List.getElem?_eq_getElem hi⟩
    obtain ⟨b, hb⟩ : ∃ b, B[j]? = some b := ⟨_, List.getElem?_eq_getElem hj⟩
    obtain ⟨a', s0, s1, s2, s3, s4⟩ := emb_l (B := B) hA p a ha
    obtain ⟨b', t0, t1, t2, t3, t4⟩ := emb_r (A := A) hB j b hb
    rw [id] at s0
    rw [hx] at s0
    rw [hy] at t0
    cases s0
    cases t0
    obtain ⟨u1, u2, u3, u4⟩ := hR.pl p j a b ha hb h0
    refine ⟨by rw [s1, t1, u1], by rw [s2, t2, u2], by rw [s3, t3, u3], by rw [s4, t4]; simpa using u4, fun n k l hk hl => ?_⟩
    rw [s4, List.getElem?_map] at hk
    rw [t4, List.getElem?_map] at hl
    cases hk0 : a.KS[n]? with
    | none => rw [hk0] at hk; cases hk
    | some k0 =>
      cases hl0 : b.KS[n]? with
      | none => rw [hl0] at hl; cases hl
      | some l0 =>
        rw [hk0] at hk
        rw [hl0] at hl
        simp only [Option.map_some, Option.some.injEq, id] at hk hl
        have r1 := ok_kids hA ha k0 (List.mem_of_getElem? hk0)
        have r2 := ok_kids hB hb l0 (List.mem_of_getElem? hl0)
        exact ⟨k0.toNat, l0.toNat, by omega, by omega, by omega, by omega, hR.kid p j a b ha hb h0 n k0 l0 hk0 hl0⟩
  exact ((p1.reroot he).one q1 c3 (by omega) (by omega)).1
/-- the normal graph is alike to the graph. -/
theorem NormF.bis {A OA : List Hd} (hA : OkHeads A) {ra : Nat} (hra : ra < A.length) (nA : NormF A ra OA) : Bis OA A 0 ra := by
  obtain ⟨cl, ord, a1, a2, a3, a4⟩ := nA
  exact ⟨_, a3.rel2 hA a1, a3.root2 hra⟩
theorem NormF.ok {A OA : List Hd} (hA : OkHeads A) {ra : Nat} (nA : NormF A ra OA) (hb : OA.length ≤ 4096) : graphB 0 OA = true := by
  obtain ⟨cl, ord, a1, a2, a3, a4⟩ := nA
  exact a3.graph a4 hA hb
/-- the same normal graph: alike roots. -/
theorem same_norm {A B OA OB : List Hd} (hA : OkHeads A) (hB : OkHeads B) {ra rb : Nat} (hra : ra < A.length) (hrb : rb < B.length) (nA : NormF A ra OA) (nB : NormF B rb OB) (h : Alk OA OB) : Bis A B ra rb := by
  obtain ⟨R, hR, h1⟩ := nA.bis hA hra
  obtain ⟨R', hR', h2⟩ := nB.bis hB hrb
  have h0 : 0 < OA.length := by
    obtain ⟨cl, ord, a1, a2, a3, a4⟩ := nA
    have := (List.getElem?_eq_some_iff.1 a3.first).1
    omega
  obtain ⟨hoa, hao⟩ : OkHeads OA ∧ True := ⟨fun x hx => by
    obtain ⟨cl, ord, a1, a2, a3, a4⟩ := nA
    obtain ⟨i, hi⟩ := List.getElem?_of_mem hx
    obtain ⟨r, y, h1, h2, h3, h4, h5, h6, h7⟩ := (a3.heads i x hi).of
    rw [h3, h4, h5]
    refine headB_move (hA y (List.mem_of_getElem? h1)) (by rw [h6, List.length_map]) (fun k hk => ?_)
    rw [a4]
    exact a3.kids_lt x hx k hk, trivial⟩
  refine ⟨fun i j => ∃ k, k < OA.length ∧ R k i ∧ R' k j, ⟨fun i j x y hx hy e => ?_, fun i j x y hx hy e n a b ha hb => ?_⟩, 0, h0, h1, h2⟩
  · obtain ⟨k, hk, e1, e2⟩ := e
    obtain ⟨z, hz⟩ : ∃ z, OA[k]? = some z := ⟨_, List.getElem?_eq_getElem hk⟩
    obtain ⟨z', hz'⟩ : ∃ z', OB[k]? = some z' := ⟨_, List.getElem?_eq_getElem (by rw [h.len]; exact hk)⟩
    obtain ⟨f1, f2, f3, f4⟩ := h.eq k z z' hz hz'
    obtain ⟨p1, p2, p3, p4⟩ := hR.pl k i z x hz hx e1
    obtain ⟨q1, q2, q3, q4⟩ := hR'.pl k j z' y hz' hy e2
    refine ⟨by rw [← p1, ← q1, f1], by rw [← p2, ← q2, f2], by rw [← p3, ← q3, f3], by rw [← p4, ← q4, f4]⟩
  · obtain ⟨k, hk, e1, e2⟩ := e
    obtain ⟨z, hz⟩ : ∃ z, OA[k]? = some z := ⟨_, List.getElem?_eq_getElem hk⟩
    obtain ⟨z', hz'⟩ : ∃ z', OB[k]? = some z' := ⟨_, List.getElem?_eq_getElem (by rw [h.len]; exact hk)⟩
    obtain ⟨f1, f2, f3, f4⟩ := h.eq k z z' hz hz'
    obtain ⟨p1, p2, p3, p4⟩ := hR.pl k i z x hz hx e1
    obtain ⟨d, hd⟩ : ∃ d, z.KS[n]? = some d := ⟨_, List.getElem?_eq_getElem (by rw [p4]; exact (List.getElem?_eq_some_iff.1 ha).1)⟩
    have hr := ok_kids hoa hz d (List.mem_of_getElem? hd)
    exact ⟨d.toNat, by omega, hR.kid k i z x hz hx e1 n d a hd ha, hR'.kid k j z' y hz' hy e2 n d b (by rw [f4]; exact hd) hb⟩
/-- the normal graph has no more heads. -/
theorem NormF.le {A OA : List Hd} (hA : OkHeads A) (hl : A.length ≤ 100) {ra : Nat} (hra : ra < A.length) (nA : NormF A ra OA) : OA.length ≤ A.length := by
  obtain ⟨cl, ord, a1, a2, a3, a4⟩ := nA
  obtain ⟨c1, c2, c3, c4⟩ := clL_all hA
  obtain ⟨o1, p1, p2⟩ := a3.turn hA a1 a2 c3 c4 hra (fun i hi => by have := c2 i hi; omega)
  have := nodup_len A.length o1 p1.nodup (fun x hx => by
    obtain ⟨k, hk, rfl⟩ := p1.of x hx
    exact c2 k hk)
  omega
theorem NormF.oks {A OA : List Hd} (hA : OkHeads A) (hl : A.length ≤ 100) {ra : Nat} (hra : ra < A.length) (nA : NormF A ra OA) : ∀ x ∈ OA, OneOk x := by
  have h1 := nA.le hA hl hra
  exact OneOk.all (OkHeads.of_graph (nA.ok hA (by omega))).1 (by omega)
/-- the bytes of two normal graphs are the same just if the roots are alike. -/
theorem bytes_bis {A B OA OB : List Hd} (hA : OkHeads A) (hB : OkHeads B) (hl : A.length + B.length ≤ 100) {ra rb : Nat} (hra : ra < A.length) (hrb : rb < B.length) (nA : NormF A ra OA) (nB : NormF B rb OB) : bytesL OA = bytesL OB ↔ Bis A B ra rb := by
  constructor
  · intro h
    exact same_norm hA hB hra hrb nA nB (bytes_inj _ _ (nA.oks hA (by omega) hra) (nB.oks hB (by omega) hrb) h)
  · intro h
    exact (norm_same hA hB hl hra hrb nA nB h).bytes
end Go.Proofs.YtifilhkkgkihpaaGreatDoor
set_option linter.unusedSimpArgs false
set_option linter.unusedVariables false
namespace Go.Proofs.YtifilhkkgkihpaaGreatDoor
open Go.RowKit
theorem bs_size {s : ByteArray} : s.data.toList.length = s.size := by rw [Array.length_toList]; rfl
theorem app_list (s t : ByteArray) : (s ++ t).data.toList = s.data.toList ++ t.data.toList := by
  rw [ByteArray.data_append, Array.toList_append]
theorem kidsL_snoc (NS : List ByteArray) : ∀ (K : List Int) (i : Nat) (k : Int), kidsL NS i (K ++ [k]) = kidsL NS i K ++ kidL NS (i + K.length) k
  | [], i, k => by simp [kidsL]
  | a :: K, i, k => by
    rw [List.cons_append]
    unfold kidsL
    rw [kidsL_snoc NS K (i + 1) k, List.append_assoc, List.length_cons, show i + 1 + K.length = i + (K.length + 1) from by omega]
theorem kidsL_step {NS : List ByteArray} {KS : List Int} {j : Nat} {k : Int} (h : KS[j]? = some k) : kidsL NS 0 (KS.take (j + 1)) = kidsL NS 0 (KS.take j) ++ kidL NS j k := by
  have hl := (List.getElem?_eq_some_iff.1 h).1
  rw [List.take_add_one, h]
  simp only [Option.toList]
  rw [kidsL_snoc, List.length_take, Nat.min_eq_left (by omega), Nat.zero_add]
theorem bytesL_step {OS : List Hd} {i : Nat} {x : Hd} (h : OS[i]? = some x) : bytesL (OS.take (i + 1)) = bytesL (OS.take i) ++ rowL x := by
  unfold bytesL
  rw [List.take_add_one, h, List.flatMap_append]
  simp
theorem decL_len (i : Nat) : (decL i).length ≤ 2 := by unfold decL; split <;> simp
theorem kidL_len {NS : List ByteArray} (hN : ∀ s ∈ NS, s.size ≤ 60) (j : Nat) (k : Int) : (kidL NS j k).length ≤ 64 := by
  unfold kidL
  have := decL_len k.toNat
  cases h : NS[j]? with
  | none => simp; omega
  | some s =>
    have h1 := hN s (List.mem_of_getElem? h)
    have e : s.data.toList.length = s.size := by rw [Array.length_toList]; rfl
    simp only [List.length_append, List.length_cons, List.length_nil, e]
    omega
theorem kidsL_len {NS : List ByteArray} (hN : ∀ s ∈ NS, s.size ≤ 60) : ∀ (K : List Int) (i : Nat), (kidsL NS i K).length ≤ K.length * 64
  | [], i => by simp [kidsL]
  | k :: K, i => by
    unfold kidsL
    have h1 := kidL_len hN i k
    have h2 := kidsL_len hN K (i + 1)
    simp only [List.length_append, List.length_cons]
    omega
/-- a head with few and short names, and few kids. -/
def FewV (x : Hd) : Prop := (∀ s ∈ x.NS, s.size ≤ 60) ∧ x.KS.length ≤ 20 ∧ x.NS.length ≤ 20
theorem rowL_len {x : Hd} (h : FewV x) : (rowL x).length ≤ 1300 := by
  unfold rowL
  rw [signHead_list]
  have := kidsL_len h.1 x.KS 0
  have := h.2.1
  simp only [List.length_append, List.length_cons, List.length_nil]
  omega
theorem bytesL_len : ∀ {OS : List Hd}, (∀ x ∈ OS, FewV x) → (bytesL OS).length ≤ OS.length * 1300
  | [], _ => by simp [bytesL]
  | x :: OS, h => by
    have h1 := rowL_len (h x (by simp))
    have h2 := bytesL_len (OS := OS) (fun y hy => h y (by simp [hy]))
    unfold bytesL at h2 ⊢
    rw [List.flatMap_cons, List.length_append, List.length_cons]
    omega
theorem few_v {w : World} {la : Option Addr} {ln : Nat} {HS : List Hd} (hH : HeadsIn w la ln HS) (hf : HS.all fewH = true) : ∀ x ∈ HS, FewV x := fun x hx => by
  obtain ⟨i, hi⟩ := List.getElem?_of_mem hx
  have hl := (List.getElem?_eq_some_iff.1 hi).1
  obtain ⟨g, o, e, hg, hc⟩ := hH.2.resolve_left (by rw [hH.1]; omega)
  have ok := (hc i x hi).ok
  obtain ⟨h1, h2, h3⟩ := few_head hf hx
  exact ⟨h3, by rw [← ok.kids.1]; exact h1, by rw [← ok.names.1]; exact h2⟩
theorem NormF.few {A OA : List Hd} {ra : Nat} (nA : NormF A ra OA) (hf : ∀ x ∈ A, FewV x) : ∀ x ∈ OA, FewV x := fun x hx => by
  obtain ⟨cl, ord, a1, a2, a3, a4⟩ := nA
  obtain ⟨i, hi⟩ := List.getElem?_of_mem hx
  obtain ⟨r, y, h1, h2, h3, h4, h5, h6, h7⟩ := (a3.heads i x hi).of
  have := hf y (List.mem_of_getElem? h1)
  refine ⟨by rw [h5]; exact this.1, by rw [h6, List.length_map]; exact this.2.1, by rw [h5]; exact this.2.2⟩
/-- the normal graph's heads are little where they lie. -/
theorem few_in {w : World} {la : Option Addr} {ln : Nat} {HS : List Hd} (hH : HeadsIn w la ln HS) (hf : ∀ x ∈ HS, FewV x) : HS.all fewH = true := by
  refine List.all_eq_true.2 fun x hx => ?_
  obtain ⟨i, hi⟩ := List.getElem?_of_mem hx
  have hl := (List.getElem?_eq_some_iff.1 hi).1
  obtain ⟨g, o, e, hg, hc⟩ := hH.2.resolve_left (by rw [hH.1]; omega)
  have ok := (hc i x hi).ok
  obtain ⟨h1, h2, h3⟩ := hf x hx
  unfold fewH
  simp only [Bool.and_eq_true, decide_eq_true_eq, List.all_eq_true]
  exact ⟨⟨by rw [ok.kids.1]; exact h2, by rw [ok.names.1]; exact h3⟩, h1⟩
end Go.Proofs.YtifilhkkgkihpaaGreatDoor
