/- Plain: the normal graphs of two graphs are alike just if their roots are. -/
import Derived.Test.YtifilhkkgkihpaaGreatDoorAs14
import Derived.Test.YtifilhkkgkihpaaGreatDoorAs17
set_option linter.unusedSimpArgs false
set_option linter.unusedVariables false
set_option linter.unusedSimpArgs false
set_option linter.unusedVariables false
namespace Go.Proofs.YtifilhkkgkihpaaGreatDoor
open Go.RowKit
/-- a row of heads lies in another one, its i-th head at e i. -/
def Emb (HS U : List Hd) (e : Nat → Nat) : Prop := ∀ i h, HS[i]? = some h → ∃ h', U[e i]? = some h' ∧ h'.kd = h.kd ∧ h'.op = h.op ∧ h'.NS = h.NS ∧ h'.KS = h.KS.map (fun k => ((e k.toNat : Nat) : Int))
theorem Emb.cl {HS U : List Hd} {e : Nat → Nat} (he : Emb HS U e) (hok : OkHeads HS) {cl cl' : List Nat} (hst : Stands HS cl) (hco : Coarse HS cl) (hst' : Stands U cl') (hco' : Coarse U cl') {i j : Nat} (hi : i < HS.length) (hj : j < HS.length) : cl.getD i 0 = cl.getD j 0 ↔ cl'.getD (e i) 0 = cl'.getD (e j) 0 := by
  have hlt : ∀ i, i < HS.length → e i < U.length := fun i hi => by
    obtain ⟨h', h1, _⟩ := he i _ (List.getElem?_eq_getElem hi)
    exact (List.getElem?_eq_some_iff.1 h1).1
  constructor
  · intro h0
    refine hco' (fun p q => ∃ i j, i < HS.length ∧ j < HS.length ∧ p = e i ∧ q = e j ∧ cl.getD i 0 = cl.getD j 0) (fun p q x y hr hx hy => ?_) _ _ (hlt i hi) (hlt j hj) ⟨i, j, hi, hj, rfl, rfl, h0⟩
    obtain ⟨i, j, hi, hj, rfl, rfl, h0⟩ := hr
    obtain ⟨a, ha⟩ : ∃ a, HS[i]? = some a := ⟨_, List.getElem?_eq_getElem hi⟩
    obtain ⟨b, hb⟩ : ∃ b, HS[j]? = some b := ⟨_, List.getElem?_eq_getElem hj⟩
    obtain ⟨a', a0, a1, a2, a3, a4⟩ := he i a ha
    obtain ⟨b', b0, b1, b2, b3, b4⟩ := he j b hb
    rw [hx] at a0
    rw [hy] at b0
    cases a0
    cases b0
    obtain ⟨s1, s2, s3, s4⟩ := hst i j a b ha hb h0
    refine ⟨by rw [a1, b1, s1], by rw [a2, b2, s2], by rw [a3, b3, s3], by rw [a4, b4]; simpa using congrArg List.length s4, fun n k l hk hl => ?_⟩
    rw [a4, List.getElem?_map] at hk
    rw [b4, List.getElem?_map] at hl
    cases hk0 : a.KS[n]? with
    | none => rw [hk0] at hk; cases hk
    | some k0 =>
      cases hl0 : b.KS[n]? with
      | none => rw [hl0] at hl; cases hl
      | some l0 =>
        rw [hk0] at hk
        rw [hl0] at hl
        simp only [Option.map_some, Option.some.injEq] at hk hl
        have r1 := ok_kids hok ha k0 (List.mem_of_getElem? hk0)
        have r2 := ok_kids hok hb l0 (List.mem_of_getElem? hl0)
        have h1 := congrArg (fun l => l[n]?) s4
        simp only [List.getElem?_map, hk0, hl0, Option.map_some, Option.some.injEq] at h1
        exact ⟨k0.toNat, l0.toNat, by omega, by omega, by rw [← hk]; simp, by rw [← hl]; simp, h1⟩
  · intro h0
    refine hco (fun p q => p < HS.length ∧ q < HS.length ∧ cl'.getD (e p) 0 = cl'.getD (e q) 0) (fun p q x y hr hx hy => ?_) i j hi hj ⟨hi, hj, h0⟩
    obtain ⟨a', a0, a1, a2, a3, a4⟩ := he p x hx
    obtain ⟨b', b0, b1, b2, b3, b4⟩ := he q y hy
    obtain ⟨s1, s2, s3, s4⟩ := hst' _ _ a' b' a0 b0 hr.2.2
    rw [a4, b4, List.map_map, List.map_map] at s4
    refine ⟨by rw [← a1, ← b1, s1], by rw [← a2, ← b2, s2], by rw [← a3, ← b3, s3], by simpa using congrArg List.length s4, fun n k l hk hl => ?_⟩
    have r1 := ok_kids hok hx k (List.mem_of_getElem? hk)
    have r2 := ok_kids hok hy l (List.mem_of_getElem? hl)
    have h1 := congrArg (fun l => l[n]?) s4
    simp only [List.getElem?_map, hk, hl, Option.map_some, Option.some.injEq, Function.comp, Int.toNat_natCast] at h1
    exact ⟨by omega, by omega, h1⟩
theorem NPl.into {HS U : List Hd} {e : Nat → Nat} (he : Emb HS U e) (hok : OkHeads HS) {cl cl' : List Nat} {root : Nat} {ord : List Nat} {OS : List Hd} (h : NPl HS cl root ord OS []) (hst : Stands HS cl) (hco : Coarse HS cl) (hst' : Stands U cl') (hco' : Coarse U cl') (hroot : root < HS.length) (hb : ∀ i, i < U.length → cl'.getD i 0 < 100) : ∃ ord', NPl U cl' (e root) ord' OS [] ∧ ord'.length = ord.length := by
  have hlt : ∀ i, i < HS.length → e i < U.length := fun i hi => by
    obtain ⟨h', h1, _⟩ := he i _ (List.getElem?_eq_getElem hi)
    exact (List.getElem?_eq_some_iff.1 h1).1
  have hex : ∀ c : Nat, ∃ d : Nat, ∀ k, k < HS.length → cl.getD k 0 = c → cl'.getD (e k) 0 = d := fun c => by
    by_cases hc : ∃ k, k < HS.length ∧ cl.getD k 0 = c
    · obtain ⟨k, hk, rfl⟩ := hc
      exact ⟨cl'.getD (e k) 0, fun m hm h2 => (he.cl hok hst hco hst' hco' hm hk).1 h2⟩
    · exact ⟨0, fun k hk h2 => absurd ⟨k, hk, h2⟩ hc⟩
  obtain ⟨g, hg⟩ := Classical.axiomOfChoice hex
  have hg2 : ∀ k, k < HS.length → cl'.getD (e k) 0 = g (cl.getD k 0) := fun k hk => hg _ k hk rfl
  have hinj : ∀ a ∈ ord, ∀ k, k < HS.length → g a = g (cl.getD k 0) → a = cl.getD k 0 := fun a ha k hk h2 => by
    obtain ⟨m, hm, rfl⟩ := h.of a ha
    rw [← hg2 m hm, ← hg2 k hk] at h2
    exact (he.cl hok hst hco hst' hco' hm hk).2 h2
  have hix : ∀ k, k < HS.length → idxN (ord.map g) (cl'.getD (e k) 0) = idxN ord (cl.getD k 0) := fun k hk => by
    rw [hg2 k hk]
    exact idxN_map g ord _ (fun a ha h2 => hinj a ha k hk h2)
  refine ⟨ord.map g, ⟨by simpa using h.le, fun k x hx => ?_, by simpa using h.grow, ?_, fun c hc => ?_, ?_, fun c hc => ?_, h.fwd⟩, by simp⟩
  · obtain ⟨r, y, h1, h2, h3, h4, h5, h6, h7⟩ := (h.heads k x hx).of
    have hrl := (List.getElem?_eq_some_iff.1 h1).1
    have hkl : k < ord.length := Nat.lt_of_lt_of_le (List.getElem?_eq_some_iff.1 hx).1 h.le
    have hky : ∀ q ∈ y.KS, q.toNat < HS.length := fun q hq => by have := ok_kids hok h1 q hq; omega
    obtain ⟨y', g0, g1, g2, g3, g4⟩ := he r y h1
    refine ⟨e r, y', g0, ?_, by rw [h3, g1], by rw [h4, g2], by rw [h5, g3], ?_, fun q hq => ?_⟩
    · rw [hg2 r hrl, h2, List.getD_eq_getElem?_getD, List.getD_eq_getElem?_getD, List.getElem?_map, List.getElem?_eq_getElem hkl]
      rfl
    · rw [h6, g4, List.map_map]
      refine List.map_congr_left fun q hq => ?_
      simp only [Function.comp, Int.toNat_natCast]
      unfold posN
      rw [hix _ (hky q hq)]
    · rw [g4] at hq
      obtain ⟨q0, hq0, rfl⟩ := List.mem_map.1 hq
      rw [Int.toNat_natCast, hix _ (hky q0 hq0)]
      exact h7 q0 hq0
  · have : (ord.map g).Nodup := by
      rw [List.nodup_iff_pairwise_ne, List.pairwise_map]
      refine List.Pairwise.imp_of_mem ?_ (List.nodup_iff_pairwise_ne.1 h.nodup)
      intro a b ha hb2 hne h2
      obtain ⟨k, hk, rfl⟩ := h.of b hb2
      exact hne (hinj a ha k hk h2)
    exact this
  · obtain ⟨a, ha, rfl⟩ := List.mem_map.1 hc
    obtain ⟨k, hk, rfl⟩ := h.of a ha
    rw [← hg2 k hk]
    exact hb _ (hlt k hk)
  · rw [List.getElem?_map, h.first, hg2 root hroot]
    rfl
  · obtain ⟨a, ha, rfl⟩ := List.mem_map.1 hc
    obtain ⟨k, hk, rfl⟩ := h.of a ha
    exact ⟨e k, hlt k hk, hg2 k hk⟩
/-- a head whose kids are told from n on. -/
def shH (n : Nat) (h : Hd) : Hd := { h with KS := h.KS.map (· + (n : Int)) }
/-- two rows of heads, one behind the other. -/
def two (A B : List Hd) : List Hd := A ++ B.map (shH A.length)
theorem two_ok {A B : List Hd} (hA : OkHeads A) (hB : OkHeads B) : OkHeads (two A B) := fun x hx => by
  have hl : (two A B).length = A.length + B.length := by simp [two]
  rw [hl]
  rcases List.mem_append.1 hx with h | h
  · refine headB_move (hA x h) rfl (fun k hk => ?_)
    obtain ⟨i, hi⟩ := List.getElem?_of_mem h
    have := ok_kids hA hi k hk
    omega
  · obtain ⟨y, hy, rfl⟩ := List.mem_map.1 h
    refine headB_move (hB y hy) (by simp [shH]) (fun k hk => ?_)
    obtain ⟨q, hq, rfl⟩ := List.mem_map.1 hk
    obtain ⟨i, hi⟩ := List.getElem?_of_mem hy
    have := ok_kids hB hi q hq
    omega
/-- the normal graph is alike to the graph. -/
theorem NormF.bis {A OA : List Hd} (hA : OkHeads A) {ra : Nat} (hra : ra < A.length) (nA : NormF A ra OA) : Bis OA A 0 ra := by
  obtain ⟨cl, ord, a1, a2, a3, a4⟩ := nA
  exact ⟨_, a3.rel2 hA a1, a3.root2 hra⟩
theorem NormF.ok {A OA : List Hd} (hA : OkHeads A) {ra : Nat} (nA : NormF A ra OA) (hb : OA.length ≤ 4096) : graphB 0 OA = true := by
  obtain ⟨cl, ord, a1, a2, a3, a4⟩ := nA
  exact a3.graph a4 hA hb
/-- the normal graph has no more heads. -/
theorem NormF.le {A OA : List Hd} (hA : OkHeads A) (hl : A.length ≤ 100) {ra : Nat} (hra : ra < A.length) (nA : NormF A ra OA) : OA.length ≤ A.length := by
  obtain ⟨cl, ord, a1, a2, a3, a4⟩ := nA
  obtain ⟨c1, c2, c3, c4⟩ := clL_all hA
  obtain ⟨o1, p1, p2⟩ := a3.turn hA a1 a2 c3 c4 hra (fun i hi => by have := c2 i hi; omega)
  have := nodup_len A.length o1 p1.nodup (fun x hx => by
    obtain ⟨k, hk, rfl⟩ := p1.of x hx
    exact c2 k hk)
  omega
theorem NormF.oks {A OA : List Hd} (hA : OkHeads A) (hl : A.length ≤ 100) {ra : Nat} (hra : ra < A.length) (nA : NormF A ra OA) : ∀ x ∈ OA, OneOk x := by
  have h1 := nA.le hA hl hra
  exact OneOk.all (OkHeads.of_graph (nA.ok hA (by omega))).1 (by omega)
end Go.Proofs.YtifilhkkgkihpaaGreatDoor
