/- Walks and plain facts. -/
import Derived.Test.YtifilhkkgkihpaaGreatDoorBm03
import Derived.Test.YtifilhkkgkihpaaGreatDoorBm12
import Derived.Test.YtifilhkkgkihpaaGreatDoorBm01
import Derived.Test.YtifilhkkgkihpaaGreatDoorBm04
import Derived.Test.YtifilhkkgkihpaaGreatDoorBm02
set_option linter.unusedSimpArgs false
set_option linter.unusedVariables false
namespace Go.Proofs.YtifilhkkgkihpaaGreatDoor
open Go.RowKit
/-- no head that is reached is any, or open; nor none, if that is asked. -/
def PlainAt (A : List Hd) (nn : Bool) (r : Nat) : Prop := ∃ P : Nat → Prop, P r ∧ ∀ i x, P i → A[i]? = some x → x.kd ≠ 5 ∧ x.op = false ∧ (nn = true → x.kd ≠ 6) ∧ ∀ k ∈ x.KS, P k.toNat
def plainH (nn : Bool) (x : Hd) : Bool := !(x.kd == 5 || x.op || nn && x.kd == 6)
theorem plain_norm {A OS : List Hd} (hok : OkHeads A) {r : Nat} (hr : r < A.length) (hn : NormF A r OS) (hoO : OkHeads OS) (h0 : 0 < OS.length) {nn : Bool} (hp : ∀ x ∈ OS, plainH nn x = true) : PlainAt A nn r := by
  obtain ⟨R, hR, h1⟩ := hn.bis hok hr
  refine ⟨fun i => ∃ o, o < OS.length ∧ R o i, ⟨0, h0, h1⟩, fun i x hi hx => ?_⟩
  obtain ⟨o, ho, hr⟩ := hi
  obtain ⟨y, hy⟩ : ∃ y, OS[o]? = some y := ⟨_, List.getElem?_eq_getElem ho⟩
  obtain ⟨p1, p2, p3, p4⟩ := hR.pl o i y x hy hx hr
  have hq := hp y (List.mem_of_getElem? hy)
  unfold plainH at hq
  simp only [Bool.not_eq_true', Bool.or_eq_false_iff, Bool.and_eq_false_iff, beq_eq_false_iff_ne] at hq
  refine ⟨by rw [← p1]; exact hq.1.1, by rw [← p2]; exact hq.1.2, fun hnn => ?_, fun k hk => ?_⟩
  · rw [← p1]
    rcases hq.2 with h | h
    · rw [hnn] at h; cases h
    · exact h
  · obtain ⟨n, hn⟩ := List.getElem?_of_mem hk
    obtain ⟨a, ha⟩ : ∃ a, y.KS[n]? = some a := ⟨_, List.getElem?_eq_getElem (by rw [p4]; exact (List.getElem?_eq_some_iff.1 hn).1)⟩
    have hka := ok_kids hoO hy a (List.mem_of_getElem? ha)
    exact ⟨a.toNat, by omega, hR.kid o i y x hy hx hr n a k ha hn⟩
theorem grow_mem : ∀ (l : List Int) (n c : Nat), growF l n = some c → ∀ v, n ≤ v → v < c → (v : Int) ∈ l
  | [], n, c, h, v, h1, h2 => by unfold growF at h; cases h; omega
  | d :: l, n, c, h, v, h1, h2 => by
    unfold growF at h
    split at h
    · exact List.mem_cons_of_mem _ (grow_mem l n c h v h1 h2)
    · split at h
      · rename_i hd
        by_cases hv : v = n
        · subst hv; rw [hd]; exact List.mem_cons_self
        · exact List.mem_cons_of_mem _ (grow_mem l (n + 1) c h v (by omega) h2)
      · cases h
theorem plain_rev {A OS : List Hd} (hok : OkHeads A) {r : Nat} (hr : r < A.length) (hn : NormF A r OS) {nn : Bool} (hp : PlainAt A nn r) : ∀ x ∈ OS, plainH nn x = true := by
  obtain ⟨P, hP, kP⟩ := hp
  obtain ⟨cl, ord, a1, a2, a3, a4⟩ := hn
  have hR := a3.rel2 hok a1
  have h1 := a3.root2 hr
  have hall : ∀ o, o < OS.length → ∃ i, (i < A.length ∧ ord[o]? = some (cl.getD i 0)) ∧ P i := fun o => by
    induction o using Nat.strongRecOn with
    | ind o ih =>
      intro ho
      by_cases h0 : o = 0
      · subst h0; exact ⟨r, h1, hP⟩
      · obtain ⟨c, hc, hoc⟩ := a3.fwd o ho
        obtain ⟨x, hx, hox⟩ := List.mem_flatMap.1 (grow_mem _ _ _ hc o (by omega) hoc)
        obtain ⟨j, hj⟩ := List.getElem?_of_mem hx
        rw [List.getElem?_take] at hj
        split at hj
        · rename_i hjo
          obtain ⟨i, hi, hPi⟩ := ih j hjo (by omega)
          obtain ⟨y, hy⟩ : ∃ y, A[i]? = some y := ⟨_, List.getElem?_eq_getElem hi.1⟩
          obtain ⟨n, hn⟩ := List.getElem?_of_mem hox
          have hp4 := (hR.pl j i x y hj hy hi).2.2.2
          obtain ⟨b, hb⟩ : ∃ b, y.KS[n]? = some b := ⟨_, List.getElem?_eq_getElem (by rw [← hp4]; exact (List.getElem?_eq_some_iff.1 hn).1)⟩
          have h2 := hR.kid j i x y hj hy hi n _ b hn hb
          rw [Int.toNat_natCast] at h2
          exact ⟨b.toNat, h2, (kP i y hPi hy).2.2.2 b (List.mem_of_getElem? hb)⟩
        · cases hj
  intro x hx
  obtain ⟨o, ho⟩ := List.getElem?_of_mem hx
  obtain ⟨i, hi, hPi⟩ := hall o (List.getElem?_eq_some_iff.1 ho).1
  obtain ⟨y, hy⟩ : ∃ y, A[i]? = some y := ⟨_, List.getElem?_eq_getElem hi.1⟩
  obtain ⟨p1, p2, p3, p4⟩ := hR.pl o i x y ho hy hi
  obtain ⟨q1, q2, q3, _⟩ := kP i y hPi hy
  unfold plainH
  rw [p1, p2, q2]
  have e5 : (y.kd == 5) = false := by simpa using q1
  rw [e5]
  cases nn with
  | false => rfl
  | true =>
    have e6 : (y.kd == 6) = false := by simpa using q3 rfl
    rw [e6]; rfl
/-- one pair: what the cast asks, below asked. -/
theorem ask_below {L L2 : List Hd} {dyn sa sb : Nat} {h k h' k' : Hd} {n n' : Int} {t : Bool} (okh : headB h.kd h.op n h.NS h.KS = true) (okk : headB k.kd k.op n' k.NS k.KS = true)
    (eh : h'.kd = h.kd ∧ h'.NS = h.NS ∧ h'.op = h.op ∧ h'.KS = h.KS.map (· + (sa : Int))) (ek : k'.kd = k.kd ∧ k'.NS = k.NS ∧ k'.op = k.op ∧ k'.KS = k.KS.map (· + (sb : Int)))
    (h5 : h.kd ≠ 5) (ho : h.op = false) {l : List PrB} (hl : askB L2 h k t = some l) :
    ∃ m, askA L dyn h' k' = some m ∧ ∀ q ∈ m, ∃ x y : Nat, (x : Int) ∈ h.KS ∧ (y : Int) ∈ k.KS ∧ ((q = (sa + x, sb + y) ∧ (x, y, t) ∈ l) ∨ (q = (sb + y, sa + x) ∧ (y, x, !t) ∈ l)) := by
  obtain ⟨a1, a2, a3, a4, a5, a6, a7⟩ := head_kind okh
  obtain ⟨b1, b2, b3, b4, b5, b6, b7⟩ := head_kind okk
  obtain ⟨eh1, eh2, eh3, eh4⟩ := eh
  obtain ⟨ek1, ek2, ek3, ek4⟩ := ek
  have hna : ∀ (K : List Int) (s : Nat) (p : Nat) (x : Int), K[p]? = some x → (K.map (· + (s : Int)))[p]? = some (x + s) := fun K s p x hx => by simp [List.getElem?_map, hx]
  unfold askB at hl
  unfold askA
  rw [eh1, ek1]
  by_cases c1 : h.kd = 6 ∨ k.kd = 5
  · rw [if_pos c1]; exact ⟨[], rfl, fun q hq => by cases hq⟩
  rw [if_neg c1] at hl
  rw [if_neg c1, if_neg h5]
  by_cases c2 : h.kd ≠ k.kd
  · rw [if_pos c2] at hl; cases hl
  rw [if_neg c2] at hl
  by_cases c4 : h.kd = 4
  · rw [if_pos c4, if_neg (show ¬ k.kd = 7 by omega), if_neg (show ¬ (k.kd = 8 ∨ k.kd = 9) by omega)]
    exact ⟨[], rfl, fun q hq => by cases hq⟩
  rw [if_neg c4, if_neg (show ¬ k.kd = 4 by omega), if_neg c2]
  by_cases c7 : h.kd = 7
  · rw [if_pos c7] at hl
    rw [if_pos c7]
    obtain ⟨a, b, ha⟩ := two_of (a5 c7).2
    obtain ⟨c, d, hc⟩ := two_of (b5 (by omega)).2
    rw [ha, hc] at hl
    rw [eh4, ek4, ha, hc]
    have ra := a3 a (by rw [ha]; simp)
    have rb := a3 b (by rw [ha]; simp)
    have rc := b3 c (by rw [hc]; simp)
    have rd := b3 d (by rw [hc]; simp)
    obtain ⟨a, rfl⟩ : ∃ z : Nat, a = (z : Int) := ⟨a.toNat, by omega⟩
    obtain ⟨b, rfl⟩ : ∃ z : Nat, b = (z : Int) := ⟨b.toNat, by omega⟩
    obtain ⟨c, rfl⟩ : ∃ z : Nat, c = (z : Int) := ⟨c.toNat, by omega⟩
    obtain ⟨d, rfl⟩ : ∃ z : Nat, d = (z : Int) := ⟨d.toNat, by omega⟩
    simp only [List.getD_cons_zero, List.getD_cons_succ, Int.toNat_natCast, Option.some.injEq] at hl
    subst hl
    refine ⟨_, rfl, fun q hq => ?_⟩
    simp only [List.map_cons, List.map_nil, List.getD_cons_zero, List.getD_cons_succ, List.mem_cons, List.not_mem_nil, or_false] at hq
    rcases hq with rfl | rfl
    · exact ⟨a, c, by simp, by simp, .inr ⟨by congr 1 <;> omega, by simp⟩⟩
    · exact ⟨b, d, by simp, by simp, .inl ⟨by congr 1 <;> omega, by simp⟩⟩
  rw [if_neg c7] at hl
  rw [if_neg c7]
  -- names: what find tells of the row moved
  have hfm : ∀ s, 0 ≤ findK h'.NS h'.KS s ↔ 0 ≤ findK h.NS h.KS s := fun s => by
    rw [eh2, eh4]
    by_cases hk : h.kd = 8 ∨ h.kd = 9
    · have h4 := a4 hk
      constructor
      · intro hf
        obtain ⟨p, x, h1, h2, h3⟩ := find_mem (by simpa using h4) hf
        exact find_ge h4 (fun k hk => (a3 k hk).1) (List.mem_of_getElem? h1)
      · intro hf
        obtain ⟨p, x, h1, h2, h3⟩ := find_mem h4 hf
        exact find_ge (by simpa using h4) (fun k hk => by obtain ⟨z, hz, rfl⟩ := List.mem_map.1 hk; have := (a3 z hz).1; omega) (List.mem_of_getElem? h1)
    · have h0 : h.NS = [] ∧ h.KS = [] := by
        have := a6 (by omega)
        exact ⟨List.length_eq_zero_iff.1 this.1, List.length_eq_zero_iff.1 this.2⟩
      rw [h0.1, h0.2]; simp
  have hfx : ∀ s, 0 ≤ findK h.NS h.KS s → (h.kd = 8 ∨ h.kd = 9) → ∃ (p x : Nat), h.NS[p]? = some s ∧ h.KS[p]? = some (x : Int) ∧ findK h.NS h.KS s = (x : Int) ∧ findK h'.NS h'.KS s = ((sa + x : Nat) : Int) := fun s hf hk => by
    obtain ⟨p, x, h1, h2, h3⟩ := find_mem (a4 hk) hf
    have hx := a3 x (List.mem_of_getElem? h2)
    obtain ⟨x, rfl⟩ : ∃ z : Nat, x = (z : Int) := ⟨x.toNat, by omega⟩
    refine ⟨p, x, h1, h2, h3, ?_⟩
    rw [eh2, eh4, find_own a2 h1 (hna _ sa _ _ h2)]
    omega
  have hzk : ∀ e ∈ k'.NS.zip k'.KS, ∃ (p y : Nat), k.NS[p]? = some e.1 ∧ k.KS[p]? = some (y : Int) ∧ e.2 = ((sb + y : Nat) : Int) ∧ (e.1, (y : Int)) ∈ k.NS.zip k.KS := fun e he => by
    obtain ⟨p, hp⟩ := List.getElem?_of_mem he
    obtain ⟨s, y⟩ := e
    rw [List.getElem?_zip_eq_some, ek2, ek4, List.getElem?_map] at hp
    obtain ⟨h1, h2⟩ := hp
    cases hy : k.KS[p]? with
    | none => rw [hy] at h2; cases h2
    | some y0 =>
      rw [hy] at h2
      simp only [Option.map_some, Option.some.injEq] at h2
      have r := b3 y0 (List.mem_of_getElem? hy)
      obtain ⟨y0, rfl⟩ : ∃ z : Nat, y0 = (z : Int) := ⟨y0.toNat, by omega⟩
      exact ⟨p, y0, h1, hy, by simp only; omega, List.mem_of_getElem? (List.getElem?_zip_eq_some.2 ⟨h1, hy⟩)⟩
  by_cases c8 : h.kd = 8
  · rw [if_neg (show ¬ h.kd = 9 by omega), if_pos c8] at hl
    rw [if_pos c8]
    have hkd : ∀ s, kidD dyn h' s = findK h'.NS h'.KS s := fun s => by unfold kidD; rw [if_neg (by rw [eh1]; exact c4)]
    unfold recB at hl
    split at hl
    · rename_i hall
      cases hl
      unfold recA
      rw [if_pos]
      · refine ⟨_, rfl, fun q hq => ?_⟩
        obtain ⟨e, he, rfl⟩ := List.mem_map.1 hq
        obtain ⟨p, y, g1, g2, g3, g4⟩ := hzk e he
        have g5 : 0 ≤ findK h.NS h.KS e.1 := by simpa using List.all_eq_true.1 hall _ g4
        obtain ⟨p', x, f1, f2, f3, f4⟩ := hfx e.1 g5 (.inl c8)
        refine ⟨x, y, List.mem_of_getElem? f2, List.mem_of_getElem? g2, .inl ⟨?_, List.mem_map.2 ⟨_, g4, ?_⟩⟩⟩
        · simp only [hkd, f4, g3, Int.toNat_natCast]
        · simp only [f3, Int.toNat_natCast]
      · refine List.all_eq_true.2 (fun e he => ?_)
        obtain ⟨p, y, g1, g2, g3, g4⟩ := hzk e he
        have g5 : 0 ≤ findK h.NS h.KS e.1 := by simpa using List.all_eq_true.1 hall _ g4
        rw [hkd]
        exact decide_eq_true ((hfm e.1).2 g5)
    · cases hl
  rw [if_neg c8]
  by_cases c9 : h.kd = 9
  · rw [if_pos c9] at hl
    rw [if_pos c9]
    unfold varB at hl
    rw [ho] at hl
    split at hl
    · rename_i hh; cases hh
    split at hl
    · cases hl
      unfold varA
      rw [if_pos]
      · refine ⟨_, rfl, fun q hq => ?_⟩
        obtain ⟨e, he, h1⟩ := List.mem_filterMap.1 hq
        split at h1
        · rename_i h2
          cases h1
          obtain ⟨p, y, g1, g2, g3, g4⟩ := hzk e he
          obtain ⟨p', x, f1, f2, f3, f4⟩ := hfx e.1 ((hfm e.1).1 h2) (.inr c9)
          refine ⟨x, y, List.mem_of_getElem? f2, List.mem_of_getElem? g2, .inl ⟨?_, List.mem_filterMap.2 ⟨(e.1, (x : Int)), List.mem_of_getElem? (List.getElem?_zip_eq_some.2 ⟨f1, f2⟩), ?_⟩⟩⟩
          · simp only [f4, g3, Int.toNat_natCast]
          · unfold varGB
            have hy := find_own b2 g1 g2
            rw [if_pos (by simp only [hy]; omega)]
            simp only [hy, Int.toNat_natCast]
        · cases h1
      · unfold anyK
        refine List.all_eq_true.2 (fun e he => ?_)
        rw [eh3, ho]
        simp
    · cases hl
  rw [if_neg c9]
  exact ⟨[], rfl, fun q hq => by cases hq⟩
theorem may_below {A B : List Hd} (okA : OkHeads A) (okB : OkHeads B) {ra rb : Nat} (hra : ra < A.length) (hrb : rb < B.length) (pA : PlainAt A false ra) (pB : PlainAt B false rb) (hb : BelowP A B ra rb) : MayA A B ra rb := by
  obtain ⟨PA, hA, kA⟩ := pA
  obtain ⟨PB, hB, kB⟩ := pB
  refine ⟨fun p => ∃ i j, i < A.length ∧ j < B.length ∧ PA i ∧ PB j ∧ ((p = (i, A.length + j) ∧ Cst (stpB A B) (i, j, false)) ∨ (p = (A.length + j, i) ∧ Cst (stpB A B) (j, i, true))), fun p hp => ?_, ⟨ra, rb, hra, hrb, hA, hB, .inl ⟨rfl, hb⟩⟩⟩
  obtain ⟨i, j, hi, hj, pi, pj, hp⟩ := hp
  obtain ⟨x, hx⟩ : ∃ x, A[i]? = some x := ⟨_, List.getElem?_eq_getElem hi⟩
  obtain ⟨y, hy⟩ : ∃ y, B[j]? = some y := ⟨_, List.getElem?_eq_getElem hj⟩
  have h1 := row_l (B := B) hx
  have h2 := row_r (A := A) hy
  obtain ⟨x1, x2, _, x3⟩ := kA i x pi hx
  obtain ⟨y1, y2, _, y3⟩ := kB j y pj hy
  have ox := okA x (List.mem_of_getElem? hx)
  have oy := okB y (List.mem_of_getElem? hy)
  have rx := ok_kids okA hx
  have ry := ok_kids okB hy
  have ex : x.kd = x.kd ∧ x.NS = x.NS ∧ x.op = x.op ∧ x.KS = x.KS.map (· + ((0 : Nat) : Int)) := ⟨rfl, rfl, rfl, by simp⟩
  have ey : (shH A.length y).kd = y.kd ∧ (shH A.length y).NS = y.NS ∧ (shH A.length y).op = y.op ∧ (shH A.length y).KS = y.KS.map (· + (A.length : Int)) := ⟨rfl, rfl, rfl, rfl⟩
  rcases hp with ⟨rfl, hc⟩ | ⟨rfl, hc⟩
  · obtain ⟨l, hl, hcl⟩ := Cst.clo _ _ hc
    rw [stpB_at (p := (i, j, false)) (h := x) (k := y) hx hy] at hl
    rw [stpA_at (p := (i, A.length + j)) h1 h2]
    obtain ⟨m, e1, e2⟩ := ask_below (L := rowA A B) (dyn := A.length + B.length) ox oy ex ey x1 x2 hl
    refine ⟨m, e1, fun q hq => ?_⟩
    obtain ⟨u, v, hu, hv, hq⟩ := e2 q hq
    have ru := rx _ hu
    have rv := ry _ hv
    refine ⟨u, v, by omega, by omega, by have := x3 _ hu; simpa using this, by have := y3 _ hv; simpa using this, ?_⟩
    rcases hq with ⟨rfl, hm⟩ | ⟨rfl, hm⟩
    · exact .inl ⟨by simp, hcl _ hm⟩
    · exact .inr ⟨by simp, hcl _ hm⟩
  · obtain ⟨l, hl, hcl⟩ := Cst.clo _ _ hc
    rw [stpB_at (p := (j, i, true)) (h := y) (k := x) hy hx] at hl
    rw [stpA_at (p := (A.length + j, i)) h2 h1]
    obtain ⟨m, e1, e2⟩ := ask_below (L := rowA A B) (dyn := A.length + B.length) oy ox ey ex y1 y2 hl
    refine ⟨m, e1, fun q hq => ?_⟩
    obtain ⟨v, u, hv, hu, hq⟩ := e2 q hq
    have ru := rx _ hu
    have rv := ry _ hv
    refine ⟨u, v, by omega, by omega, by have := x3 _ hu; simpa using this, by have := y3 _ hv; simpa using this, ?_⟩
    rcases hq with ⟨rfl, hm⟩ | ⟨rfl, hm⟩
    · exact .inr ⟨by simp, hcl _ hm⟩
    · exact .inl ⟨by simp, hcl _ hm⟩
/-- dyn's heads, and heads without any and open ones: both ways. -/
theorem dyn_all {L : List Hd} {dyn : Nat} {Q D : Nat → Prop} (hdd : D dyn) (hD : ∀ d, D d → ∃ z, L[d]? = some z ∧ z.kd = 4) (hQ : ∀ i, Q i → ∃ x, L[i]? = some x ∧ x.kd ≠ 5 ∧ x.op = false ∧ (x.kd = 7 → x.KS.length = 2) ∧ ∀ k ∈ x.KS, Q k.toNat) {i d : Nat} (hi : Q i) (hd : D d) : Cst (stpA L dyn) (i, d) ∧ Cst (stpA L dyn) (d, i) := by
  have hS : Clo (stpA L dyn) (fun p => ∃ i d, Q i ∧ D d ∧ (p = (i, d) ∨ p = (d, i))) := fun p hp => by
    obtain ⟨i, d, hi, hd, hp⟩ := hp
    obtain ⟨z, hz, z4⟩ := hD d hd
    obtain ⟨x, hx, x5, xo, x7, xk⟩ := hQ i hi
    have hget : ∀ n, n < 2 → x.kd = 7 → Q (x.KS.getD n 0).toNat := fun n hn h7 => by
      obtain ⟨a, b, ha⟩ := two_of (x7 h7)
      rw [ha] at xk ⊢
      have q1 := xk a (by simp)
      have q2 := xk b (by simp)
      rcases (show n = 0 ∨ n = 1 by omega) with rfl | rfl
      · exact q1
      · exact q2
    rcases hp with rfl | rfl
    · rw [stpA_at (p := (i, d)) hx hz]
      unfold askA
      by_cases c6 : x.kd = 6 ∨ z.kd = 5
      · rw [if_pos c6]; exact ⟨[], rfl, fun q hq => by cases hq⟩
      rw [if_neg c6, if_neg x5]
      by_cases c4 : x.kd = 4
      · rw [if_pos c4, if_neg (by omega), if_neg (by omega)]; exact ⟨[], rfl, fun q hq => by cases hq⟩
      rw [if_neg c4, if_pos z4]
      by_cases c7 : x.kd = 7
      · rw [if_pos c7]
        refine ⟨_, rfl, fun q hq => ?_⟩
        simp only [List.mem_cons, List.not_mem_nil, or_false] at hq
        rcases hq with rfl | rfl
        · exact ⟨_, dyn, hget 0 (by omega) c7, hdd, .inr rfl⟩
        · exact ⟨_, dyn, hget 1 (by omega) c7, hdd, .inl rfl⟩
      rw [if_neg c7, xo]
      have hk : ∀ q ∈ x.KS.map (fun k => (k.toNat, dyn)), ∃ i d, Q i ∧ D d ∧ (q = (i, d) ∨ q = (d, i)) := fun q hq => by
        obtain ⟨k, hk, rfl⟩ := List.mem_map.1 hq
        exact ⟨_, dyn, xk k hk, hdd, .inl rfl⟩
      by_cases c8 : x.kd = 8
      · rw [if_pos c8]; exact ⟨_, rfl, hk⟩
      rw [if_neg c8]
      by_cases c9 : x.kd = 9
      · rw [if_pos c9, if_neg (by decide)]; exact ⟨_, rfl, hk⟩
      rw [if_neg c9]; exact ⟨[], rfl, fun q hq => by cases hq⟩
    · rw [stpA_at (p := (d, i)) hz hx]
      unfold askA
      by_cases c6 : z.kd = 6 ∨ x.kd = 5
      · rw [if_pos c6]; exact ⟨[], rfl, fun q hq => by cases hq⟩
      rw [if_neg c6, if_neg (by omega), if_pos z4]
      by_cases c7 : x.kd = 7
      · rw [if_pos c7]
        refine ⟨_, rfl, fun q hq => ?_⟩
        simp only [List.mem_cons, List.not_mem_nil, or_false] at hq
        rcases hq with rfl | rfl
        · exact ⟨_, dyn, hget 0 (by omega) c7, hdd, .inl rfl⟩
        · exact ⟨_, dyn, hget 1 (by omega) c7, hdd, .inr rfl⟩
      rw [if_neg c7]
      by_cases c8 : x.kd = 8 ∨ x.kd = 9
      · rw [if_pos c8]
        refine ⟨_, rfl, fun q hq => ?_⟩
        obtain ⟨k, hk, rfl⟩ := List.mem_map.1 hq
        exact ⟨_, dyn, xk k hk, hdd, .inr rfl⟩
      rw [if_neg c8]; exact ⟨[], rfl, fun q hq => by cases hq⟩
  exact ⟨⟨_, hS, ⟨i, d, hi, hd, .inl rfl⟩⟩, ⟨_, hS, ⟨i, d, hi, hd, .inr rfl⟩⟩⟩
theorem may_todyn {A : List Hd} (okA : OkHeads A) {r : Nat} (hr : r < A.length) {nn : Bool} (p : PlainAt A nn r) : MayA A (bsc 4) r 0 := by
  obtain ⟨P, hP, kP⟩ := p
  refine (dyn_all (L := rowA A (bsc 4)) (dyn := A.length + (bsc 4).length) (Q := fun i => i < A.length ∧ P i) (D := fun d => d = A.length + 0 ∨ d = A.length + (bsc 4).length) (.inr rfl) (fun d hd => ?_) (fun i hi => ?_) ⟨hr, hP⟩ (.inl rfl)).1
  · rcases hd with rfl | rfl
    · exact ⟨_, row_r (A := A) (B := bsc 4) rfl, rfl⟩
    · exact ⟨_, row_d A (bsc 4), rfl⟩
  · obtain ⟨x, hx⟩ : ∃ x, A[i]? = some x := ⟨_, List.getElem?_eq_getElem hi.1⟩
    obtain ⟨q1, q2, _, q3⟩ := kP i x hi.2 hx
    exact ⟨x, row_l hx, q1, q2, fun h7 => ((head_kind (okA x (List.mem_of_getElem? hx))).2.2.2.2.1 h7).2, fun k hk => ⟨by have := ok_kids okA hx k hk; omega, q3 k hk⟩⟩
theorem may_fromdyn {A : List Hd} (okA : OkHeads A) {r : Nat} (hr : r < A.length) {nn : Bool} (p : PlainAt A nn r) : MayA (bsc 4) A 0 r := by
  obtain ⟨P, hP, kP⟩ := p
  refine (dyn_all (L := rowA (bsc 4) A) (dyn := (bsc 4).length + A.length) (Q := fun j => ∃ i, j = (bsc 4).length + i ∧ i < A.length ∧ P i) (D := fun d => d = 0 ∨ d = (bsc 4).length + A.length) (.inr rfl) (fun d hd => ?_) (fun j hj => ?_) ⟨r, rfl, hr, hP⟩ (.inl rfl)).2
  · rcases hd with rfl | rfl
    · exact ⟨_, row_l (A := bsc 4) (B := A) rfl, rfl⟩
    · exact ⟨_, row_d (bsc 4) A, rfl⟩
  · obtain ⟨i, rfl, hi, hp⟩ := hj
    obtain ⟨x, hx⟩ : ∃ x, A[i]? = some x := ⟨_, List.getElem?_eq_getElem hi⟩
    obtain ⟨q1, q2, _, q3⟩ := kP i x hp hx
    refine ⟨_, row_r (A := bsc 4) hx, q1, q2, fun h7 => ?_, fun k hk => ?_⟩
    · have := ((head_kind (okA x (List.mem_of_getElem? hx))).2.2.2.2.1 h7).2
      simpa [shH] using this
    · obtain ⟨k0, hk0, rfl⟩ := List.mem_map.1 hk
      have r := ok_kids okA hx k0 hk0
      exact ⟨k0.toNat, by omega, by omega, q3 k0 hk0⟩
end Go.Proofs.YtifilhkkgkihpaaGreatDoor
