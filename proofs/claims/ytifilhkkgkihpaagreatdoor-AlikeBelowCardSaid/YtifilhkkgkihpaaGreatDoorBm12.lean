/- Walks and plain facts. -/
import Derived.Test.YtifilhkkgkihpaaGreatDoorBm10
import Derived.Test.YtifilhkkgkihpaaGreatDoorAs38
import Derived.Test.YtifilhkkgkihpaaGreatDoorBm01
import Derived.Test.YtifilhkkgkihpaaGreatDoorBm04
import Derived.Test.YtifilhkkgkihpaaGreatDoorBm02
set_option linter.unusedSimpArgs false
set_option linter.unusedVariables false
namespace Go.Proofs.YtifilhkkgkihpaaGreatDoor
open Go.RowKit
theorem row_l {A B : List Hd} {i : Nat} {h : Hd} (hi : A[i]? = some h) : (rowA A B)[i]? = some h := by
  have hl := (List.getElem?_eq_some_iff.1 hi).1
  unfold rowA two
  rw [List.append_assoc, List.getElem?_append_left hl]
  exact hi
theorem row_r {A B : List Hd} {i : Nat} {h : Hd} (hi : B[i]? = some h) : (rowA A B)[A.length + i]? = some (shH A.length h) := by
  have hl := (List.getElem?_eq_some_iff.1 hi).1
  unfold rowA two
  rw [List.getElem?_append_left (by simp; omega), List.getElem?_append_right (by omega), show A.length + i - A.length = i by omega, List.getElem?_map, hi]
  rfl
theorem row_d (A B : List Hd) : (rowA A B)[A.length + B.length]? = some dynH := by
  unfold rowA two
  rw [List.getElem?_append_right (by simp)]
  simp
/-- heads of the same kind and names: a cast asks their kids, pair by pair. -/
theorem ask_same {L : List Hd} {dyn : Nat} {h k : Hd} {n n' : Int} (okh : headB h.kd h.op n h.NS h.KS = true) (okk : headB k.kd k.op n' k.NS k.KS = true) (e1 : h.kd = k.kd) (e2 : h.NS = k.NS) (e3 : h.KS.length = k.KS.length) : ∃ m, askA L dyn h k = some m ∧ ∀ q ∈ m, ∃ (p : Nat) (x y : Int), h.KS[p]? = some x ∧ k.KS[p]? = some y ∧ (q = (x.toNat, y.toNat) ∨ q = (y.toNat, x.toNat)) := by
  obtain ⟨a1, a2, a3, a4, a5, a6, a7⟩ := head_kind okh
  obtain ⟨b1, b2, b3, b4, b5, b6, b7⟩ := head_kind okk
  unfold askA
  by_cases c1 : h.kd = 6 ∨ k.kd = 5
  · rw [if_pos c1]; exact ⟨[], rfl, fun q hq => by cases hq⟩
  rw [if_neg c1, if_neg (show ¬ h.kd = 5 by omega)]
  by_cases c4 : h.kd = 4
  · rw [if_pos c4, if_neg (show ¬ k.kd = 7 by omega), if_neg (show ¬ (k.kd = 8 ∨ k.kd = 9) by omega)]
    exact ⟨[], rfl, fun q hq => by cases hq⟩
  rw [if_neg c4, if_neg (show ¬ k.kd = 4 by omega), if_neg (show ¬ h.kd ≠ k.kd by omega)]
  by_cases c7 : h.kd = 7
  · rw [if_pos c7]
    obtain ⟨a, b, ha⟩ := two_of (a5 c7).2
    obtain ⟨c, d, hc⟩ := two_of (b5 (by omega)).2
    refine ⟨_, rfl, fun q hq => ?_⟩
    rw [ha, hc] at hq ⊢
    simp only [List.mem_cons, List.not_mem_nil, or_false] at hq
    rcases hq with rfl | rfl
    · exact ⟨0, a, c, rfl, rfl, .inr rfl⟩
    · exact ⟨1, b, d, rfl, rfl, .inl rfl⟩
  rw [if_neg c7]
  have hpr : ∀ e ∈ k.NS.zip k.KS, (h.kd = 8 ∨ h.kd = 9) → ∃ p : Nat, h.KS[p]? = some (findK h.NS h.KS e.1) ∧ k.KS[p]? = some e.2 := fun e he hk => by
    obtain ⟨p, hp⟩ := List.getElem?_of_mem he
    obtain ⟨s, y⟩ := e
    rw [List.getElem?_zip_eq_some] at hp
    obtain ⟨x, hx⟩ : ∃ x, h.KS[p]? = some x := ⟨_, List.getElem?_eq_getElem (by rw [e3]; exact (List.getElem?_eq_some_iff.1 hp.2).1)⟩
    refine ⟨p, ?_, hp.2⟩
    rw [find_own a2 (by rw [e2]; exact hp.1) hx]
    exact hx
  have hge : ∀ e ∈ k.NS.zip k.KS, (h.kd = 8 ∨ h.kd = 9) → 0 ≤ findK h.NS h.KS e.1 := fun e he hk => by
    refine find_ge (a4 hk) (fun k hk => (a3 k hk).1) ?_
    rw [e2]
    exact (List.of_mem_zip (a := e.1) (b := e.2) he).1
  by_cases c8 : h.kd = 8
  · rw [if_pos c8]
    unfold recA
    have hkd : ∀ s, kidD dyn h s = findK h.NS h.KS s := fun s => by unfold kidD; rw [if_neg c4]
    rw [if_pos]
    · refine ⟨_, rfl, fun q hq => ?_⟩
      obtain ⟨e, he, rfl⟩ := List.mem_map.1 hq
      obtain ⟨p, h1, h2⟩ := hpr e he (.inl c8)
      exact ⟨p, _, _, h1, h2, .inl (by rw [hkd])⟩
    · exact List.all_eq_true.2 (fun e he => by rw [hkd]; exact decide_eq_true (hge e he (.inl c8)))
  rw [if_neg c8]
  by_cases c9 : h.kd = 9
  · rw [if_pos c9]
    unfold varA
    rw [if_pos]
    · refine ⟨_, rfl, fun q hq => ?_⟩
      obtain ⟨e, he, h1⟩ := List.mem_filterMap.1 hq
      split at h1
      · cases h1
        obtain ⟨p, h1, h2⟩ := hpr e he (.inr c9)
        exact ⟨p, _, _, h1, h2, .inl rfl⟩
      · cases h1
    · unfold anyK
      exact List.all_eq_true.2 (fun e he => by rw [decide_eq_true (hge e he (.inr c9))]; simp)
  rw [if_neg c9]
  exact ⟨[], rfl, fun q hq => by cases hq⟩
/-- a cast from each type to itself may be. -/
theorem may_self {A : List Hd} (hok : OkHeads A) {r : Nat} (hr : r < A.length) : MayA A A r r := by
  refine ⟨fun p => ∃ i, i < A.length ∧ (p = (i, A.length + i) ∨ p = (A.length + i, i)), fun p hp => ?_, ⟨r, hr, .inl rfl⟩⟩
  obtain ⟨i, hi, hp⟩ := hp
  obtain ⟨h, hh⟩ : ∃ h, A[i]? = some h := ⟨_, List.getElem?_eq_getElem hi⟩
  have h1 := row_l (B := A) hh
  have h2 := row_r (A := A) hh
  have k1 := row_ok hok hok _ (List.mem_of_getElem? h1)
  have k2 := row_ok hok hok _ (List.mem_of_getElem? h2)
  have hr := ok_kids hok hh
  have hsh : ∀ (p : Nat) (x y : Int), h.KS[p]? = some x → (shH A.length h).KS[p]? = some y → x.toNat < A.length ∧ y.toNat = A.length + x.toNat := fun p x y hx hy => by
    simp only [shH, List.getElem?_map, hx, Option.map_some, Option.some.injEq] at hy
    have := hr x (List.mem_of_getElem? hx)
    omega
  rcases hp with rfl | rfl
  · rw [stpA_at (p := (i, A.length + i)) h1 h2]
    obtain ⟨m, e1, e2⟩ := ask_same (L := rowA A A) (dyn := A.length + A.length) k1 k2 rfl rfl (by simp [shH])
    refine ⟨m, e1, fun q hq => ?_⟩
    obtain ⟨p, x, y, hx, hy, hq⟩ := e2 q hq
    obtain ⟨g1, g2⟩ := hsh p x y hx hy
    refine ⟨x.toNat, g1, ?_⟩
    rw [g2] at hq
    exact hq
  · rw [stpA_at (p := (A.length + i, i)) h2 h1]
    obtain ⟨m, e1, e2⟩ := ask_same (L := rowA A A) (dyn := A.length + A.length) k2 k1 rfl rfl (by simp [shH])
    refine ⟨m, e1, fun q hq => ?_⟩
    obtain ⟨p, x, y, hx, hy, hq⟩ := e2 q hq
    obtain ⟨g1, g2⟩ := hsh p y x hy hx
    refine ⟨y.toNat, g1, ?_⟩
    rw [g2] at hq
    exact hq.symm
/-- the kinds of heads that are alike. -/
theorem Bis.root {A B : List Hd} {i j : Nat} (h : Bis A B i j) {x y : Hd} (hx : A[i]? = some x) (hy : B[j]? = some y) : x.kd = y.kd ∧ x.KS.length = y.KS.length ∧ ∀ (n : Nat) a b, x.KS[n]? = some a → y.KS[n]? = some b → Bis A B a.toNat b.toNat := by
  obtain ⟨R, hR, h1⟩ := h
  obtain ⟨p1, p2, p3, p4⟩ := hR.pl i j x y hx hy h1
  exact ⟨p1, p4, fun n a b ha hb => ⟨R, hR, hR.kid i j x y hx hy h1 n a b ha hb⟩⟩
end Go.Proofs.YtifilhkkgkihpaaGreatDoor
