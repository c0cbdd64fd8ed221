/- Walks: ref09.Below; what has a type has one that it is below. -/
import Derived.Test.YtoakfninndkgaaaGreatDoorNzH
set_option linter.unusedVariables false
namespace Go.Proofs.YtoakfninndkgaaaGreatDoor
open Go.RowKit
def BelowPost (w : World) (A B : List Hd) (ra rb : Nat) (e : Ending) (w' : World) : Prop := ∃ b : Bool, e = .returned (.bool b) ∧ Below w.heap.size w w' ∧ (b = true → ∃ U D : Nat → Nat → Bool, (∀ a b, a < A.length → b < B.length → Chk A B U D a b) ∧ U ra rb = true)
set_option maxRecDepth 20000 in
set_option maxHeartbeats 4000000 in
theorem rbelow_any (w : World) (la lb : Option Addr) (ln lc lm ld : Nat) (A B : List Hd) (hA : HeadsIn w la ln A) (hB : HeadsIn w lb lm B) (hln : (ln : Int) ≤ 100000) (hlm : (lm : Int) ≤ 100000) (okA : OkHeads A) (okB : OkHeads B) (ra rb : Nat) (hra : ra < A.length) (hrb : rb < B.length) :
    Calls Tryz.prog 32 #[.agg #[.slice la ln lc, .int .i64 (ra : Int)], .agg #[.slice lb lm ld, .int .i64 (rb : Int)]] w (BelowPost w A B ra rb) := by
  have HAA := Lib.hid hA
  have HBB := Lib.hid hB
  have HOA := Lib.hid okA
  have HOB := Lib.hid okB
  have hra2 : ra < ln := by rw [hA.1]; exact hra
  have hrb2 : rb < lm := by rw [hB.1]; exact hrb
  have hra3 : (ra : Int) < ln := by omega
  have hrb3 : (rb : Int) < lm := by omega
  have hba : Below w.heap.size w ((w.alloc (.cells #[.slice la ln lc, .int .i64 (ra : Int)] 24)).alloc (.cells #[.slice lb lm ld, .int .i64 (rb : Int)] 24)) := ((Below.refl _ _).alloc (Nat.le_refl _) _).alloc (by simp) _
  have hga : ((w.alloc (.cells #[.slice la ln lc, .int .i64 (ra : Int)] 24)).alloc (.cells #[.slice lb lm ld, .int .i64 (rb : Int)] 24)).heap[w.heap.size]? = some (.cells #[.slice la ln lc, .int .i64 (ra : Int)] 24 (0, 0)) := by rw [Below.heap_alloc _ _ _ (by simp)]; exact heap_alloc_new w _
  have hgb : ((w.alloc (.cells #[.slice la ln lc, .int .i64 (ra : Int)] 24)).alloc (.cells #[.slice lb lm ld, .int .i64 (rb : Int)] 24)).heap[w.heap.size + 1]? = some (.cells #[.slice lb lm ld, .int .i64 (rb : Int)] 24 (0, 0)) := by
    have := heap_alloc_new (w.alloc (.cells #[.slice la ln lc, .int .i64 (ra : Int)] 24)) (.cells #[.slice lb lm ld, .int .i64 (rb : Int)] 24)
    simpa using this
  have HBA := Lib.hid hba
  have HGA := Lib.hid hga
  have HGB := Lib.hid hgb
  clear hba hga hgb hA hB okA okB hra hrb
  go_enter Tryz.func32, Tryz.ntmps32
  go_upto_region 1 with (fail)
  generalize ((w.alloc (.cells #[.slice la ln lc, .int .i64 (ra : Int)] 24)).alloc (.cells #[.slice lb lm ld, .int .i64 (rb : Int)] 24)) = w2 at *
  have a0 : w2.cell? ⟨w.heap.size, 0, none⟩ = some (.slice la ln lc) := (by rw [cell_of_row _ _ 0 _ 24 _ HGA.out]; rfl)
  have a1 : w2.cell? ⟨w.heap.size, 1, none⟩ = some (.int .i64 (ra : Int)) := (by rw [cell_of_row _ _ 1 _ 24 _ HGA.out]; rfl)
  have b0 : w2.cell? ⟨w.heap.size + 1, 0, none⟩ = some (.slice lb lm ld) := (by rw [cell_of_row _ _ 0 _ 24 _ HGB.out]; rfl)
  have b1 : w2.cell? ⟨w.heap.size + 1, 1, none⟩ = some (.int .i64 (rb : Int)) := (by rw [cell_of_row _ _ 1 _ 24 _ HGB.out]; rfl)
  have HL1 : Hid (w.heap.size < w2.heap.size) := Lib.hid (Array.getElem?_eq_some_iff.1 HGA.out).1
  have HL2 : Hid (w.heap.size + 1 < w2.heap.size) := Lib.hid (Array.getElem?_eq_some_iff.1 HGB.out).1
  have HNEW : Hid (∀ W', Below w2.heap.size w2 W' → Calls Tryz.prog 52 #[.slice la ln lc, .slice lb lm ld] W' (NewPost W' la ln lc lb lm ld A B)) := Lib.hid (fun W' hb => new_any W' la lb ln lc lm ld A B (HAA.out.on (HBA.out.trans (hb.mono HBA.out.size))) (HBB.out.on (HBA.out.trans (hb.mono HBA.out.size))) hln hlm HOA.out HOB.out)
  go_region_with ((go_at_call 52; (with_reducible refine (HNEW.out _ (by exact (Below.refl _ _).drew)).mono ?_); rintro e w7 ⟨t, U, D, rfl, hI, hC⟩; have HC5 := Lib.hid (show Below w2.heap.size w2 w7 from (Below.refl _ _).drew.trans hI.below); have HCH := Lib.hid hC; have n2 := hI.b2; have n4 := hI.up.read.row ra hra2; have n5 := hI.up.read.cell ra rb hra2 hrb2; have c0 := keepB HC5.out HL1.out a0; have c1 := keepB HC5.out HL1.out a1; have d0 := keepB HC5.out HL2.out b0; have d1 := keepB HC5.out HL2.out b1; clear hI hC))
  all_goals
    go_wp2
    go_ret
    exact ⟨U ra rb, rfl, HBA.out.trans (HC5.out.mono HBA.out.size), fun h => ⟨U, D, HCH.out, h⟩⟩
theorem has_five (HS : List Hd) (v : Val.V) (i : Nat) (h : Hd) (hi : HS[i]? = some h) (h5 : h.kd = 5) : hasB HS v (i : Int) = true := by
  cases v with
  | leaf kd st => rw [hasB, Int.toNat_natCast, hi]; simp [leafB, h5]
  | tag st v => rw [hasB, Int.toNat_natCast, hi]; simp [leafB, h5]
  | record NS kid => rw [hasB, Int.toNat_natCast, hi]; simp [leafB, h5]
theorem leafB_six (kk : Int) : leafB 6 kk = false := by simp [leafB]
theorem mayH_five {h k : Hd} {B : List Hd} {U D : Nat → Nat → Bool} (hm : mayH h k B U D = true) (h6 : h.kd ≠ 6) (h5 : k.kd ≠ 5) : h.kd = k.kd := by
  unfold mayH at hm
  rw [if_neg (fun e => e.elim h6 h5)] at hm
  by_cases he : h.kd = k.kd
  · exact he
  · rw [if_pos he] at hm; cases hm
theorem has_sound (A B : List Hd) (okA : OkHeads A) (okB : OkHeads B) (U D : Nat → Nat → Bool) (hC : ∀ a b, a < A.length → b < B.length → Chk A B U D a b) :
    ∀ (v : Val.V) (i j : Nat), i < A.length → j < B.length → U i j = true → hasB A v (i : Int) = true → hasB B v (j : Int) = true := by
  intro v
  induction v with
  | leaf kd st =>
    intro i j hi hj hU ha
    have hm := (hC i j hi hj).1 hU
    rw [mayAt_eq (List.getElem?_eq_getElem hi) (List.getElem?_eq_getElem hj)] at hm
    rw [hasB, Int.toNat_natCast, List.getElem?_eq_getElem hi] at ha
    by_cases h5 : B[j].kd = 5
    · exact has_five B _ j _ (List.getElem?_eq_getElem hj) h5
    rw [hasB, Int.toNat_natCast, List.getElem?_eq_getElem hj]
    simp only at ha ⊢
    have h6 : A[i].kd ≠ 6 := fun e => by rw [e, leafB_six] at ha; cases ha
    rw [← mayH_five hm h6 h5]
    exact ha
  | tag st v ih =>
    intro i j hi hj hU ha
    have hm := (hC i j hi hj).1 hU
    rw [mayAt_eq (List.getElem?_eq_getElem hi) (List.getElem?_eq_getElem hj)] at hm
    by_cases h5 : B[j].kd = 5
    · exact has_five B _ j _ (List.getElem?_eq_getElem hj) h5
    have q1 := head_kind (okA _ (List.getElem_mem hi))
    have q2 := head_kind (okB _ (List.getElem_mem hj))
    rw [hasB, Int.toNat_natCast, List.getElem?_eq_getElem hi] at ha
    rw [hasB, Int.toNat_natCast, List.getElem?_eq_getElem hj]
    simp only at ha ⊢
    generalize A[i] = h at *
    generalize hk' : B[j] = k at *
    by_cases h9 : h.kd = 9
    · rw [if_pos h9] at ha
      have he := mayH_five hm (by omega) h5
      rw [if_pos (by omega)]
      unfold mayH at hm
      rw [if_neg (by omega), if_neg (by omega), if_neg (by omega), if_neg (by omega), if_pos h9] at hm
      simp only [Bool.and_eq_true, Bool.not_eq_true', List.all_eq_true, List.mem_range] at hm
      obtain ⟨⟨m1, m2⟩, m3⟩ := hm
      have l1 := q1.2.2.2.1 (Or.inr h9)
      have l2 := q2.2.2.2.1 (Or.inr (by omega))
      rcases findK_cases h.NS h.KS st l1 with ⟨hx, hno⟩ | ⟨p, x, hp1, hp2, hx, hfirst⟩
      · rw [hx] at ha
        simp only [show ((-1 : Int) < 0) = True from by simp, if_true] at ha
        rw [ha] at m1
        have hko : k.op = true := by simpa using m1
        rcases findK_cases k.NS k.KS st l2 with ⟨hy, _⟩ | ⟨q, y, hq1, hq2, hy, _⟩
        · rw [hy]
          simp [hko]
        · rw [hy]
          have ry := q2.2.2.1 y (List.mem_of_getElem? hq2)
          rw [if_neg (by omega)]
          have hv := m3 q (List.getElem?_eq_some_iff.1 hq1).1
          unfold var2B at hv
          rw [hq1] at hv
          simp only [hx, ha, List.getD_eq_getElem?_getD, hq2, Option.getD_some] at hv
          have hyl : y.toNat < B.length := by omega
          obtain ⟨b, hb⟩ : ∃ b, B[y.toNat]? = some b := ⟨_, List.getElem?_eq_getElem hyl⟩
          have hb5 : b.kd = 5 := by
            unfold kindAt at hv
            rw [hb] at hv
            simpa using hv
          have := has_five B v y.toNat b hb hb5
          rw [show ((y.toNat : Nat) : Int) = y by omega] at this
          exact this
      · rw [hx] at ha
        have rx := q1.2.2.1 x (List.mem_of_getElem? hp2)
        rw [if_neg (by omega)] at ha
        have hv := m2 p (List.getElem?_eq_some_iff.1 hp1).1
        unfold var1B at hv
        rw [hp1] at hv
        simp only [List.getD_eq_getElem?_getD, hp2, Option.getD_some] at hv
        rcases findK_cases k.NS k.KS st l2 with ⟨hy, _⟩ | ⟨q, y, hq1, hq2, hy, _⟩
        · rw [hy] at hv ⊢
          simpa using hv
        · rw [hy] at hv ⊢
          have ry := q2.2.2.1 y (List.mem_of_getElem? hq2)
          rw [if_neg (by omega)] at hv ⊢
          have := ih x.toNat y.toNat (by omega) (by omega) hv (by rw [show ((x.toNat : Nat) : Int) = x by omega]; exact ha)
          rw [show ((y.toNat : Nat) : Int) = y by omega] at this
          exact this
    · rw [if_neg h9] at ha
      have h6 : h.kd ≠ 6 := fun e => by rw [e, leafB_six] at ha; cases ha
      have he := mayH_five hm h6 h5
      rw [if_neg (by omega), ← he]
      exact ha
  | record NS kid ih =>
    intro i j hi hj hU ha
    have hm := (hC i j hi hj).1 hU
    rw [mayAt_eq (List.getElem?_eq_getElem hi) (List.getElem?_eq_getElem hj)] at hm
    by_cases h5 : B[j].kd = 5
    · exact has_five B _ j _ (List.getElem?_eq_getElem hj) h5
    have q1 := head_kind (okA _ (List.getElem_mem hi))
    have q2 := head_kind (okB _ (List.getElem_mem hj))
    rw [hasB, Int.toNat_natCast, List.getElem?_eq_getElem hi] at ha
    rw [hasB, Int.toNat_natCast, List.getElem?_eq_getElem hj]
    simp only at ha ⊢
    generalize A[i] = h at *
    generalize hk' : B[j] = k at *
    by_cases h8 : h.kd = 8
    · rw [if_pos h8] at ha
      have he := mayH_five hm (by omega) h5
      rw [if_pos (by omega)]
      unfold mayH at hm
      rw [if_neg (by omega), if_neg (by omega), if_neg (by omega), if_pos h8] at hm
      simp only [List.all_eq_true, List.mem_range] at hm ha ⊢
      intro n hn
      have l1 := q1.2.2.2.1 (Or.inl h8)
      have l2 := q2.2.2.2.1 (Or.inl (by omega))
      obtain ⟨s, hs⟩ : ∃ s, k.NS[n]? = some s := ⟨_, List.getElem?_eq_getElem hn⟩
      obtain ⟨y, hy⟩ : ∃ y, k.KS[n]? = some y := ⟨_, List.getElem?_eq_getElem (by omega)⟩
      have hr := hm n hn
      unfold recB at hr
      rw [hs] at hr
      simp only [List.getD_eq_getElem?_getD, hy, Option.getD_some, Bool.and_eq_true, decide_eq_true_eq] at hr
      rcases findK_cases h.NS h.KS s l1 with ⟨hx, hno⟩ | ⟨p, x, hp1, hp2, hx, hfirst⟩
      · rw [hx] at hr; exact absurd hr.1 (by decide)
      · rw [hx] at hr
        have rx := q1.2.2.1 x (List.mem_of_getElem? hp2)
        have ry := q2.2.2.1 y (List.mem_of_getElem? hy)
        have hp := ha p (List.getElem?_eq_some_iff.1 hp1).1
        rw [List.any_eq_true] at hp ⊢
        obtain ⟨c, hc1, hc2⟩ := hp
        rw [hp1] at hc2
        simp only [List.getD_eq_getElem?_getD, hp2, Option.getD_some, Bool.and_eq_true, decide_eq_true_eq] at hc2
        refine ⟨c, hc1, ?_⟩
        rw [hs]
        simp only [List.getD_eq_getElem?_getD, hy, Option.getD_some, Bool.and_eq_true, decide_eq_true_eq]
        refine ⟨hc2.1, ?_⟩
        have := ih c x.toNat y.toNat (by omega) (by omega) hr.2 (by rw [show ((x.toNat : Nat) : Int) = x by omega]; exact hc2.2)
        rw [show ((y.toNat : Nat) : Int) = y by omega] at this
        exact this
    · rw [if_neg h8] at ha
      have h6 : h.kd ≠ 6 := fun e => by rw [e, leafB_six] at ha; cases ha
      have he := mayH_five hm h6 h5
      rw [if_neg (by omega), ← he]
      exact ha
end Go.Proofs.YtoakfninndkgaaaGreatDoor
