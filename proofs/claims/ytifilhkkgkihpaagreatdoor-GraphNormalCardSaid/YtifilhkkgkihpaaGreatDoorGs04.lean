/- Walks: GraphNormal. -/
import Derived.Test.YtifilhkkgkihpaaGreatDoorGr28
import Derived.Test.YtifilhkkgkihpaaGreatDoorGs01
import Derived.Test.YtifilhkkgkihpaaGreatDoorGs03
set_option linter.unusedSimpArgs false
set_option linter.unusedVariables false
set_option linter.unusedSimpArgs false
set_option linter.unusedVariables false
namespace Go.Proofs.YtifilhkkgkihpaaGreatDoor
open Go.RowKit
set_option maxRecDepth 20000 in
set_option maxHeartbeats 16000000 in
theorem norm_few (w : World) (la : Option Addr) (ln lc : Nat) (ra : Int) (A : List Hd) (hA : GRaw w la ln A) (i : Int) (hfa : fewB A = false) : Calls Tryz.prog 7 #[.agg #[.slice la ln lc, .int .i64 ra], .int .i64 i] w fun e w' => e = .returned (.bool true) ∧ Below w.heap.size w w' := by
  have HT1 : Hid (Below w.heap.size w (w.alloc (.cells #[.slice la ln lc, .int .i64 ra] 36))) := Lib.hid ((Below.refl _ _).alloc (Nat.le_refl _) _)
  have HXa1 : Hid ((w.alloc (.cells #[.slice la ln lc, .int .i64 ra] 36)).heap[w.heap.size]? = some (.cells #[.slice la ln lc, .int .i64 ra] 36 (0, 0))) := Lib.hid (heap_alloc_new w _)
  have KL := Lib.hid (live_c w)
  have KFA := Lib.hid (few_c (lc := lc) (ra := ra) hA hfa)
  clear hA hfa
  go_enter Tryz.func7, Tryz.ntmps7
  go_upto_region 1 with (fail)
  generalize (w.alloc (.cells #[.slice la ln lc, .int .i64 ra] 36)) = w1 at *
  have a01 : w1.cell? ⟨w.heap.size, 0, none⟩ = some (.slice la ln lc) := (by rw [cell_of_row _ _ 0 _ 36 _ HXa1.out]; rfl)
  have a11 : w1.cell? ⟨w.heap.size, 1, none⟩ = some (.int .i64 ra) := (by rw [cell_of_row _ _ 1 _ 36 _ HXa1.out]; rfl)
  go_upto_region 2 with (first | (go_at_call 31; (with_reducible refine (KL.out _ HT1.out).mono ?_); rintro e w2 ⟨rfl, hb9⟩; have HBw2 : Hid (Below w1.heap.size w1 w2) := Lib.hid hb9; have HXa2 : Hid (w2.heap[w.heap.size]? = some (.cells #[.slice la ln lc, .int .i64 ra] 36 (0, 0))) := Lib.hid ((hb9.block _ (Array.getElem?_eq_some_iff.1 HXa1.out).1).trans HXa1.out); have a02 : w2.cell? ⟨w.heap.size, 0, none⟩ = some (.slice la ln lc) := (by rw [cell_of_row _ _ 0 _ 36 _ HXa2.out]; rfl); have a12 : w2.cell? ⟨w.heap.size, 1, none⟩ = some (.int .i64 ra) := (by rw [cell_of_row _ _ 1 _ 36 _ HXa2.out]; rfl); clear hb9; have HT2 : Hid (Below w.heap.size w w2) := Lib.hid (HT1.out.trans (HBw2.out.mono HT1.out.size))) | (go_at_call 32; (with_reducible refine (KFA.out _ HT2.out).mono ?_); rintro e w3 ⟨rfl, hb9⟩; have HBw3 : Hid (Below w1.heap.size w1 w3) := Lib.hid (HBw2.out.trans (hb9.mono HBw2.out.size)); have HXa3 : Hid (w3.heap[w.heap.size]? = some (.cells #[.slice la ln lc, .int .i64 ra] 36 (0, 0))) := Lib.hid ((hb9.block _ (Array.getElem?_eq_some_iff.1 HXa2.out).1).trans HXa2.out); have a03 : w3.cell? ⟨w.heap.size, 0, none⟩ = some (.slice la ln lc) := (by rw [cell_of_row _ _ 0 _ 36 _ HXa3.out]; rfl); have a13 : w3.cell? ⟨w.heap.size, 1, none⟩ = some (.int .i64 ra) := (by rw [cell_of_row _ _ 1 _ 36 _ HXa3.out]; rfl); clear hb9; have HT3 : Hid (Below w.heap.size w w3) := Lib.hid (HT1.out.trans (HBw3.out.mono HT1.out.size))))
  go_wp2_with (go_at_call 31; (with_reducible refine (KL.out _ HT3.out).mono ?_); rintro e wz ⟨rfl, hz9⟩)
  go_ret
  exact ⟨rfl, HT3.out.trans (hz9.mono HT3.out.size)⟩
set_option maxRecDepth 20000 in
set_option maxHeartbeats 16000000 in
theorem norm_wrong (w : World) (la : Option Addr) (ln lc : Nat) (ra : Int) (A : List Hd) (hA : GRaw w la ln A) (i : Int) (hfa : fewB A = true) (hga : graphB ra A = false) : Calls Tryz.prog 7 #[.agg #[.slice la ln lc, .int .i64 ra], .int .i64 i] w fun e w' => e = .returned (.bool true) ∧ Below w.heap.size w w' := by
  have HT1 : Hid (Below w.heap.size w (w.alloc (.cells #[.slice la ln lc, .int .i64 ra] 36))) := Lib.hid ((Below.refl _ _).alloc (Nat.le_refl _) _)
  have HXa1 : Hid ((w.alloc (.cells #[.slice la ln lc, .int .i64 ra] 36)).heap[w.heap.size]? = some (.cells #[.slice la ln lc, .int .i64 ra] 36 (0, 0))) := Lib.hid (heap_alloc_new w _)
  have KL := Lib.hid (live_c w)
  have KFA := Lib.hid (few_c (lc := lc) (ra := ra) hA hfa)
  have KRA := Lib.hid (right_c (lc := lc) hA hfa hga)
  have HIN := Lib.hid (hA.heads hfa).1
  have HLN := Lib.hid hA.len
  have KN : Hid (∀ W', Below w.heap.size w W' → Calls Tryz.prog 40 #[.agg #[.slice la ln lc, .int .i64 ra]] W' (NBadPost W')) := Lib.hid (fun W' hb => normal_bad W' la ln lc ra A (HIN.out.on hb) HLN.out hga)
  have KB : Hid (∀ W', Below w.heap.size w W' → Calls Tryz.prog 34 #[.agg #[.slice la ln lc, .int .i64 ra]] W' (BBadPost W')) := Lib.hid (fun W' hb => bytes_bad W' la ln lc ra A (HIN.out.on hb) HLN.out hga)
  have KA : Hid (∀ W', Below w.heap.size w W' → Calls Tryz.prog 41 #[.agg #[.slice la ln lc, .int .i64 ra], .int .i64 i] W' (ANonePost W' 14)) := Lib.hid (fun W' hb => gat_bad W' la ln lc ra i A (HIN.out.on hb) HLN.out hga)
  have KC : Hid (∀ W', Below w.heap.size w W' → Calls Tryz.prog 38 #[.agg #[.slice la ln lc, .int .i64 ra]] W' fun e w' => e = .returned (.int .i64 14) ∧ Below W'.heap.size W' w') := Lib.hid (fun W' hb => by
    have := check_any W' la ln lc ra A (HIN.out.on hb) HLN.out
    rw [hga] at this
    exact this)
  have KS : Hid (∀ W', Below w.heap.size w W' → Calls Tryz.prog 36 #[.agg #[.slice la ln lc, .int .i64 ra], .agg #[.slice la ln lc, .int .i64 ra]] W' (BoolPost W' false)) := Lib.hid (fun W' hb => gsame_bad W' la ln lc ra A (HIN.out.on hb) HLN.out hga)
  clear hA hfa hga
  go_enter Tryz.func7, Tryz.ntmps7
  go_upto_region 1 with (fail)
  generalize (w.alloc (.cells #[.slice la ln lc, .int .i64 ra] 36)) = w1 at *
  have a01 : w1.cell? ⟨w.heap.size, 0, none⟩ = some (.slice la ln lc) := (by rw [cell_of_row _ _ 0 _ 36 _ HXa1.out]; rfl)
  have a11 : w1.cell? ⟨w.heap.size, 1, none⟩ = some (.int .i64 ra) := (by rw [cell_of_row _ _ 1 _ 36 _ HXa1.out]; rfl)
  go_upto_region 3 with (first | (go_at_call 31; (with_reducible refine (KL.out _ HT1.out).mono ?_); rintro e w2 ⟨rfl, hb9⟩; have HBw2 : Hid (Below w1.heap.size w1 w2) := Lib.hid hb9; have HXa2 : Hid (w2.heap[w.heap.size]? = some (.cells #[.slice la ln lc, .int .i64 ra] 36 (0, 0))) := Lib.hid ((hb9.block _ (Array.getElem?_eq_some_iff.1 HXa1.out).1).trans HXa1.out); have a02 : w2.cell? ⟨w.heap.size, 0, none⟩ = some (.slice la ln lc) := (by rw [cell_of_row _ _ 0 _ 36 _ HXa2.out]; rfl); have a12 : w2.cell? ⟨w.heap.size, 1, none⟩ = some (.int .i64 ra) := (by rw [cell_of_row _ _ 1 _ 36 _ HXa2.out]; rfl); clear hb9; have HT2 : Hid (Below w.heap.size w w2) := Lib.hid (HT1.out.trans (HBw2.out.mono HT1.out.size))) | (go_at_call 32; (with_reducible refine (KFA.out _ HT2.out).mono ?_); rintro e w3 ⟨rfl, hb9⟩; have HBw3 : Hid (Below w1.heap.size w1 w3) := Lib.hid (HBw2.out.trans (hb9.mono HBw2.out.size)); have HXa3 : Hid (w3.heap[w.heap.size]? = some (.cells #[.slice la ln lc, .int .i64 ra] 36 (0, 0))) := Lib.hid ((hb9.block _ (Array.getElem?_eq_some_iff.1 HXa2.out).1).trans HXa2.out); have a03 : w3.cell? ⟨w.heap.size, 0, none⟩ = some (.slice la ln lc) := (by rw [cell_of_row _ _ 0 _ 36 _ HXa3.out]; rfl); have a13 : w3.cell? ⟨w.heap.size, 1, none⟩ = some (.int .i64 ra) := (by rw [cell_of_row _ _ 1 _ 36 _ HXa3.out]; rfl); clear hb9; have HT3 : Hid (Below w.heap.size w w3) := Lib.hid (HT1.out.trans (HBw3.out.mono HT1.out.size))))
  go_upto_region 4 with (go_at_call 40; (with_reducible refine (KN.out _ HT3.out).mono ?_); rintro e w4 ⟨rfl, hb9⟩; have HB4 := Lib.hid hb9; clear hb9)
  have HAL5 : Hid (Below w4.heap.size w4 (w4.alloc (.cells #[.slice none 0 0, .int .i64 0] 36))) := Lib.hid ((Below.refl _ _).alloc (Nat.le_refl _) _)
  have HXn5 : Hid ((w4.alloc (.cells #[.slice none 0 0, .int .i64 0] 36)).heap[w4.heap.size]? = some (.cells #[.slice none 0 0, .int .i64 0] 36 (0, 0))) := Lib.hid (heap_alloc_new w4 _)
  generalize (w4.alloc (.cells #[.slice none 0 0, .int .i64 0] 36)) = w5 at *
  have HBc5 : Hid (Below w3.heap.size w3 w5) := Lib.hid (HB4.out.trans (HAL5.out.mono HB4.out.size))
  have HT5 : Hid (Below w.heap.size w w5) := Lib.hid (HT3.out.trans (HBc5.out.mono HT3.out.size))
  have HXa5 : Hid (w5.heap[w.heap.size]? = some (.cells #[.slice la ln lc, .int .i64 ra] 36 (0, 0))) := Lib.hid ((HBc5.out.block _ (Array.getElem?_eq_some_iff.1 HXa3.out).1).trans HXa3.out)
  have a05 : w5.cell? ⟨w.heap.size, 0, none⟩ = some (.slice la ln lc) := (by rw [cell_of_row _ _ 0 _ 36 _ HXa5.out]; rfl)
  have a15 : w5.cell? ⟨w.heap.size, 1, none⟩ = some (.int .i64 ra) := (by rw [cell_of_row _ _ 1 _ 36 _ HXa5.out]; rfl)
  go_upto_region 5 with (go_at_call 34; (with_reducible refine (KB.out _ HT5.out).mono ?_); rintro e w6 ⟨rfl, hb9⟩; have HB6 := Lib.hid hb9; clear hb9)
  have HT6 : Hid (Below w.heap.size w w6) := Lib.hid (HT5.out.trans (HB6.out.mono HT5.out.size))
  have HXa6 : Hid (w6.heap[w.heap.size]? = some (.cells #[.slice la ln lc, .int .i64 ra] 36 (0, 0))) := Lib.hid ((HB6.out.block _ (Array.getElem?_eq_some_iff.1 HXa5.out).1).trans HXa5.out); have HXn6 : Hid (w6.heap[w4.heap.size]? = some (.cells #[.slice none 0 0, .int .i64 0] 36 (0, 0))) := Lib.hid ((HB6.out.block _ (Array.getElem?_eq_some_iff.1 HXn5.out).1).trans HXn5.out)
  have a06 : w6.cell? ⟨w.heap.size, 0, none⟩ = some (.slice la ln lc) := (by rw [cell_of_row _ _ 0 _ 36 _ HXa6.out]; rfl)
  have a16 : w6.cell? ⟨w.heap.size, 1, none⟩ = some (.int .i64 ra) := (by rw [cell_of_row _ _ 1 _ 36 _ HXa6.out]; rfl)
  go_upto_region 6 with (go_at_call 41; (with_reducible refine (KA.out _ HT6.out).mono ?_); rintro e w7 ⟨rfl, hb9⟩; have HB7 := Lib.hid hb9; clear hb9)
  have HAL8 : Hid (Below w7.heap.size w7 (w7.alloc (.cells #[.slice none 0 0, .int .i64 0] 36))) := Lib.hid ((Below.refl _ _).alloc (Nat.le_refl _) _)
  have HXx8 : Hid ((w7.alloc (.cells #[.slice none 0 0, .int .i64 0] 36)).heap[w7.heap.size]? = some (.cells #[.slice none 0 0, .int .i64 0] 36 (0, 0))) := Lib.hid (heap_alloc_new w7 _)
  generalize (w7.alloc (.cells #[.slice none 0 0, .int .i64 0] 36)) = w8 at *
  have HBc8 : Hid (Below w6.heap.size w6 w8) := Lib.hid (HB7.out.trans (HAL8.out.mono HB7.out.size))
  have HT8 : Hid (Below w.heap.size w w8) := Lib.hid (HT6.out.trans (HBc8.out.mono HT6.out.size))
  have HXa8 : Hid (w8.heap[w.heap.size]? = some (.cells #[.slice la ln lc, .int .i64 ra] 36 (0, 0))) := Lib.hid ((HBc8.out.block _ (Array.getElem?_eq_some_iff.1 HXa6.out).1).trans HXa6.out); have HXn8 : Hid (w8.heap[w4.heap.size]? = some (.cells #[.slice none 0 0, .int .i64 0] 36 (0, 0))) := Lib.hid ((HBc8.out.block _ (Array.getElem?_eq_some_iff.1 HXn6.out).1).trans HXn6.out)
  have a08 : w8.cell? ⟨w.heap.size, 0, none⟩ = some (.slice la ln lc) := (by rw [cell_of_row _ _ 0 _ 36 _ HXa8.out]; rfl)
  have a18 : w8.cell? ⟨w.heap.size, 1, none⟩ = some (.int .i64 ra) := (by rw [cell_of_row _ _ 1 _ 36 _ HXa8.out]; rfl)
  go_upto_region 7 with (go_at_call 33; (with_reducible refine (KRA.out _ HT8.out).mono ?_); rintro e w9 ⟨rfl, hb9⟩; have HB9 := Lib.hid hb9; clear hb9)
  have HT9 : Hid (Below w.heap.size w w9) := Lib.hid (HT8.out.trans (HB9.out.mono HT8.out.size))
  have HXa9 : Hid (w9.heap[w.heap.size]? = some (.cells #[.slice la ln lc, .int .i64 ra] 36 (0, 0))) := Lib.hid ((HB9.out.block _ (Array.getElem?_eq_some_iff.1 HXa8.out).1).trans HXa8.out); have HXn9 : Hid (w9.heap[w4.heap.size]? = some (.cells #[.slice none 0 0, .int .i64 0] 36 (0, 0))) := Lib.hid ((HB9.out.block _ (Array.getElem?_eq_some_iff.1 HXn8.out).1).trans HXn8.out)
  have HXx9 : Hid (w9.heap[w7.heap.size]? = some (.cells #[.slice none 0 0, .int .i64 0] 36 (0, 0))) := Lib.hid ((HB9.out.block _ (Array.getElem?_eq_some_iff.1 HXx8.out).1).trans HXx8.out)
  have a09 : w9.cell? ⟨w.heap.size, 0, none⟩ = some (.slice la ln lc) := (by rw [cell_of_row _ _ 0 _ 36 _ HXa9.out]; rfl)
  have a19 : w9.cell? ⟨w.heap.size, 1, none⟩ = some (.int .i64 ra) := (by rw [cell_of_row _ _ 1 _ 36 _ HXa9.out]; rfl)
  go_wp2_with (first | (go_at_call 38; (with_reducible refine (KC.out _ HT9.out).mono ?_); rintro e w10 ⟨rfl, hb9⟩; have HXa10 : Hid (w10.heap[w.heap.size]? = some (.cells #[.slice la ln lc, .int .i64 ra] 36 (0, 0))) := Lib.hid ((hb9.block _ (Array.getElem?_eq_some_iff.1 HXa9.out).1).trans HXa9.out); have HXn10 : Hid (w10.heap[w4.heap.size]? = some (.cells #[.slice none 0 0, .int .i64 0] 36 (0, 0))) := Lib.hid ((hb9.block _ (Array.getElem?_eq_some_iff.1 HXn9.out).1).trans HXn9.out); have HXx10 : Hid (w10.heap[w7.heap.size]? = some (.cells #[.slice none 0 0, .int .i64 0] 36 (0, 0))) := Lib.hid ((hb9.block _ (Array.getElem?_eq_some_iff.1 HXx9.out).1).trans HXx9.out); have a010 : w10.cell? ⟨w.heap.size, 0, none⟩ = some (.slice la ln lc) := (by rw [cell_of_row _ _ 0 _ 36 _ HXa10.out]; rfl); have a110 : w10.cell? ⟨w.heap.size, 1, none⟩ = some (.int .i64 ra) := (by rw [cell_of_row _ _ 1 _ 36 _ HXa10.out]; rfl); have n010 : w10.cell? ⟨w4.heap.size, 0, none⟩ = some (.slice none 0 0) := (by rw [cell_of_row _ _ 0 _ 36 _ HXn10.out]; rfl); have n110 : w10.cell? ⟨w4.heap.size, 1, none⟩ = some (.int .i64 0) := (by rw [cell_of_row _ _ 1 _ 36 _ HXn10.out]; rfl); have x010 : w10.cell? ⟨w7.heap.size, 0, none⟩ = some (.slice none 0 0) := (by rw [cell_of_row _ _ 0 _ 36 _ HXx10.out]; rfl); have x110 : w10.cell? ⟨w7.heap.size, 1, none⟩ = some (.int .i64 0) := (by rw [cell_of_row _ _ 1 _ 36 _ HXx10.out]; rfl); have HT10 : Hid (Below w.heap.size w w10) := Lib.hid (HT9.out.trans (hb9.mono HT9.out.size)); clear hb9) | (go_at_call 36; (with_reducible refine (KS.out _ HT10.out).mono ?_); rintro e w11 ⟨rfl, hb9⟩; have HT11 : Hid (Below w.heap.size w w11) := Lib.hid (HT10.out.trans (hb9.mono HT10.out.size)); clear hb9))
  go_ret
  exact ⟨rfl, HT11.out⟩
set_option maxRecDepth 20000 in
set_option maxHeartbeats 16000000 in
theorem norm_out (w : World) (la : Option Addr) (ln lc : Nat) (ra : Int) (A : List Hd) (hA : GRaw w la ln A) (i : Int) (hfa : fewB A = true) (hga : graphB ra A = true) (hi : i < 0 ∨ (¬ i < 0 ∧ (ln : Int) ≤ i)) : Calls Tryz.prog 7 #[.agg #[.slice la ln lc, .int .i64 ra], .int .i64 i] w fun e w' => e = .returned (.bool true) ∧ Below w.heap.size w w' := by
  obtain ⟨ra, rfl⟩ : ∃ k : Nat, ra = (k : Int) := ⟨ra.toNat, (Int.toNat_of_nonneg (OkHeads.of_graph hga).2.1).symm⟩
  have HT1 : Hid (Below w.heap.size w (w.alloc (.cells #[.slice la ln lc, .int .i64 (ra : Int)] 36))) := Lib.hid ((Below.refl _ _).alloc (Nat.le_refl _) _)
  have HXa1 : Hid ((w.alloc (.cells #[.slice la ln lc, .int .i64 (ra : Int)] 36)).heap[w.heap.size]? = some (.cells #[.slice la ln lc, .int .i64 (ra : Int)] 36 (0, 0))) := Lib.hid (heap_alloc_new w _)
  have KL := Lib.hid (live_c w)
  have KFA := Lib.hid (few_c (lc := lc) (ra := ra) hA hfa)
  have KRA := Lib.hid (right_c (lc := lc) hA hfa hga)
  have HGA := Lib.hid (hA.gok hfa hga)
  have HLA := Lib.hid HGA.out.lens
  have HLN := Lib.hid hA.raw.1
  have KN : Hid (∀ W', Below w.heap.size w W' → Calls Tryz.prog 40 #[.agg #[.slice la ln lc, .int .i64 (ra : Int)]] W' (NormalPost W' A ra)) := Lib.hid (fun W' hb => normal_ok W' la ln lc ra A (HGA.out.heads.on hb) HGA.out.few HGA.out.rlt (by have := HGA.out.len; omega) HGA.out.ok HGA.out.nil)
  have KB : Hid (∀ W', Below w.heap.size w W' → Calls Tryz.prog 34 #[.agg #[.slice la ln lc, .int .i64 (ra : Int)]] W' (BytesPost W' A ra)) := Lib.hid (fun W' hb => (HGA.out.on hb).bytes)
  have KC : Hid (∀ W', Below w.heap.size w W' → Calls Tryz.prog 38 #[.agg #[.slice la ln lc, .int .i64 (ra : Int)]] W' fun e w' => e = .returned (.int .i64 0) ∧ Below W'.heap.size W' w') := Lib.hid (fun W' hb => by
    have := check_any W' la ln lc ra A (HGA.out.heads.on hb) hA.len
    rw [hga] at this
    exact this)
  have KR : Hid (∀ W', Below w.heap.size w W' → Calls Tryz.prog 42 #[.agg #[.slice la ln lc, .int .i64 (ra : Int)]] W' (NormRPost W' A ra)) := Lib.hid (fun W' hb => normalR_ok W' la ln lc ra A (HGA.out.heads.on hb) HGA.out.rlt (by have := HGA.out.len; omega) HGA.out.oks HGA.out.few)
  have KA : Hid (∀ W', Below w.heap.size w W' → Calls Tryz.prog 41 #[.agg #[.slice la ln lc, .int .i64 (ra : Int)], .int .i64 i] W' (ANonePost W' 13)) := Lib.hid (fun W' hb => gat_none W' la ln lc ra i A (HGA.out.heads.on hb) hA.len (by omega) HGA.out.ok)
  clear hA hfa hga
  go_enter Tryz.func7, Tryz.ntmps7
  go_upto_region 1 with (fail)
  generalize (w.alloc (.cells #[.slice la ln lc, .int .i64 (ra : Int)] 36)) = w1 at *
  have a01 : w1.cell? ⟨w.heap.size, 0, none⟩ = some (.slice la ln lc) := (by rw [cell_of_row _ _ 0 _ 36 _ HXa1.out]; rfl)
  have a11 : w1.cell? ⟨w.heap.size, 1, none⟩ = some (.int .i64 (ra : Int)) := (by rw [cell_of_row _ _ 1 _ 36 _ HXa1.out]; rfl)
  go_upto_region 3 with (first | (go_at_call 31; (with_reducible refine (KL.out _ HT1.out).mono ?_); rintro e w2 ⟨rfl, hb9⟩; have HBw2 : Hid (Below w1.heap.size w1 w2) := Lib.hid hb9; have HXa2 : Hid (w2.heap[w.heap.size]? = some (.cells #[.slice la ln lc, .int .i64 (ra : Int)] 36 (0, 0))) := Lib.hid ((hb9.block _ (Array.getElem?_eq_some_iff.1 HXa1.out).1).trans HXa1.out); have a02 : w2.cell? ⟨w.heap.size, 0, none⟩ = some (.slice la ln lc) := (by rw [cell_of_row _ _ 0 _ 36 _ HXa2.out]; rfl); have a12 : w2.cell? ⟨w.heap.size, 1, none⟩ = some (.int .i64 (ra : Int)) := (by rw [cell_of_row _ _ 1 _ 36 _ HXa2.out]; rfl); clear hb9; have HT2 : Hid (Below w.heap.size w w2) := Lib.hid (HT1.out.trans (HBw2.out.mono HT1.out.size))) | (go_at_call 32; (with_reducible refine (KFA.out _ HT2.out).mono ?_); rintro e w3 ⟨rfl, hb9⟩; have HBw3 : Hid (Below w1.heap.size w1 w3) := Lib.hid (HBw2.out.trans (hb9.mono HBw2.out.size)); have HXa3 : Hid (w3.heap[w.heap.size]? = some (.cells #[.slice la ln lc, .int .i64 (ra : Int)] 36 (0, 0))) := Lib.hid ((hb9.block _ (Array.getElem?_eq_some_iff.1 HXa2.out).1).trans HXa2.out); have a03 : w3.cell? ⟨w.heap.size, 0, none⟩ = some (.slice la ln lc) := (by rw [cell_of_row _ _ 0 _ 36 _ HXa3.out]; rfl); have a13 : w3.cell? ⟨w.heap.size, 1, none⟩ = some (.int .i64 (ra : Int)) := (by rw [cell_of_row _ _ 1 _ 36 _ HXa3.out]; rfl); clear hb9; have HT3 : Hid (Below w.heap.size w w3) := Lib.hid (HT1.out.trans (HBw3.out.mono HT1.out.size))))
  go_upto_region 4 with (go_at_call 40; (with_reducible refine (KN.out _ HT3.out).mono ?_); rintro e w4 ⟨g3, c3, OS, cl, ord, rfl, hg3, hH3, hO3, hcl3, hst3, hco3, hnp3, hll3, hb3⟩; have HH3 := Lib.hid hH3; have HNF : Hid (NormF A ra OS) := Lib.hid ⟨cl, ord, hst3, hco3, hnp3, hll3⟩; have HB4 := Lib.hid hb3; clear hg3 hH3 hO3 hcl3 hst3 hco3 hnp3 hll3 hb3)
  have HOL : Hid (OS.length ≤ A.length) := Lib.hid (HNF.out.le HGA.out.oks (by have := HLA.out; omega) HLA.out.1)
  have HAL5 : Hid (Below w4.heap.size w4 (w4.alloc (.cells #[.slice (some ⟨g3, 0, none⟩) OS.length c3, .int .i64 0] 36))) := Lib.hid ((Below.refl _ _).alloc (Nat.le_refl _) _)
  have HXn5 : Hid ((w4.alloc (.cells #[.slice (some ⟨g3, 0, none⟩) OS.length c3, .int .i64 0] 36)).heap[w4.heap.size]? = some (.cells #[.slice (some ⟨g3, 0, none⟩) OS.length c3, .int .i64 0] 36 (0, 0))) := Lib.hid (heap_alloc_new w4 _)
  generalize (w4.alloc (.cells #[.slice (some ⟨g3, 0, none⟩) OS.length c3, .int .i64 0] 36)) = w5 at *
  have HBc5 : Hid (Below w3.heap.size w3 w5) := Lib.hid (HB4.out.trans (HAL5.out.mono HB4.out.size))
  have HT5 : Hid (Below w.heap.size w w5) := Lib.hid (HT3.out.trans (HBc5.out.mono HT3.out.size))
  have HN5 : Hid (HeadsIn w5 (some ⟨g3, 0, none⟩) OS.length OS) := Lib.hid (HH3.out.on HAL5.out)
  have HXa5 : Hid (w5.heap[w.heap.size]? = some (.cells #[.slice la ln lc, .int .i64 (ra : Int)] 36 (0, 0))) := Lib.hid ((HBc5.out.block _ (Array.getElem?_eq_some_iff.1 HXa3.out).1).trans HXa3.out)
  have a05 : w5.cell? ⟨w.heap.size, 0, none⟩ = some (.slice la ln lc) := (by rw [cell_of_row _ _ 0 _ 36 _ HXa5.out]; rfl)
  have a15 : w5.cell? ⟨w.heap.size, 1, none⟩ = some (.int .i64 (ra : Int)) := (by rw [cell_of_row _ _ 1 _ 36 _ HXa5.out]; rfl)
  go_upto_region 5 with (go_at_call 34; (with_reducible refine (KB.out _ HT5.out).mono ?_); rintro e w6 ⟨va, OB, rfl, hva, hna, hb9⟩; have HVA := Lib.hid hva; have HNB := Lib.hid hna; have HB6 := Lib.hid hb9; clear hva hna hb9)
  have HT6 : Hid (Below w.heap.size w w6) := Lib.hid (HT5.out.trans (HB6.out.mono HT5.out.size))
  have HXa6 : Hid (w6.heap[w.heap.size]? = some (.cells #[.slice la ln lc, .int .i64 (ra : Int)] 36 (0, 0))) := Lib.hid ((HB6.out.block _ (Array.getElem?_eq_some_iff.1 HXa5.out).1).trans HXa5.out); have HXn6 : Hid (w6.heap[w4.heap.size]? = some (.cells #[.slice (some ⟨g3, 0, none⟩) OS.length c3, .int .i64 0] 36 (0, 0))) := Lib.hid ((HB6.out.block _ (Array.getElem?_eq_some_iff.1 HXn5.out).1).trans HXn5.out)
  have a06 : w6.cell? ⟨w.heap.size, 0, none⟩ = some (.slice la ln lc) := (by rw [cell_of_row _ _ 0 _ 36 _ HXa6.out]; rfl)
  have a16 : w6.cell? ⟨w.heap.size, 1, none⟩ = some (.int .i64 (ra : Int)) := (by rw [cell_of_row _ _ 1 _ 36 _ HXa6.out]; rfl)
  go_upto_region 6 with (go_at_call 41; (with_reducible refine (KA.out _ HT6.out).mono ?_); rintro e w7 ⟨rfl, hb9⟩; have HB7 := Lib.hid hb9; clear hb9)
  have HAL8 : Hid (Below w7.heap.size w7 (w7.alloc (.cells #[.slice none 0 0, .int .i64 0] 36))) := Lib.hid ((Below.refl _ _).alloc (Nat.le_refl _) _)
  have HXx8 : Hid ((w7.alloc (.cells #[.slice none 0 0, .int .i64 0] 36)).heap[w7.heap.size]? = some (.cells #[.slice none 0 0, .int .i64 0] 36 (0, 0))) := Lib.hid (heap_alloc_new w7 _)
  generalize (w7.alloc (.cells #[.slice none 0 0, .int .i64 0] 36)) = w8 at *
  have HBc8 : Hid (Below w6.heap.size w6 w8) := Lib.hid (HB7.out.trans (HAL8.out.mono HB7.out.size))
  have HT8 : Hid (Below w.heap.size w w8) := Lib.hid (HT6.out.trans (HBc8.out.mono HT6.out.size))
  have HXa8 : Hid (w8.heap[w.heap.size]? = some (.cells #[.slice la ln lc, .int .i64 (ra : Int)] 36 (0, 0))) := Lib.hid ((HBc8.out.block _ (Array.getElem?_eq_some_iff.1 HXa6.out).1).trans HXa6.out); have HXn8 : Hid (w8.heap[w4.heap.size]? = some (.cells #[.slice (some ⟨g3, 0, none⟩) OS.length c3, .int .i64 0] 36 (0, 0))) := Lib.hid ((HBc8.out.block _ (Array.getElem?_eq_some_iff.1 HXn6.out).1).trans HXn6.out)
  have a08 : w8.cell? ⟨w.heap.size, 0, none⟩ = some (.slice la ln lc) := (by rw [cell_of_row _ _ 0 _ 36 _ HXa8.out]; rfl)
  have a18 : w8.cell? ⟨w.heap.size, 1, none⟩ = some (.int .i64 (ra : Int)) := (by rw [cell_of_row _ _ 1 _ 36 _ HXa8.out]; rfl)
  go_upto_region 8 with (go_at_call 33; (with_reducible refine (KRA.out _ HT8.out).mono ?_); rintro e w9 ⟨rfl, hb9⟩; have HB9 := Lib.hid hb9; clear hb9)
  have HT9 : Hid (Below w.heap.size w w9) := Lib.hid (HT8.out.trans (HB9.out.mono HT8.out.size))
  have HXa9 : Hid (w9.heap[w.heap.size]? = some (.cells #[.slice la ln lc, .int .i64 (ra : Int)] 36 (0, 0))) := Lib.hid ((HB9.out.block _ (Array.getElem?_eq_some_iff.1 HXa8.out).1).trans HXa8.out); have HXn9 : Hid (w9.heap[w4.heap.size]? = some (.cells #[.slice (some ⟨g3, 0, none⟩) OS.length c3, .int .i64 0] 36 (0, 0))) := Lib.hid ((HB9.out.block _ (Array.getElem?_eq_some_iff.1 HXn8.out).1).trans HXn8.out)
  have HXx9 : Hid (w9.heap[w7.heap.size]? = some (.cells #[.slice none 0 0, .int .i64 0] 36 (0, 0))) := Lib.hid ((HB9.out.block _ (Array.getElem?_eq_some_iff.1 HXx8.out).1).trans HXx8.out)
  have a09 : w9.cell? ⟨w.heap.size, 0, none⟩ = some (.slice la ln lc) := (by rw [cell_of_row _ _ 0 _ 36 _ HXa9.out]; rfl)
  have a19 : w9.cell? ⟨w.heap.size, 1, none⟩ = some (.int .i64 (ra : Int)) := (by rw [cell_of_row _ _ 1 _ 36 _ HXa9.out]; rfl)
  go_upto_region 9 with (go_at_call 42; (with_reducible refine (KR.out _ HT9.out).mono ?_); rintro e w10 ⟨g5, c5, OSR, rfl, hnf, hh, h0, h100, hge, hb9⟩; have HNR := Lib.hid hnf; have HHR := Lib.hid hh; have HB10 := Lib.hid hb9; clear hnf hh h0 h100 hge hb9)
  have HAL11 : Hid (Below w10.heap.size w10 (w10.alloc (.cells #[.slice (some ⟨g5, 0, none⟩) OSR.length c5, .int .i64 0] 36))) := Lib.hid ((Below.refl _ _).alloc (Nat.le_refl _) _)
  have HXr11 : Hid ((w10.alloc (.cells #[.slice (some ⟨g5, 0, none⟩) OSR.length c5, .int .i64 0] 36)).heap[w10.heap.size]? = some (.cells #[.slice (some ⟨g5, 0, none⟩) OSR.length c5, .int .i64 0] 36 (0, 0))) := Lib.hid (heap_alloc_new w10 _)
  generalize (w10.alloc (.cells #[.slice (some ⟨g5, 0, none⟩) OSR.length c5, .int .i64 0] 36)) = w11 at *
  have HBc11 : Hid (Below w9.heap.size w9 w11) := Lib.hid (HB10.out.trans (HAL11.out.mono HB10.out.size))
  have HT11 : Hid (Below w.heap.size w w11) := Lib.hid (HT9.out.trans (HBc11.out.mono HT9.out.size))
  have HKR : Hid (Alk OS OSR) := Lib.hid (NormF.one HGA.out.oks (by have := HLA.out; omega) HLA.out.1 HNF.out HNR.out)
  have HKB : Hid (Alk OB OSR) := Lib.hid (NormF.one HGA.out.oks (by have := HLA.out; omega) HLA.out.1 HNB.out HNR.out)
  have HLR : Hid (OSR.length = OS.length) := Lib.hid HKR.out.len
  rw [HLR.out] at HXr11
  have HR11 : Hid (HeadsIn w11 (some ⟨g5, 0, none⟩) OS.length OSR) := Lib.hid (by rw [← HLR.out]; exact HHR.out.on HAL11.out)
  have HN11 : Hid (HeadsIn w11 (some ⟨g3, 0, none⟩) OS.length OS) := Lib.hid (HN5.out.on (HB6.out.trans ((HBc8.out.trans ((HB9.out.trans (HBc11.out.mono HB9.out.size)).mono HBc8.out.size)).mono HB6.out.size)))
  have HVA11 := Lib.hid (HVA.out.on (HBc8.out.trans ((HB9.out.trans (HBc11.out.mono HB9.out.size)).mono HBc8.out.size)))
  have KE : Hid (∀ W', Below w11.heap.size w11 W' → Calls Tryz.prog 23 #[.agg #[.slice (some ⟨g3, 0, none⟩) OS.length c3, .int .i64 0], .agg #[.slice (some ⟨g5, 0, none⟩) OS.length c5, .int .i64 0]] W' (BoolPost W' true)) := Lib.hid (fun W' hb => equal_ok W' _ _ _ _ _ _ OS OSR (HN11.out.on hb) (HR11.out.on hb) (by have := HOL.out; have := HLA.out; omega) HKR.out)
  have KY : Hid (∀ W', Below w11.heap.size w11 W' → Calls Tryz.prog 43 #[.agg #[.slice (some ⟨g5, 0, none⟩) OS.length c5, .int .i64 0]] W' (RBytesPost W' OSR)) := Lib.hid (fun W' hb => rbytes_ok W' _ _ _ _ OSR (HR11.out.on hb) (by have := HOL.out; have := HLA.out; omega) (HNR.out.oks HGA.out.oks (by have := HLA.out; omega) HLA.out.1) (HNR.out.few (few_v HGA.out.heads HGA.out.few)))
  obtain ⟨st, hst⟩ : ∃ st, strB (bytesL OB) = st := ⟨_, rfl⟩
  have HST : Hid (∀ s : ByteArray, s.data.toList = bytesL OSR → s = st) := Lib.hid (fun s hs => by
    rw [← hst, HKB.out.bytes, ← hs]
    rfl)
  have HSE := Lib.hid hst
  clear hst
  have HXa11 : Hid (w11.heap[w.heap.size]? = some (.cells #[.slice la ln lc, .int .i64 (ra : Int)] 36 (0, 0))) := Lib.hid ((HBc11.out.block _ (Array.getElem?_eq_some_iff.1 HXa9.out).1).trans HXa9.out); have HXn11 : Hid (w11.heap[w4.heap.size]? = some (.cells #[.slice (some ⟨g3, 0, none⟩) OS.length c3, .int .i64 0] 36 (0, 0))) := Lib.hid ((HBc11.out.block _ (Array.getElem?_eq_some_iff.1 HXn9.out).1).trans HXn9.out)
  have HXx11 : Hid (w11.heap[w7.heap.size]? = some (.cells #[.slice none 0 0, .int .i64 0] 36 (0, 0))) := Lib.hid ((HBc11.out.block _ (Array.getElem?_eq_some_iff.1 HXx9.out).1).trans HXx9.out)
  have a011 : w11.cell? ⟨w.heap.size, 0, none⟩ = some (.slice la ln lc) := (by rw [cell_of_row _ _ 0 _ 36 _ HXa11.out]; rfl)
  have a111 : w11.cell? ⟨w.heap.size, 1, none⟩ = some (.int .i64 (ra : Int)) := (by rw [cell_of_row _ _ 1 _ 36 _ HXa11.out]; rfl)
  have n011 : w11.cell? ⟨w4.heap.size, 0, none⟩ = some (.slice (some ⟨g3, 0, none⟩) OS.length c3) := (by rw [cell_of_row _ _ 0 _ 36 _ HXn11.out]; rfl)
  have n111 : w11.cell? ⟨w4.heap.size, 1, none⟩ = some (.int .i64 0) := (by rw [cell_of_row _ _ 1 _ 36 _ HXn11.out]; rfl)
  have r011 : w11.cell? ⟨w10.heap.size, 0, none⟩ = some (.slice (some ⟨g5, 0, none⟩) OS.length c5) := (by rw [cell_of_row _ _ 0 _ 36 _ HXr11.out]; rfl)
  have r111 : w11.cell? ⟨w10.heap.size, 1, none⟩ = some (.int .i64 0) := (by rw [cell_of_row _ _ 1 _ 36 _ HXr11.out]; rfl)
  have hd11 : Below w11.heap.size w11 w11.drew := (Below.refl _ _).drew
  have hbb := beq_self_eq_true st.toList
  have hcd := bu_conv HVA11.out.drew
  rw [HSE.out] at hcd
  go_upto_region 9 with (fail)
  have hc11 := bu_conv HVA11.out
  rw [HSE.out] at hc11
  go_region_held3 (fun w' => w'.cell? ⟨w.heap.size, 0, none⟩ = some (.slice la ln lc) ∧ w'.cell? ⟨w.heap.size, 1, none⟩ = some (.int .i64 (ra : Int)) ∧ w'.cell? ⟨w4.heap.size, 0, none⟩ = some (.slice (some ⟨g3, 0, none⟩) OS.length c3) ∧ w'.cell? ⟨w4.heap.size, 1, none⟩ = some (.int .i64 0) ∧ w'.cell? ⟨w10.heap.size, 0, none⟩ = some (.slice (some ⟨g5, 0, none⟩) OS.length c5) ∧ w'.cell? ⟨w10.heap.size, 1, none⟩ = some (.int .i64 0) ∧ (convert 56 9 va).run Tryz.prog w' = .ok (.string st) w') (first | exact ⟨a011, a111, n011, n111, r011, r111, hc11⟩ | exact ⟨a012, a112, n012, n112, r012, r112, hc12⟩ | exact ⟨a013, a113, n013, n113, r013, r113, hc13⟩ | exact ⟨a014, a114, n014, n114, r014, r114, hc14⟩ | exact ⟨a011, a111, n011, n111, r011, r111, hcd⟩ | go_keep)
    (first
      | (go_at_call 38; (with_reducible refine (KC.out _ (HT11.out.trans (hd11.mono HT11.out.size))).mono ?_); rintro e w12 ⟨rfl, hb9⟩; have HR12 : Hid (Below w11.heap.size w11 w12) := Lib.hid (hd11.trans hb9); have HXa12 : Hid (w12.heap[w.heap.size]? = some (.cells #[.slice la ln lc, .int .i64 (ra : Int)] 36 (0, 0))) := Lib.hid ((HR12.out.block _ (Array.getElem?_eq_some_iff.1 HXa11.out).1).trans HXa11.out); have HXn12 : Hid (w12.heap[w4.heap.size]? = some (.cells #[.slice (some ⟨g3, 0, none⟩) OS.length c3, .int .i64 0] 36 (0, 0))) := Lib.hid ((HR12.out.block _ (Array.getElem?_eq_some_iff.1 HXn11.out).1).trans HXn11.out); have HXr12 : Hid (w12.heap[w10.heap.size]? = some (.cells #[.slice (some ⟨g5, 0, none⟩) OS.length c5, .int .i64 0] 36 (0, 0))) := Lib.hid ((HR12.out.block _ (Array.getElem?_eq_some_iff.1 HXr11.out).1).trans HXr11.out); have a012 : w12.cell? ⟨w.heap.size, 0, none⟩ = some (.slice la ln lc) := (by rw [cell_of_row _ _ 0 _ 36 _ HXa12.out]; rfl); have a112 : w12.cell? ⟨w.heap.size, 1, none⟩ = some (.int .i64 (ra : Int)) := (by rw [cell_of_row _ _ 1 _ 36 _ HXa12.out]; rfl); have n012 : w12.cell? ⟨w4.heap.size, 0, none⟩ = some (.slice (some ⟨g3, 0, none⟩) OS.length c3) := (by rw [cell_of_row _ _ 0 _ 36 _ HXn12.out]; rfl); have n112 : w12.cell? ⟨w4.heap.size, 1, none⟩ = some (.int .i64 0) := (by rw [cell_of_row _ _ 1 _ 36 _ HXn12.out]; rfl); have r012 : w12.cell? ⟨w10.heap.size, 0, none⟩ = some (.slice (some ⟨g5, 0, none⟩) OS.length c5) := (by rw [cell_of_row _ _ 0 _ 36 _ HXr12.out]; rfl); have r112 : w12.cell? ⟨w10.heap.size, 1, none⟩ = some (.int .i64 0) := (by rw [cell_of_row _ _ 1 _ 36 _ HXr12.out]; rfl); have hc12 := bu_conv (HVA11.out.on HR12.out); rw [HSE.out] at hc12; clear hb9)
      | (go_at_call 23; (with_reducible refine (KE.out _ HR12.out).mono ?_); rintro e w13 ⟨rfl, hb9⟩; have HR13 : Hid (Below w11.heap.size w11 w13) := Lib.hid (HR12.out.trans (hb9.mono HR12.out.size)); have HXa13 : Hid (w13.heap[w.heap.size]? = some (.cells #[.slice la ln lc, .int .i64 (ra : Int)] 36 (0, 0))) := Lib.hid ((HR13.out.block _ (Array.getElem?_eq_some_iff.1 HXa11.out).1).trans HXa11.out); have HXn13 : Hid (w13.heap[w4.heap.size]? = some (.cells #[.slice (some ⟨g3, 0, none⟩) OS.length c3, .int .i64 0] 36 (0, 0))) := Lib.hid ((HR13.out.block _ (Array.getElem?_eq_some_iff.1 HXn11.out).1).trans HXn11.out); have HXr13 : Hid (w13.heap[w10.heap.size]? = some (.cells #[.slice (some ⟨g5, 0, none⟩) OS.length c5, .int .i64 0] 36 (0, 0))) := Lib.hid ((HR13.out.block _ (Array.getElem?_eq_some_iff.1 HXr11.out).1).trans HXr11.out); have a013 : w13.cell? ⟨w.heap.size, 0, none⟩ = some (.slice la ln lc) := (by rw [cell_of_row _ _ 0 _ 36 _ HXa13.out]; rfl); have a113 : w13.cell? ⟨w.heap.size, 1, none⟩ = some (.int .i64 (ra : Int)) := (by rw [cell_of_row _ _ 1 _ 36 _ HXa13.out]; rfl); have n013 : w13.cell? ⟨w4.heap.size, 0, none⟩ = some (.slice (some ⟨g3, 0, none⟩) OS.length c3) := (by rw [cell_of_row _ _ 0 _ 36 _ HXn13.out]; rfl); have n113 : w13.cell? ⟨w4.heap.size, 1, none⟩ = some (.int .i64 0) := (by rw [cell_of_row _ _ 1 _ 36 _ HXn13.out]; rfl); have r013 : w13.cell? ⟨w10.heap.size, 0, none⟩ = some (.slice (some ⟨g5, 0, none⟩) OS.length c5) := (by rw [cell_of_row _ _ 0 _ 36 _ HXr13.out]; rfl); have r113 : w13.cell? ⟨w10.heap.size, 1, none⟩ = some (.int .i64 0) := (by rw [cell_of_row _ _ 1 _ 36 _ HXr13.out]; rfl); have hc13 := bu_conv (HVA11.out.on HR13.out); rw [HSE.out] at hc13; clear hb9)
      | (go_at_call 43; (with_reducible refine (KY.out _ HR13.out).mono ?_); rintro e w14 ⟨s, rfl, hs, hb9⟩; obtain rfl : s = st := HST.out s hs; have HR14 : Hid (Below w11.heap.size w11 w14) := Lib.hid (HR13.out.trans (hb9.mono HR13.out.size)); have HXa14 : Hid (w14.heap[w.heap.size]? = some (.cells #[.slice la ln lc, .int .i64 (ra : Int)] 36 (0, 0))) := Lib.hid ((HR14.out.block _ (Array.getElem?_eq_some_iff.1 HXa11.out).1).trans HXa11.out); have HXn14 : Hid (w14.heap[w4.heap.size]? = some (.cells #[.slice (some ⟨g3, 0, none⟩) OS.length c3, .int .i64 0] 36 (0, 0))) := Lib.hid ((HR14.out.block _ (Array.getElem?_eq_some_iff.1 HXn11.out).1).trans HXn11.out); have HXr14 : Hid (w14.heap[w10.heap.size]? = some (.cells #[.slice (some ⟨g5, 0, none⟩) OS.length c5, .int .i64 0] 36 (0, 0))) := Lib.hid ((HR14.out.block _ (Array.getElem?_eq_some_iff.1 HXr11.out).1).trans HXr11.out); have a014 : w14.cell? ⟨w.heap.size, 0, none⟩ = some (.slice la ln lc) := (by rw [cell_of_row _ _ 0 _ 36 _ HXa14.out]; rfl); have a114 : w14.cell? ⟨w.heap.size, 1, none⟩ = some (.int .i64 (ra : Int)) := (by rw [cell_of_row _ _ 1 _ 36 _ HXa14.out]; rfl); have n014 : w14.cell? ⟨w4.heap.size, 0, none⟩ = some (.slice (some ⟨g3, 0, none⟩) OS.length c3) := (by rw [cell_of_row _ _ 0 _ 36 _ HXn14.out]; rfl); have n114 : w14.cell? ⟨w4.heap.size, 1, none⟩ = some (.int .i64 0) := (by rw [cell_of_row _ _ 1 _ 36 _ HXn14.out]; rfl); have r014 : w14.cell? ⟨w10.heap.size, 0, none⟩ = some (.slice (some ⟨g5, 0, none⟩) OS.length c5) := (by rw [cell_of_row _ _ 0 _ 36 _ HXr14.out]; rfl); have r114 : w14.cell? ⟨w10.heap.size, 1, none⟩ = some (.int .i64 0) := (by rw [cell_of_row _ _ 1 _ 36 _ HXr14.out]; rfl); have hc14 := bu_conv (HVA11.out.on HR14.out); rw [HSE.out] at hc14; clear hb9 hs))
  all_goals
    have HXx14 : Hid (w14.heap[w7.heap.size]? = some (.cells #[.slice none 0 0, .int .i64 0] 36 (0, 0))) := Lib.hid ((HR14.out.block _ (Array.getElem?_eq_some_iff.1 HXx11.out).1).trans HXx11.out)
    have x014 : w14.cell? ⟨w7.heap.size, 0, none⟩ = some (.slice none 0 0) := (by rw [cell_of_row _ _ 0 _ 36 _ HXx14.out]; rfl)
    have x114 : w14.cell? ⟨w7.heap.size, 1, none⟩ = some (.int .i64 0) := (by rw [cell_of_row _ _ 1 _ 36 _ HXx14.out]; rfl)
    rcases hi with hi | ⟨hi, hj⟩
    all_goals
      go_wp2
      go_ret
      exact ⟨rfl, HT11.out.trans (HR14.out.mono HT11.out.size)⟩
set_option maxRecDepth 20000 in
set_option maxHeartbeats 16000000 in
theorem norm_in (w : World) (la : Option Addr) (ln lc : Nat) (ra : Int) (A : List Hd) (hA : GRaw w la ln A) (i : Int) (hfa : fewB A = true) (hga : graphB ra A = true) (hi : 0 ≤ i ∧ i < (ln : Int)) : Calls Tryz.prog 7 #[.agg #[.slice la ln lc, .int .i64 ra], .int .i64 i] w fun e w' => e = .returned (.bool true) ∧ Below w.heap.size w w' := by
  obtain ⟨ra, rfl⟩ : ∃ k : Nat, ra = (k : Int) := ⟨ra.toNat, (Int.toNat_of_nonneg (OkHeads.of_graph hga).2.1).symm⟩
  obtain ⟨i, rfl⟩ : ∃ k : Nat, i = (k : Int) := ⟨i.toNat, (Int.toNat_of_nonneg hi.1).symm⟩
  have HT1 : Hid (Below w.heap.size w (w.alloc (.cells #[.slice la ln lc, .int .i64 (ra : Int)] 36))) := Lib.hid ((Below.refl _ _).alloc (Nat.le_refl _) _)
  have HXa1 : Hid ((w.alloc (.cells #[.slice la ln lc, .int .i64 (ra : Int)] 36)).heap[w.heap.size]? = some (.cells #[.slice la ln lc, .int .i64 (ra : Int)] 36 (0, 0))) := Lib.hid (heap_alloc_new w _)
  have KL := Lib.hid (live_c w)
  have KFA := Lib.hid (few_c (lc := lc) (ra := ra) hA hfa)
  have KRA := Lib.hid (right_c (lc := lc) hA hfa hga)
  have HGA := Lib.hid (hA.gok hfa hga)
  have HLA := Lib.hid HGA.out.lens
  have HLN := Lib.hid hA.raw.1
  have KN : Hid (∀ W', Below w.heap.size w W' → Calls Tryz.prog 40 #[.agg #[.slice la ln lc, .int .i64 (ra : Int)]] W' (NormalPost W' A ra)) := Lib.hid (fun W' hb => normal_ok W' la ln lc ra A (HGA.out.heads.on hb) HGA.out.few HGA.out.rlt (by have := HGA.out.len; omega) HGA.out.ok HGA.out.nil)
  have KB : Hid (∀ W', Below w.heap.size w W' → Calls Tryz.prog 34 #[.agg #[.slice la ln lc, .int .i64 (ra : Int)]] W' (BytesPost W' A ra)) := Lib.hid (fun W' hb => (HGA.out.on hb).bytes)
  have KC : Hid (∀ W', Below w.heap.size w W' → Calls Tryz.prog 38 #[.agg #[.slice la ln lc, .int .i64 (ra : Int)]] W' fun e w' => e = .returned (.int .i64 0) ∧ Below W'.heap.size W' w') := Lib.hid (fun W' hb => by
    have := check_any W' la ln lc ra A (HGA.out.heads.on hb) hA.len
    rw [hga] at this
    exact this)
  have KR : Hid (∀ W', Below w.heap.size w W' → Calls Tryz.prog 42 #[.agg #[.slice la ln lc, .int .i64 (ra : Int)]] W' (NormRPost W' A ra)) := Lib.hid (fun W' hb => normalR_ok W' la ln lc ra A (HGA.out.heads.on hb) HGA.out.rlt (by have := HGA.out.len; omega) HGA.out.oks HGA.out.few)
  have KA : Hid (∀ W', Below w.heap.size w W' → Calls Tryz.prog 41 #[.agg #[.slice la ln lc, .int .i64 (ra : Int)], .int .i64 (i : Int)] W' (GAtPost W' A i)) := Lib.hid (fun W' hb => gat_ok W' la ln lc ra i A (HGA.out.heads.on hb) HGA.out.few (by omega) (by have := HGA.out.len; omega) HGA.out.ok HGA.out.nil)
  have KRI : Hid (∀ W', Below w.heap.size w W' → Calls Tryz.prog 42 #[.agg #[.slice la ln lc, .int .i64 (i : Int)]] W' (NormRPost W' A i)) := Lib.hid (fun W' hb => normalR_ok W' la ln lc i A (HGA.out.heads.on hb) (by omega) (by have := HGA.out.len; omega) HGA.out.oks HGA.out.few)
  have hi0 : ¬ (i : Int) < 0 := by omega
  have hi1 : ¬ (ln : Int) ≤ i := by omega
  have HIL : Hid (i < A.length) := Lib.hid (by have := HLN.out; omega)
  clear hA hfa hga hi
  go_enter Tryz.func7, Tryz.ntmps7
  go_upto_region 1 with (fail)
  generalize (w.alloc (.cells #[.slice la ln lc, .int .i64 (ra : Int)] 36)) = w1 at *
  have a01 : w1.cell? ⟨w.heap.size, 0, none⟩ = some (.slice la ln lc) := (by rw [cell_of_row _ _ 0 _ 36 _ HXa1.out]; rfl)
  have a11 : w1.cell? ⟨w.heap.size, 1, none⟩ = some (.int .i64 (ra : Int)) := (by rw [cell_of_row _ _ 1 _ 36 _ HXa1.out]; rfl)
  go_upto_region 3 with (first | (go_at_call 31; (with_reducible refine (KL.out _ HT1.out).mono ?_); rintro e w2 ⟨rfl, hb9⟩; have HBw2 : Hid (Below w1.heap.size w1 w2) := Lib.hid hb9; have HXa2 : Hid (w2.heap[w.heap.size]? = some (.cells #[.slice la ln lc, .int .i64 (ra : Int)] 36 (0, 0))) := Lib.hid ((hb9.block _ (Array.getElem?_eq_some_iff.1 HXa1.out).1).trans HXa1.out); have a02 : w2.cell? ⟨w.heap.size, 0, none⟩ = some (.slice la ln lc) := (by rw [cell_of_row _ _ 0 _ 36 _ HXa2.out]; rfl); have a12 : w2.cell? ⟨w.heap.size, 1, none⟩ = some (.int .i64 (ra : Int)) := (by rw [cell_of_row _ _ 1 _ 36 _ HXa2.out]; rfl); clear hb9; have HT2 : Hid (Below w.heap.size w w2) := Lib.hid (HT1.out.trans (HBw2.out.mono HT1.out.size))) | (go_at_call 32; (with_reducible refine (KFA.out _ HT2.out).mono ?_); rintro e w3 ⟨rfl, hb9⟩; have HBw3 : Hid (Below w1.heap.size w1 w3) := Lib.hid (HBw2.out.trans (hb9.mono HBw2.out.size)); have HXa3 : Hid (w3.heap[w.heap.size]? = some (.cells #[.slice la ln lc, .int .i64 (ra : Int)] 36 (0, 0))) := Lib.hid ((hb9.block _ (Array.getElem?_eq_some_iff.1 HXa2.out).1).trans HXa2.out); have a03 : w3.cell? ⟨w.heap.size, 0, none⟩ = some (.slice la ln lc) := (by rw [cell_of_row _ _ 0 _ 36 _ HXa3.out]; rfl); have a13 : w3.cell? ⟨w.heap.size, 1, none⟩ = some (.int .i64 (ra : Int)) := (by rw [cell_of_row _ _ 1 _ 36 _ HXa3.out]; rfl); clear hb9; have HT3 : Hid (Below w.heap.size w w3) := Lib.hid (HT1.out.trans (HBw3.out.mono HT1.out.size))))
  go_upto_region 4 with (go_at_call 40; (with_reducible refine (KN.out _ HT3.out).mono ?_); rintro e w4 ⟨g3, c3, OS, cl, ord, rfl, hg3, hH3, hO3, hcl3, hst3, hco3, hnp3, hll3, hb3⟩; have HH3 := Lib.hid hH3; have HNF : Hid (NormF A ra OS) := Lib.hid ⟨cl, ord, hst3, hco3, hnp3, hll3⟩; have HB4 := Lib.hid hb3; clear hg3 hH3 hO3 hcl3 hst3 hco3 hnp3 hll3 hb3)
  have HOL : Hid (OS.length ≤ A.length) := Lib.hid (HNF.out.le HGA.out.oks (by have := HLA.out; omega) HLA.out.1)
  have HAL5 : Hid (Below w4.heap.size w4 (w4.alloc (.cells #[.slice (some ⟨g3, 0, none⟩) OS.length c3, .int .i64 0] 36))) := Lib.hid ((Below.refl _ _).alloc (Nat.le_refl _) _)
  have HXn5 : Hid ((w4.alloc (.cells #[.slice (some ⟨g3, 0, none⟩) OS.length c3, .int .i64 0] 36)).heap[w4.heap.size]? = some (.cells #[.slice (some ⟨g3, 0, none⟩) OS.length c3, .int .i64 0] 36 (0, 0))) := Lib.hid (heap_alloc_new w4 _)
  generalize (w4.alloc (.cells #[.slice (some ⟨g3, 0, none⟩) OS.length c3, .int .i64 0] 36)) = w5 at *
  have HBc5 : Hid (Below w3.heap.size w3 w5) := Lib.hid (HB4.out.trans (HAL5.out.mono HB4.out.size))
  have HT5 : Hid (Below w.heap.size w w5) := Lib.hid (HT3.out.trans (HBc5.out.mono HT3.out.size))
  have HN5 : Hid (HeadsIn w5 (some ⟨g3, 0, none⟩) OS.length OS) := Lib.hid (HH3.out.on HAL5.out)
  have HXa5 : Hid (w5.heap[w.heap.size]? = some (.cells #[.slice la ln lc, .int .i64 (ra : Int)] 36 (0, 0))) := Lib.hid ((HBc5.out.block _ (Array.getElem?_eq_some_iff.1 HXa3.out).1).trans HXa3.out)
  have a05 : w5.cell? ⟨w.heap.size, 0, none⟩ = some (.slice la ln lc) := (by rw [cell_of_row _ _ 0 _ 36 _ HXa5.out]; rfl)
  have a15 : w5.cell? ⟨w.heap.size, 1, none⟩ = some (.int .i64 (ra : Int)) := (by rw [cell_of_row _ _ 1 _ 36 _ HXa5.out]; rfl)
  go_upto_region 5 with (go_at_call 34; (with_reducible refine (KB.out _ HT5.out).mono ?_); rintro e w6 ⟨va, OB, rfl, hva, hna, hb9⟩; have HVA := Lib.hid hva; have HNB := Lib.hid hna; have HB6 := Lib.hid hb9; clear hva hna hb9)
  have HT6 : Hid (Below w.heap.size w w6) := Lib.hid (HT5.out.trans (HB6.out.mono HT5.out.size))
  have HXa6 : Hid (w6.heap[w.heap.size]? = some (.cells #[.slice la ln lc, .int .i64 (ra : Int)] 36 (0, 0))) := Lib.hid ((HB6.out.block _ (Array.getElem?_eq_some_iff.1 HXa5.out).1).trans HXa5.out); have HXn6 : Hid (w6.heap[w4.heap.size]? = some (.cells #[.slice (some ⟨g3, 0, none⟩) OS.length c3, .int .i64 0] 36 (0, 0))) := Lib.hid ((HB6.out.block _ (Array.getElem?_eq_some_iff.1 HXn5.out).1).trans HXn5.out)
  have a06 : w6.cell? ⟨w.heap.size, 0, none⟩ = some (.slice la ln lc) := (by rw [cell_of_row _ _ 0 _ 36 _ HXa6.out]; rfl)
  have a16 : w6.cell? ⟨w.heap.size, 1, none⟩ = some (.int .i64 (ra : Int)) := (by rw [cell_of_row _ _ 1 _ 36 _ HXa6.out]; rfl)
  go_upto_region 6 with (go_at_call 41; (with_reducible refine (KA.out _ HT6.out).mono ?_); rintro e w7 ⟨OX, g7, c7, rfl, hnf, hh, hn, hb9⟩; have HNX := Lib.hid hnf; have HHX := Lib.hid hh; have HB7 := Lib.hid hb9; clear hnf hh hn hb9)
  have HAL8 : Hid (Below w7.heap.size w7 (w7.alloc (.cells #[.slice (some ⟨g7, 0, none⟩) OX.length c7, .int .i64 0] 36))) := Lib.hid ((Below.refl _ _).alloc (Nat.le_refl _) _)
  have HXx8 : Hid ((w7.alloc (.cells #[.slice (some ⟨g7, 0, none⟩) OX.length c7, .int .i64 0] 36)).heap[w7.heap.size]? = some (.cells #[.slice (some ⟨g7, 0, none⟩) OX.length c7, .int .i64 0] 36 (0, 0))) := Lib.hid (heap_alloc_new w7 _)
  generalize (w7.alloc (.cells #[.slice (some ⟨g7, 0, none⟩) OX.length c7, .int .i64 0] 36)) = w8 at *
  have HBc8 : Hid (Below w6.heap.size w6 w8) := Lib.hid (HB7.out.trans (HAL8.out.mono HB7.out.size))
  have HT8 : Hid (Below w.heap.size w w8) := Lib.hid (HT6.out.trans (HBc8.out.mono HT6.out.size))
  have HXa8 : Hid (w8.heap[w.heap.size]? = some (.cells #[.slice la ln lc, .int .i64 (ra : Int)] 36 (0, 0))) := Lib.hid ((HBc8.out.block _ (Array.getElem?_eq_some_iff.1 HXa6.out).1).trans HXa6.out); have HXn8 : Hid (w8.heap[w4.heap.size]? = some (.cells #[.slice (some ⟨g3, 0, none⟩) OS.length c3, .int .i64 0] 36 (0, 0))) := Lib.hid ((HBc8.out.block _ (Array.getElem?_eq_some_iff.1 HXn6.out).1).trans HXn6.out)
  have a08 : w8.cell? ⟨w.heap.size, 0, none⟩ = some (.slice la ln lc) := (by rw [cell_of_row _ _ 0 _ 36 _ HXa8.out]; rfl)
  have a18 : w8.cell? ⟨w.heap.size, 1, none⟩ = some (.int .i64 (ra : Int)) := (by rw [cell_of_row _ _ 1 _ 36 _ HXa8.out]; rfl)
  have HX8H : Hid (HeadsIn w8 (some ⟨g7, 0, none⟩) OX.length OX) := Lib.hid (HHX.out.on HAL8.out)
  go_upto_region 8 with (go_at_call 33; (with_reducible refine (KRA.out _ HT8.out).mono ?_); rintro e w9 ⟨rfl, hb9⟩; have HB9 := Lib.hid hb9; clear hb9)
  have HT9 : Hid (Below w.heap.size w w9) := Lib.hid (HT8.out.trans (HB9.out.mono HT8.out.size))
  have HXa9 : Hid (w9.heap[w.heap.size]? = some (.cells #[.slice la ln lc, .int .i64 (ra : Int)] 36 (0, 0))) := Lib.hid ((HB9.out.block _ (Array.getElem?_eq_some_iff.1 HXa8.out).1).trans HXa8.out); have HXn9 : Hid (w9.heap[w4.heap.size]? = some (.cells #[.slice (some ⟨g3, 0, none⟩) OS.length c3, .int .i64 0] 36 (0, 0))) := Lib.hid ((HB9.out.block _ (Array.getElem?_eq_some_iff.1 HXn8.out).1).trans HXn8.out)
  have HXx9 : Hid (w9.heap[w7.heap.size]? = some (.cells #[.slice (some ⟨g7, 0, none⟩) OX.length c7, .int .i64 0] 36 (0, 0))) := Lib.hid ((HB9.out.block _ (Array.getElem?_eq_some_iff.1 HXx8.out).1).trans HXx8.out)
  have a09 : w9.cell? ⟨w.heap.size, 0, none⟩ = some (.slice la ln lc) := (by rw [cell_of_row _ _ 0 _ 36 _ HXa9.out]; rfl)
  have a19 : w9.cell? ⟨w.heap.size, 1, none⟩ = some (.int .i64 (ra : Int)) := (by rw [cell_of_row _ _ 1 _ 36 _ HXa9.out]; rfl)
  go_upto_region 9 with (go_at_call 42; (with_reducible refine (KR.out _ HT9.out).mono ?_); rintro e w10 ⟨g5, c5, OSR, rfl, hnf, hh, h0, h100, hge, hb9⟩; have HNR := Lib.hid hnf; have HHR := Lib.hid hh; have HB10 := Lib.hid hb9; clear hnf hh h0 h100 hge hb9)
  have HAL11 : Hid (Below w10.heap.size w10 (w10.alloc (.cells #[.slice (some ⟨g5, 0, none⟩) OSR.length c5, .int .i64 0] 36))) := Lib.hid ((Below.refl _ _).alloc (Nat.le_refl _) _)
  have HXr11 : Hid ((w10.alloc (.cells #[.slice (some ⟨g5, 0, none⟩) OSR.length c5, .int .i64 0] 36)).heap[w10.heap.size]? = some (.cells #[.slice (some ⟨g5, 0, none⟩) OSR.length c5, .int .i64 0] 36 (0, 0))) := Lib.hid (heap_alloc_new w10 _)
  generalize (w10.alloc (.cells #[.slice (some ⟨g5, 0, none⟩) OSR.length c5, .int .i64 0] 36)) = w11 at *
  have HBc11 : Hid (Below w9.heap.size w9 w11) := Lib.hid (HB10.out.trans (HAL11.out.mono HB10.out.size))
  have HT11 : Hid (Below w.heap.size w w11) := Lib.hid (HT9.out.trans (HBc11.out.mono HT9.out.size))
  have HKR : Hid (Alk OS OSR) := Lib.hid (NormF.one HGA.out.oks (by have := HLA.out; omega) HLA.out.1 HNF.out HNR.out)
  have HKB : Hid (Alk OB OSR) := Lib.hid (NormF.one HGA.out.oks (by have := HLA.out; omega) HLA.out.1 HNB.out HNR.out)
  have HLR : Hid (OSR.length = OS.length) := Lib.hid HKR.out.len
  rw [HLR.out] at HXr11
  have HR11 : Hid (HeadsIn w11 (some ⟨g5, 0, none⟩) OS.length OSR) := Lib.hid (by rw [← HLR.out]; exact HHR.out.on HAL11.out)
  have HN11 : Hid (HeadsIn w11 (some ⟨g3, 0, none⟩) OS.length OS) := Lib.hid (HN5.out.on (HB6.out.trans ((HBc8.out.trans ((HB9.out.trans (HBc11.out.mono HB9.out.size)).mono HBc8.out.size)).mono HB6.out.size)))
  have HVA11 := Lib.hid (HVA.out.on (HBc8.out.trans ((HB9.out.trans (HBc11.out.mono HB9.out.size)).mono HBc8.out.size)))
  have KE : Hid (∀ W', Below w11.heap.size w11 W' → Calls Tryz.prog 23 #[.agg #[.slice (some ⟨g3, 0, none⟩) OS.length c3, .int .i64 0], .agg #[.slice (some ⟨g5, 0, none⟩) OS.length c5, .int .i64 0]] W' (BoolPost W' true)) := Lib.hid (fun W' hb => equal_ok W' _ _ _ _ _ _ OS OSR (HN11.out.on hb) (HR11.out.on hb) (by have := HOL.out; have := HLA.out; omega) HKR.out)
  have KY : Hid (∀ W', Below w11.heap.size w11 W' → Calls Tryz.prog 43 #[.agg #[.slice (some ⟨g5, 0, none⟩) OS.length c5, .int .i64 0]] W' (RBytesPost W' OSR)) := Lib.hid (fun W' hb => rbytes_ok W' _ _ _ _ OSR (HR11.out.on hb) (by have := HOL.out; have := HLA.out; omega) (HNR.out.oks HGA.out.oks (by have := HLA.out; omega) HLA.out.1) (HNR.out.few (few_v HGA.out.heads HGA.out.few)))
  obtain ⟨st, hst⟩ : ∃ st, strB (bytesL OB) = st := ⟨_, rfl⟩
  have HST : Hid (∀ s : ByteArray, s.data.toList = bytesL OSR → s = st) := Lib.hid (fun s hs => by
    rw [← hst, HKB.out.bytes, ← hs]
    rfl)
  have HSE := Lib.hid hst
  clear hst
  have HXa11 : Hid (w11.heap[w.heap.size]? = some (.cells #[.slice la ln lc, .int .i64 (ra : Int)] 36 (0, 0))) := Lib.hid ((HBc11.out.block _ (Array.getElem?_eq_some_iff.1 HXa9.out).1).trans HXa9.out); have HXn11 : Hid (w11.heap[w4.heap.size]? = some (.cells #[.slice (some ⟨g3, 0, none⟩) OS.length c3, .int .i64 0] 36 (0, 0))) := Lib.hid ((HBc11.out.block _ (Array.getElem?_eq_some_iff.1 HXn9.out).1).trans HXn9.out)
  have HXx11 : Hid (w11.heap[w7.heap.size]? = some (.cells #[.slice (some ⟨g7, 0, none⟩) OX.length c7, .int .i64 0] 36 (0, 0))) := Lib.hid ((HBc11.out.block _ (Array.getElem?_eq_some_iff.1 HXx9.out).1).trans HXx9.out)
  have a011 : w11.cell? ⟨w.heap.size, 0, none⟩ = some (.slice la ln lc) := (by rw [cell_of_row _ _ 0 _ 36 _ HXa11.out]; rfl)
  have a111 : w11.cell? ⟨w.heap.size, 1, none⟩ = some (.int .i64 (ra : Int)) := (by rw [cell_of_row _ _ 1 _ 36 _ HXa11.out]; rfl)
  have n011 : w11.cell? ⟨w4.heap.size, 0, none⟩ = some (.slice (some ⟨g3, 0, none⟩) OS.length c3) := (by rw [cell_of_row _ _ 0 _ 36 _ HXn11.out]; rfl)
  have n111 : w11.cell? ⟨w4.heap.size, 1, none⟩ = some (.int .i64 0) := (by rw [cell_of_row _ _ 1 _ 36 _ HXn11.out]; rfl)
  have r011 : w11.cell? ⟨w10.heap.size, 0, none⟩ = some (.slice (some ⟨g5, 0, none⟩) OS.length c5) := (by rw [cell_of_row _ _ 0 _ 36 _ HXr11.out]; rfl)
  have r111 : w11.cell? ⟨w10.heap.size, 1, none⟩ = some (.int .i64 0) := (by rw [cell_of_row _ _ 1 _ 36 _ HXr11.out]; rfl)
  have hd11 : Below w11.heap.size w11 w11.drew := (Below.refl _ _).drew
  have hbb := beq_self_eq_true st.toList
  have hcd := bu_conv HVA11.out.drew
  rw [HSE.out] at hcd
  go_upto_region 9 with (fail)
  have hc11 := bu_conv HVA11.out
  rw [HSE.out] at hc11
  go_region_held3 (fun w' => w'.cell? ⟨w.heap.size, 0, none⟩ = some (.slice la ln lc) ∧ w'.cell? ⟨w.heap.size, 1, none⟩ = some (.int .i64 (ra : Int)) ∧ w'.cell? ⟨w4.heap.size, 0, none⟩ = some (.slice (some ⟨g3, 0, none⟩) OS.length c3) ∧ w'.cell? ⟨w4.heap.size, 1, none⟩ = some (.int .i64 0) ∧ w'.cell? ⟨w10.heap.size, 0, none⟩ = some (.slice (some ⟨g5, 0, none⟩) OS.length c5) ∧ w'.cell? ⟨w10.heap.size, 1, none⟩ = some (.int .i64 0) ∧ (convert 56 9 va).run Tryz.prog w' = .ok (.string st) w') (first | exact ⟨a011, a111, n011, n111, r011, r111, hc11⟩ | exact ⟨a012, a112, n012, n112, r012, r112, hc12⟩ | exact ⟨a013, a113, n013, n113, r013, r113, hc13⟩ | exact ⟨a014, a114, n014, n114, r014, r114, hc14⟩ | exact ⟨a011, a111, n011, n111, r011, r111, hcd⟩ | go_keep)
    (first
      | (go_at_call 38; (with_reducible refine (KC.out _ (HT11.out.trans (hd11.mono HT11.out.size))).mono ?_); rintro e w12 ⟨rfl, hb9⟩; have HR12 : Hid (Below w11.heap.size w11 w12) := Lib.hid (hd11.trans hb9); have HXa12 : Hid (w12.heap[w.heap.size]? = some (.cells #[.slice la ln lc, .int .i64 (ra : Int)] 36 (0, 0))) := Lib.hid ((HR12.out.block _ (Array.getElem?_eq_some_iff.1 HXa11.out).1).trans HXa11.out); have HXn12 : Hid (w12.heap[w4.heap.size]? = some (.cells #[.slice (some ⟨g3, 0, none⟩) OS.length c3, .int .i64 0] 36 (0, 0))) := Lib.hid ((HR12.out.block _ (Array.getElem?_eq_some_iff.1 HXn11.out).1).trans HXn11.out); have HXr12 : Hid (w12.heap[w10.heap.size]? = some (.cells #[.slice (some ⟨g5, 0, none⟩) OS.length c5, .int .i64 0] 36 (0, 0))) := Lib.hid ((HR12.out.block _ (Array.getElem?_eq_some_iff.1 HXr11.out).1).trans HXr11.out); have a012 : w12.cell? ⟨w.heap.size, 0, none⟩ = some (.slice la ln lc) := (by rw [cell_of_row _ _ 0 _ 36 _ HXa12.out]; rfl); have a112 : w12.cell? ⟨w.heap.size, 1, none⟩ = some (.int .i64 (ra : Int)) := (by rw [cell_of_row _ _ 1 _ 36 _ HXa12.out]; rfl); have n012 : w12.cell? ⟨w4.heap.size, 0, none⟩ = some (.slice (some ⟨g3, 0, none⟩) OS.length c3) := (by rw [cell_of_row _ _ 0 _ 36 _ HXn12.out]; rfl); have n112 : w12.cell? ⟨w4.heap.size, 1, none⟩ = some (.int .i64 0) := (by rw [cell_of_row _ _ 1 _ 36 _ HXn12.out]; rfl); have r012 : w12.cell? ⟨w10.heap.size, 0, none⟩ = some (.slice (some ⟨g5, 0, none⟩) OS.length c5) := (by rw [cell_of_row _ _ 0 _ 36 _ HXr12.out]; rfl); have r112 : w12.cell? ⟨w10.heap.size, 1, none⟩ = some (.int .i64 0) := (by rw [cell_of_row _ _ 1 _ 36 _ HXr12.out]; rfl); have hc12 := bu_conv (HVA11.out.on HR12.out); rw [HSE.out] at hc12; clear hb9)
      | (go_at_call 23; (with_reducible refine (KE.out _ HR12.out).mono ?_); rintro e w13 ⟨rfl, hb9⟩; have HR13 : Hid (Below w11.heap.size w11 w13) := Lib.hid (HR12.out.trans (hb9.mono HR12.out.size)); have HXa13 : Hid (w13.heap[w.heap.size]? = some (.cells #[.slice la ln lc, .int .i64 (ra : Int)] 36 (0, 0))) := Lib.hid ((HR13.out.block _ (Array.getElem?_eq_some_iff.1 HXa11.out).1).trans HXa11.out); have HXn13 : Hid (w13.heap[w4.heap.size]? = some (.cells #[.slice (some ⟨g3, 0, none⟩) OS.length c3, .int .i64 0] 36 (0, 0))) := Lib.hid ((HR13.out.block _ (Array.getElem?_eq_some_iff.1 HXn11.out).1).trans HXn11.out); have HXr13 : Hid (w13.heap[w10.heap.size]? = some (.cells #[.slice (some ⟨g5, 0, none⟩) OS.length c5, .int .i64 0] 36 (0, 0))) := Lib.hid ((HR13.out.block _ (Array.getElem?_eq_some_iff.1 HXr11.out).1).trans HXr11.out); have a013 : w13.cell? ⟨w.heap.size, 0, none⟩ = some (.slice la ln lc) := (by rw [cell_of_row _ _ 0 _ 36 _ HXa13.out]; rfl); have a113 : w13.cell? ⟨w.heap.size, 1, none⟩ = some (.int .i64 (ra : Int)) := (by rw [cell_of_row _ _ 1 _ 36 _ HXa13.out]; rfl); have n013 : w13.cell? ⟨w4.heap.size, 0, none⟩ = some (.slice (some ⟨g3, 0, none⟩) OS.length c3) := (by rw [cell_of_row _ _ 0 _ 36 _ HXn13.out]; rfl); have n113 : w13.cell? ⟨w4.heap.size, 1, none⟩ = some (.int .i64 0) := (by rw [cell_of_row _ _ 1 _ 36 _ HXn13.out]; rfl); have r013 : w13.cell? ⟨w10.heap.size, 0, none⟩ = some (.slice (some ⟨g5, 0, none⟩) OS.length c5) := (by rw [cell_of_row _ _ 0 _ 36 _ HXr13.out]; rfl); have r113 : w13.cell? ⟨w10.heap.size, 1, none⟩ = some (.int .i64 0) := (by rw [cell_of_row _ _ 1 _ 36 _ HXr13.out]; rfl); have hc13 := bu_conv (HVA11.out.on HR13.out); rw [HSE.out] at hc13; clear hb9)
      | (go_at_call 43; (with_reducible refine (KY.out _ HR13.out).mono ?_); rintro e w14 ⟨s, rfl, hs, hb9⟩; obtain rfl : s = st := HST.out s hs; have HR14 : Hid (Below w11.heap.size w11 w14) := Lib.hid (HR13.out.trans (hb9.mono HR13.out.size)); have HXa14 : Hid (w14.heap[w.heap.size]? = some (.cells #[.slice la ln lc, .int .i64 (ra : Int)] 36 (0, 0))) := Lib.hid ((HR14.out.block _ (Array.getElem?_eq_some_iff.1 HXa11.out).1).trans HXa11.out); have HXn14 : Hid (w14.heap[w4.heap.size]? = some (.cells #[.slice (some ⟨g3, 0, none⟩) OS.length c3, .int .i64 0] 36 (0, 0))) := Lib.hid ((HR14.out.block _ (Array.getElem?_eq_some_iff.1 HXn11.out).1).trans HXn11.out); have HXr14 : Hid (w14.heap[w10.heap.size]? = some (.cells #[.slice (some ⟨g5, 0, none⟩) OS.length c5, .int .i64 0] 36 (0, 0))) := Lib.hid ((HR14.out.block _ (Array.getElem?_eq_some_iff.1 HXr11.out).1).trans HXr11.out); have a014 : w14.cell? ⟨w.heap.size, 0, none⟩ = some (.slice la ln lc) := (by rw [cell_of_row _ _ 0 _ 36 _ HXa14.out]; rfl); have a114 : w14.cell? ⟨w.heap.size, 1, none⟩ = some (.int .i64 (ra : Int)) := (by rw [cell_of_row _ _ 1 _ 36 _ HXa14.out]; rfl); have n014 : w14.cell? ⟨w4.heap.size, 0, none⟩ = some (.slice (some ⟨g3, 0, none⟩) OS.length c3) := (by rw [cell_of_row _ _ 0 _ 36 _ HXn14.out]; rfl); have n114 : w14.cell? ⟨w4.heap.size, 1, none⟩ = some (.int .i64 0) := (by rw [cell_of_row _ _ 1 _ 36 _ HXn14.out]; rfl); have r014 : w14.cell? ⟨w10.heap.size, 0, none⟩ = some (.slice (some ⟨g5, 0, none⟩) OS.length c5) := (by rw [cell_of_row _ _ 0 _ 36 _ HXr14.out]; rfl); have r114 : w14.cell? ⟨w10.heap.size, 1, none⟩ = some (.int .i64 0) := (by rw [cell_of_row _ _ 1 _ 36 _ HXr14.out]; rfl); have hc14 := bu_conv (HVA11.out.on HR14.out); rw [HSE.out] at hc14; clear hb9 hs))
  all_goals
    have HXx14 : Hid (w14.heap[w7.heap.size]? = some (.cells #[.slice (some ⟨g7, 0, none⟩) OX.length c7, .int .i64 0] 36 (0, 0))) := Lib.hid ((HR14.out.block _ (Array.getElem?_eq_some_iff.1 HXx11.out).1).trans HXx11.out)
    have x014 : w14.cell? ⟨w7.heap.size, 0, none⟩ = some (.slice (some ⟨g7, 0, none⟩) OX.length c7) := (by rw [cell_of_row _ _ 0 _ 36 _ HXx14.out]; rfl)
    have x114 : w14.cell? ⟨w7.heap.size, 1, none⟩ = some (.int .i64 0) := (by rw [cell_of_row _ _ 1 _ 36 _ HXx14.out]; rfl)
    have HT14 : Hid (Below w.heap.size w w14) := Lib.hid (HT11.out.trans (HR14.out.mono HT11.out.size))
    have HX14H : Hid (HeadsIn w14 (some ⟨g7, 0, none⟩) OX.length OX) := Lib.hid (HX8H.out.on (HB9.out.trans ((HBc11.out.trans (HR14.out.mono HBc11.out.size)).mono HB9.out.size)))
    have hd14 : Below w14.heap.size w14 w14.drew := (Below.refl _ _).drew
    have HOX : Hid (OX.length ≤ 100) := Lib.hid (by have := HNX.out.le HGA.out.oks (by have := HLA.out; omega) HIL.out; have := HLA.out; omega)
    go_upto_region 13 with (fail)
    go_region_held3 (fun w' => w'.cell? ⟨w.heap.size, 0, none⟩ = some (.slice la ln lc) ∧ w'.cell? ⟨w7.heap.size, 0, none⟩ = some (.slice (some ⟨g7, 0, none⟩) OX.length c7) ∧ w'.cell? ⟨w7.heap.size, 1, none⟩ = some (.int .i64 0)) (first | exact ⟨a014, x014, x114⟩ | exact ⟨a015, x015, x115⟩ | exact ⟨a016, x016, x116⟩ | go_keep)
      (first
        | (go_at_call 42; (with_reducible refine (KRI.out _ (HT14.out.trans (hd14.mono HT14.out.size))).mono ?_); rintro e w15 ⟨g8, c8, OY, rfl, hnf, hh, h0, h100, hge, hb9⟩; have HKX : Hid (Alk OX OY) := Lib.hid (NormF.one HGA.out.oks (by have := HLA.out; omega) HIL.out HNX.out hnf); have HLY := Lib.hid HKX.out.len; have HR15 : Hid (Below w14.heap.size w14 w15) := Lib.hid (hd14.trans hb9); have KEX : Hid (Calls Tryz.prog 23 #[.agg #[.slice (some ⟨g7, 0, none⟩) OX.length c7, .int .i64 0], .agg #[.slice (some ⟨g8, 0, none⟩) OY.length c8, .int .i64 0]] w15 (BoolPost w15 true)) := Lib.hid (by rw [HLY.out]; exact equal_ok w15 _ _ _ _ _ _ OX OY (HX14H.out.on HR15.out) (by rw [← HLY.out]; exact hh) HOX.out HKX.out); have HXa15 : Hid (w15.heap[w.heap.size]? = some (.cells #[.slice la ln lc, .int .i64 (ra : Int)] 36 (0, 0))) := Lib.hid ((HR15.out.block _ (Array.getElem?_eq_some_iff.1 HXa14.out).1).trans HXa14.out); have HXx15 : Hid (w15.heap[w7.heap.size]? = some (.cells #[.slice (some ⟨g7, 0, none⟩) OX.length c7, .int .i64 0] 36 (0, 0))) := Lib.hid ((HR15.out.block _ (Array.getElem?_eq_some_iff.1 HXx14.out).1).trans HXx14.out); have a015 : w15.cell? ⟨w.heap.size, 0, none⟩ = some (.slice la ln lc) := (by rw [cell_of_row _ _ 0 _ 36 _ HXa15.out]; rfl); have a115 : w15.cell? ⟨w.heap.size, 1, none⟩ = some (.int .i64 (ra : Int)) := (by rw [cell_of_row _ _ 1 _ 36 _ HXa15.out]; rfl); have x015 : w15.cell? ⟨w7.heap.size, 0, none⟩ = some (.slice (some ⟨g7, 0, none⟩) OX.length c7) := (by rw [cell_of_row _ _ 0 _ 36 _ HXx15.out]; rfl); have x115 : w15.cell? ⟨w7.heap.size, 1, none⟩ = some (.int .i64 0) := (by rw [cell_of_row _ _ 1 _ 36 _ HXx15.out]; rfl); clear hnf hh h0 h100 hge hb9)
        | (go_at_call 23; (with_reducible refine KEX.out.mono ?_); rintro e w16 ⟨rfl, hb9⟩; have HR16 : Hid (Below w14.heap.size w14 w16) := Lib.hid (HR15.out.trans (hb9.mono HR15.out.size)); have HXa16 : Hid (w16.heap[w.heap.size]? = some (.cells #[.slice la ln lc, .int .i64 (ra : Int)] 36 (0, 0))) := Lib.hid ((HR16.out.block _ (Array.getElem?_eq_some_iff.1 HXa14.out).1).trans HXa14.out); have HXx16 : Hid (w16.heap[w7.heap.size]? = some (.cells #[.slice (some ⟨g7, 0, none⟩) OX.length c7, .int .i64 0] 36 (0, 0))) := Lib.hid ((HR16.out.block _ (Array.getElem?_eq_some_iff.1 HXx14.out).1).trans HXx14.out); have a016 : w16.cell? ⟨w.heap.size, 0, none⟩ = some (.slice la ln lc) := (by rw [cell_of_row _ _ 0 _ 36 _ HXa16.out]; rfl); have a116 : w16.cell? ⟨w.heap.size, 1, none⟩ = some (.int .i64 (ra : Int)) := (by rw [cell_of_row _ _ 1 _ 36 _ HXa16.out]; rfl); have x016 : w16.cell? ⟨w7.heap.size, 0, none⟩ = some (.slice (some ⟨g7, 0, none⟩) OX.length c7) := (by rw [cell_of_row _ _ 0 _ 36 _ HXx16.out]; rfl); have x116 : w16.cell? ⟨w7.heap.size, 1, none⟩ = some (.int .i64 0) := (by rw [cell_of_row _ _ 1 _ 36 _ HXx16.out]; rfl); clear hb9))
    all_goals
      go_wp2
      go_ret
      exact ⟨rfl, HT14.out.trans (HR16.out.mono HT14.out.size)⟩
theorem graphNormal_true (w : World) (la : Option Addr) (ln lc : Nat) (ra : Int) (A : List Hd) (hA : GRaw w la ln A) (i : Int) : Calls Tryz.prog 7 #[.agg #[.slice la ln lc, .int .i64 ra], .int .i64 i] w fun e w' => e = .returned (.bool true) ∧ Below w.heap.size w w' := by
  cases hfa : fewB A with
  | false => exact norm_few w la ln lc ra A hA i hfa
  | true =>
    cases hga : graphB ra A with
    | false => exact norm_wrong w la ln lc ra A hA i hfa hga
    | true =>
      by_cases hi : 0 ≤ i ∧ i < (ln : Int)
      · exact norm_in w la ln lc ra A hA i hfa hga hi
      · exact norm_out w la ln lc ra A hA i hfa hga (by omega)
end Go.Proofs.YtifilhkkgkihpaaGreatDoor
