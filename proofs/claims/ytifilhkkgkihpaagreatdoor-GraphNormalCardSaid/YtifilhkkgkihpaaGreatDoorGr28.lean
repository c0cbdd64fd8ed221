/- Walks: GraphSame. Walks: ref08.Equal of graphs of the same heads. -/
import Derived.Test.YtifilhkkgkihpaaGreatDoorGr23
import Derived.Test.YtifilhkkgkihpaaGreatDoorGr25
import Derived.Test.YtifilhkkgkihpaaGreatDoorGr27
import Derived.Test.YtifilhkkgkihpaaGreatDoorGr12
set_option linter.unusedSimpArgs false
set_option linter.unusedVariables false
set_option linter.unusedSimpArgs false
set_option linter.unusedVariables false
namespace Go.Proofs.YtifilhkkgkihpaaGreatDoor
open Go.RowKit
/-- a graph that came in: little, or not; right, or not. -/
structure GRaw (w : World) (la : Option Addr) (ln : Nat) (HS : List Hd) : Prop where
  raw : HeadsRaw w la ln HS
  len : (ln : Int) ≤ maxLen
  nil : ∀ x ∈ HS, x.na = none → x.nc = 0
theorem GRaw.heads {w : World} {la : Option Addr} {ln : Nat} {HS : List Hd} (h : GRaw w la ln HS) (hf : fewB HS = true) : HeadsIn w la ln HS ∧ (ln : Int) ≤ 100000 ∧ HS.all fewH = true ∧ HS.length ≤ 25 := by
  unfold fewB at hf
  simp only [Bool.and_eq_true, decide_eq_true_eq] at hf
  exact ⟨h.raw.bounded hf.1, by have := h.raw.1; omega, hf.1, hf.2⟩
theorem GRaw.gok {w : World} {la : Option Addr} {ln root : Nat} {HS : List Hd} (h : GRaw w la ln HS) (hf : fewB HS = true) (hg : graphB (root : Int) HS = true) : GOk w la ln root HS := by
  obtain ⟨h1, h2, h3, h4⟩ := h.heads hf
  obtain ⟨g1, g2, g3⟩ := OkHeads.of_graph hg
  have := h.raw.1
  exact ⟨h1, h3, by omega, by omega, hg, h.nil⟩
theorem few_c {w : World} {la : Option Addr} {ln lc : Nat} {ra : Int} {HS : List Hd} (h : GRaw w la ln HS) {b : Bool} (hf : fewB HS = b) : ∀ W', Below w.heap.size w W' → Calls Tryz.prog 32 #[.agg #[.slice la ln lc, .int .i64 ra]] W' (BoolPost W' b) := fun W' hb => by
  have := few_top W' la ln lc ra HS (h.raw.on hb) h.len
  rwa [hf] at this
theorem right_c {w : World} {la : Option Addr} {ln lc : Nat} {ra : Int} {HS : List Hd} (h : GRaw w la ln HS) (hf : fewB HS = true) {b : Bool} (hg : graphB ra HS = b) : ∀ W', Below w.heap.size w W' → Calls Tryz.prog 33 #[.agg #[.slice la ln lc, .int .i64 ra]] W' (BoolPost W' b) := fun W' hb => by
  obtain ⟨h1, h2, h3, h4⟩ := h.heads hf
  have := right_h W' la ln lc ra HS (h1.on hb) h2
  rwa [hg] at this
theorem live_c (w : World) : ∀ W', Below w.heap.size w W' → Calls Tryz.prog 31 #[] W' fun e w' => e = .returned (.bool true) ∧ Below W'.heap.size W' w' := fun W' _ => lives8 W'
theorem run_eql_tt (w : World) : (binOp BinOp.eql 4 (.bool true) (.bool true)).run Tryz.prog w = .ok (.bool true) w := by first | kernel_rfl | rfl | simp [binOp]
theorem bis_flip {A B : List Hd} {i j : Nat} (h : Bis A B i j) : Bis B A j i := by
  obtain ⟨R, hR, h1⟩ := h
  refine ⟨fun a b => R b a, ⟨fun i k x y hx hy e => ?_, fun i k x y hx hy e n a b ha hb => hR.kid k i y x hy hx e n b a hb ha⟩, h1⟩
  obtain ⟨p1, p2, p3, p4⟩ := hR.pl k i y x hy hx e
  exact ⟨p1.symm, p2.symm, p3.symm, p4.symm⟩
set_option maxRecDepth 20000 in
set_option maxHeartbeats 8000000 in
theorem same_few_a (w : World) (la : Option Addr) (ln lc : Nat) (ra : Int) (A : List Hd) (hA : GRaw w la ln A) (lb : Option Addr) (lm ld : Nat) (rb : Int) (B : List Hd) (hB : GRaw w lb lm B) (hfa : fewB A = false) : Calls Tryz.prog 4 #[.agg #[.slice la ln lc, .int .i64 ra], .agg #[.slice lb lm ld, .int .i64 rb]] w fun e w' => e = .returned (.bool true) ∧ Below w.heap.size w w' := by
  have hb0 : Below w.heap.size w (w.alloc (.cells #[.slice la ln lc, .int .i64 ra] 36)) := (Below.refl _ _).alloc (Nat.le_refl _) _
  have HT1 : Hid (Below w.heap.size w ((w.alloc (.cells #[.slice la ln lc, .int .i64 ra] 36)).alloc (.cells #[.slice lb lm ld, .int .i64 rb] 36))) := Lib.hid (hb0.alloc hb0.size _)
  have HX1 : Hid (((w.alloc (.cells #[.slice la ln lc, .int .i64 ra] 36)).alloc (.cells #[.slice lb lm ld, .int .i64 rb] 36)).heap[w.heap.size]? = some (.cells #[.slice la ln lc, .int .i64 ra] 36 (0, 0))) := Lib.hid (by rw [Below.heap_alloc _ _ _ (by simp)]; exact heap_alloc_new w _)
  have HX2 : Hid (((w.alloc (.cells #[.slice la ln lc, .int .i64 ra] 36)).alloc (.cells #[.slice lb lm ld, .int .i64 rb] 36)).heap[w.heap.size + 1]? = some (.cells #[.slice lb lm ld, .int .i64 rb] 36 (0, 0))) := Lib.hid (by
    have := heap_alloc_new (w.alloc (.cells #[.slice la ln lc, .int .i64 ra] 36)) (.cells #[.slice lb lm ld, .int .i64 rb] 36)
    simpa using this)
  have KL := Lib.hid (live_c w)
  have KFA := Lib.hid (few_c (lc := lc) (ra := ra) hA hfa)
  clear hb0 hA hB hfa
  go_enter Tryz.func4, Tryz.ntmps4
  go_upto_region 1 with (fail)
  generalize ((w.alloc (.cells #[.slice la ln lc, .int .i64 ra] 36)).alloc (.cells #[.slice lb lm ld, .int .i64 rb] 36)) = w1 at *
  have HLb : Hid (w.heap.size + 1 < w1.heap.size) := Lib.hid (Array.getElem?_eq_some_iff.1 HX2.out).1
  have HLa : Hid (w.heap.size < w1.heap.size) := Lib.hid (Nat.lt_of_succ_lt HLb.out)
  have a0 : w1.cell? ⟨w.heap.size, 0, none⟩ = some (.slice la ln lc) := (by rw [cell_of_row _ _ 0 _ 36 _ HX1.out]; rfl)
  have a1 : w1.cell? ⟨w.heap.size, 1, none⟩ = some (.int .i64 ra) := (by rw [cell_of_row _ _ 1 _ 36 _ HX1.out]; rfl)
  have b0 : w1.cell? ⟨w.heap.size + 1, 0, none⟩ = some (.slice lb lm ld) := (by rw [cell_of_row _ _ 0 _ 36 _ HX2.out]; rfl)
  have b1 : w1.cell? ⟨w.heap.size + 1, 1, none⟩ = some (.int .i64 rb) := (by rw [cell_of_row _ _ 1 _ 36 _ HX2.out]; rfl)
  go_upto_region 2 with (first | (go_at_call 31; (with_reducible refine (KL.out _ HT1.out).mono ?_); rintro e w2 ⟨rfl, hb9⟩; have HBw2 : Hid (Below w1.heap.size w1 w2) := Lib.hid hb9; clear hb9; have a02 : w2.cell? ⟨w.heap.size, 0, none⟩ = some (.slice la ln lc) := keepB HBw2.out HLa.out a0; have a12 : w2.cell? ⟨w.heap.size, 1, none⟩ = some (.int .i64 ra) := keepB HBw2.out HLa.out a1; have b02 : w2.cell? ⟨w.heap.size + 1, 0, none⟩ = some (.slice lb lm ld) := keepB HBw2.out HLb.out b0; have b12 : w2.cell? ⟨w.heap.size + 1, 1, none⟩ = some (.int .i64 rb) := keepB HBw2.out HLb.out b1; have HT2 : Hid (Below w.heap.size w w2) := Lib.hid (HT1.out.trans (HBw2.out.mono HT1.out.size))) | (go_at_call 32; (with_reducible refine (KFA.out _ HT2.out).mono ?_); rintro e w3 ⟨rfl, hb9⟩; have HBw3 : Hid (Below w1.heap.size w1 w3) := Lib.hid (HBw2.out.trans (hb9.mono HBw2.out.size)); clear hb9; have a03 : w3.cell? ⟨w.heap.size, 0, none⟩ = some (.slice la ln lc) := keepB HBw3.out HLa.out a0; have a13 : w3.cell? ⟨w.heap.size, 1, none⟩ = some (.int .i64 ra) := keepB HBw3.out HLa.out a1; have b03 : w3.cell? ⟨w.heap.size + 1, 0, none⟩ = some (.slice lb lm ld) := keepB HBw3.out HLb.out b0; have b13 : w3.cell? ⟨w.heap.size + 1, 1, none⟩ = some (.int .i64 rb) := keepB HBw3.out HLb.out b1; have HT3 : Hid (Below w.heap.size w w3) := Lib.hid (HT1.out.trans (HBw3.out.mono HT1.out.size))))
  go_wp2_with (go_at_call 31; (with_reducible refine (KL.out _ HT3.out).mono ?_); rintro e wz ⟨rfl, hz9⟩)
  go_ret
  exact ⟨rfl, HT3.out.trans (hz9.mono HT3.out.size)⟩
set_option maxRecDepth 20000 in
set_option maxHeartbeats 8000000 in
theorem same_few_b (w : World) (la : Option Addr) (ln lc : Nat) (ra : Int) (A : List Hd) (hA : GRaw w la ln A) (lb : Option Addr) (lm ld : Nat) (rb : Int) (B : List Hd) (hB : GRaw w lb lm B) (hfa : fewB A = true) (hfb : fewB B = false) : Calls Tryz.prog 4 #[.agg #[.slice la ln lc, .int .i64 ra], .agg #[.slice lb lm ld, .int .i64 rb]] w fun e w' => e = .returned (.bool true) ∧ Below w.heap.size w w' := by
  have hb0 : Below w.heap.size w (w.alloc (.cells #[.slice la ln lc, .int .i64 ra] 36)) := (Below.refl _ _).alloc (Nat.le_refl _) _
  have HT1 : Hid (Below w.heap.size w ((w.alloc (.cells #[.slice la ln lc, .int .i64 ra] 36)).alloc (.cells #[.slice lb lm ld, .int .i64 rb] 36))) := Lib.hid (hb0.alloc hb0.size _)
  have HX1 : Hid (((w.alloc (.cells #[.slice la ln lc, .int .i64 ra] 36)).alloc (.cells #[.slice lb lm ld, .int .i64 rb] 36)).heap[w.heap.size]? = some (.cells #[.slice la ln lc, .int .i64 ra] 36 (0, 0))) := Lib.hid (by rw [Below.heap_alloc _ _ _ (by simp)]; exact heap_alloc_new w _)
  have HX2 : Hid (((w.alloc (.cells #[.slice la ln lc, .int .i64 ra] 36)).alloc (.cells #[.slice lb lm ld, .int .i64 rb] 36)).heap[w.heap.size + 1]? = some (.cells #[.slice lb lm ld, .int .i64 rb] 36 (0, 0))) := Lib.hid (by
    have := heap_alloc_new (w.alloc (.cells #[.slice la ln lc, .int .i64 ra] 36)) (.cells #[.slice lb lm ld, .int .i64 rb] 36)
    simpa using this)
  have KL := Lib.hid (live_c w)
  have KFA := Lib.hid (few_c (lc := lc) (ra := ra) hA hfa)
  have KFB := Lib.hid (few_c (lc := ld) (ra := rb) hB hfb)
  clear hb0 hA hB hfa hfb
  go_enter Tryz.func4, Tryz.ntmps4
  go_upto_region 1 with (fail)
  generalize ((w.alloc (.cells #[.slice la ln lc, .int .i64 ra] 36)).alloc (.cells #[.slice lb lm ld, .int .i64 rb] 36)) = w1 at *
  have HLb : Hid (w.heap.size + 1 < w1.heap.size) := Lib.hid (Array.getElem?_eq_some_iff.1 HX2.out).1
  have HLa : Hid (w.heap.size < w1.heap.size) := Lib.hid (Nat.lt_of_succ_lt HLb.out)
  have a0 : w1.cell? ⟨w.heap.size, 0, none⟩ = some (.slice la ln lc) := (by rw [cell_of_row _ _ 0 _ 36 _ HX1.out]; rfl)
  have a1 : w1.cell? ⟨w.heap.size, 1, none⟩ = some (.int .i64 ra) := (by rw [cell_of_row _ _ 1 _ 36 _ HX1.out]; rfl)
  have b0 : w1.cell? ⟨w.heap.size + 1, 0, none⟩ = some (.slice lb lm ld) := (by rw [cell_of_row _ _ 0 _ 36 _ HX2.out]; rfl)
  have b1 : w1.cell? ⟨w.heap.size + 1, 1, none⟩ = some (.int .i64 rb) := (by rw [cell_of_row _ _ 1 _ 36 _ HX2.out]; rfl)
  go_upto_region 2 with (first | (go_at_call 31; (with_reducible refine (KL.out _ HT1.out).mono ?_); rintro e w2 ⟨rfl, hb9⟩; have HBw2 : Hid (Below w1.heap.size w1 w2) := Lib.hid hb9; clear hb9; have a02 : w2.cell? ⟨w.heap.size, 0, none⟩ = some (.slice la ln lc) := keepB HBw2.out HLa.out a0; have a12 : w2.cell? ⟨w.heap.size, 1, none⟩ = some (.int .i64 ra) := keepB HBw2.out HLa.out a1; have b02 : w2.cell? ⟨w.heap.size + 1, 0, none⟩ = some (.slice lb lm ld) := keepB HBw2.out HLb.out b0; have b12 : w2.cell? ⟨w.heap.size + 1, 1, none⟩ = some (.int .i64 rb) := keepB HBw2.out HLb.out b1; have HT2 : Hid (Below w.heap.size w w2) := Lib.hid (HT1.out.trans (HBw2.out.mono HT1.out.size))) | (go_at_call 32; (with_reducible refine (KFA.out _ HT2.out).mono ?_); rintro e w3 ⟨rfl, hb9⟩; have HBw3 : Hid (Below w1.heap.size w1 w3) := Lib.hid (HBw2.out.trans (hb9.mono HBw2.out.size)); clear hb9; have a03 : w3.cell? ⟨w.heap.size, 0, none⟩ = some (.slice la ln lc) := keepB HBw3.out HLa.out a0; have a13 : w3.cell? ⟨w.heap.size, 1, none⟩ = some (.int .i64 ra) := keepB HBw3.out HLa.out a1; have b03 : w3.cell? ⟨w.heap.size + 1, 0, none⟩ = some (.slice lb lm ld) := keepB HBw3.out HLb.out b0; have b13 : w3.cell? ⟨w.heap.size + 1, 1, none⟩ = some (.int .i64 rb) := keepB HBw3.out HLb.out b1; have HT3 : Hid (Below w.heap.size w w3) := Lib.hid (HT1.out.trans (HBw3.out.mono HT1.out.size))) | (go_at_call 32; (with_reducible refine (KFB.out _ HT3.out).mono ?_); rintro e w4 ⟨rfl, hb9⟩; have HBw4 : Hid (Below w1.heap.size w1 w4) := Lib.hid (HBw3.out.trans (hb9.mono HBw3.out.size)); clear hb9; have a04 : w4.cell? ⟨w.heap.size, 0, none⟩ = some (.slice la ln lc) := keepB HBw4.out HLa.out a0; have a14 : w4.cell? ⟨w.heap.size, 1, none⟩ = some (.int .i64 ra) := keepB HBw4.out HLa.out a1; have b04 : w4.cell? ⟨w.heap.size + 1, 0, none⟩ = some (.slice lb lm ld) := keepB HBw4.out HLb.out b0; have b14 : w4.cell? ⟨w.heap.size + 1, 1, none⟩ = some (.int .i64 rb) := keepB HBw4.out HLb.out b1; have HT4 : Hid (Below w.heap.size w w4) := Lib.hid (HT1.out.trans (HBw4.out.mono HT1.out.size))))
  go_wp2_with (go_at_call 31; (with_reducible refine (KL.out _ HT4.out).mono ?_); rintro e wz ⟨rfl, hz9⟩)
  go_ret
  exact ⟨rfl, HT4.out.trans (hz9.mono HT4.out.size)⟩
set_option maxRecDepth 20000 in
set_option maxHeartbeats 8000000 in
theorem same_right_a (w : World) (la : Option Addr) (ln lc : Nat) (ra : Int) (A : List Hd) (hA : GRaw w la ln A) (lb : Option Addr) (lm ld : Nat) (rb : Int) (B : List Hd) (hB : GRaw w lb lm B) (hfa : fewB A = true) (hfb : fewB B = true) (hga : graphB ra A = false) : Calls Tryz.prog 4 #[.agg #[.slice la ln lc, .int .i64 ra], .agg #[.slice lb lm ld, .int .i64 rb]] w fun e w' => e = .returned (.bool true) ∧ Below w.heap.size w w' := by
  have hb0 : Below w.heap.size w (w.alloc (.cells #[.slice la ln lc, .int .i64 ra] 36)) := (Below.refl _ _).alloc (Nat.le_refl _) _
  have HT1 : Hid (Below w.heap.size w ((w.alloc (.cells #[.slice la ln lc, .int .i64 ra] 36)).alloc (.cells #[.slice lb lm ld, .int .i64 rb] 36))) := Lib.hid (hb0.alloc hb0.size _)
  have HX1 : Hid (((w.alloc (.cells #[.slice la ln lc, .int .i64 ra] 36)).alloc (.cells #[.slice lb lm ld, .int .i64 rb] 36)).heap[w.heap.size]? = some (.cells #[.slice la ln lc, .int .i64 ra] 36 (0, 0))) := Lib.hid (by rw [Below.heap_alloc _ _ _ (by simp)]; exact heap_alloc_new w _)
  have HX2 : Hid (((w.alloc (.cells #[.slice la ln lc, .int .i64 ra] 36)).alloc (.cells #[.slice lb lm ld, .int .i64 rb] 36)).heap[w.heap.size + 1]? = some (.cells #[.slice lb lm ld, .int .i64 rb] 36 (0, 0))) := Lib.hid (by
    have := heap_alloc_new (w.alloc (.cells #[.slice la ln lc, .int .i64 ra] 36)) (.cells #[.slice lb lm ld, .int .i64 rb] 36)
    simpa using this)
  have KL := Lib.hid (live_c w)
  have KFA := Lib.hid (few_c (lc := lc) (ra := ra) hA hfa)
  have KFB := Lib.hid (few_c (lc := ld) (ra := rb) hB hfb)
  have KRA := Lib.hid (right_c (lc := lc) hA hfa hga)
  clear hb0 hA hB hfa hfb hga
  go_enter Tryz.func4, Tryz.ntmps4
  go_upto_region 1 with (fail)
  generalize ((w.alloc (.cells #[.slice la ln lc, .int .i64 ra] 36)).alloc (.cells #[.slice lb lm ld, .int .i64 rb] 36)) = w1 at *
  have HLb : Hid (w.heap.size + 1 < w1.heap.size) := Lib.hid (Array.getElem?_eq_some_iff.1 HX2.out).1
  have HLa : Hid (w.heap.size < w1.heap.size) := Lib.hid (Nat.lt_of_succ_lt HLb.out)
  have a0 : w1.cell? ⟨w.heap.size, 0, none⟩ = some (.slice la ln lc) := (by rw [cell_of_row _ _ 0 _ 36 _ HX1.out]; rfl)
  have a1 : w1.cell? ⟨w.heap.size, 1, none⟩ = some (.int .i64 ra) := (by rw [cell_of_row _ _ 1 _ 36 _ HX1.out]; rfl)
  have b0 : w1.cell? ⟨w.heap.size + 1, 0, none⟩ = some (.slice lb lm ld) := (by rw [cell_of_row _ _ 0 _ 36 _ HX2.out]; rfl)
  have b1 : w1.cell? ⟨w.heap.size + 1, 1, none⟩ = some (.int .i64 rb) := (by rw [cell_of_row _ _ 1 _ 36 _ HX2.out]; rfl)
  go_upto_region 2 with (first | (go_at_call 31; (with_reducible refine (KL.out _ HT1.out).mono ?_); rintro e w2 ⟨rfl, hb9⟩; have HBw2 : Hid (Below w1.heap.size w1 w2) := Lib.hid hb9; clear hb9; have a02 : w2.cell? ⟨w.heap.size, 0, none⟩ = some (.slice la ln lc) := keepB HBw2.out HLa.out a0; have a12 : w2.cell? ⟨w.heap.size, 1, none⟩ = some (.int .i64 ra) := keepB HBw2.out HLa.out a1; have b02 : w2.cell? ⟨w.heap.size + 1, 0, none⟩ = some (.slice lb lm ld) := keepB HBw2.out HLb.out b0; have b12 : w2.cell? ⟨w.heap.size + 1, 1, none⟩ = some (.int .i64 rb) := keepB HBw2.out HLb.out b1; have HT2 : Hid (Below w.heap.size w w2) := Lib.hid (HT1.out.trans (HBw2.out.mono HT1.out.size))) | (go_at_call 32; (with_reducible refine (KFA.out _ HT2.out).mono ?_); rintro e w3 ⟨rfl, hb9⟩; have HBw3 : Hid (Below w1.heap.size w1 w3) := Lib.hid (HBw2.out.trans (hb9.mono HBw2.out.size)); clear hb9; have a03 : w3.cell? ⟨w.heap.size, 0, none⟩ = some (.slice la ln lc) := keepB HBw3.out HLa.out a0; have a13 : w3.cell? ⟨w.heap.size, 1, none⟩ = some (.int .i64 ra) := keepB HBw3.out HLa.out a1; have b03 : w3.cell? ⟨w.heap.size + 1, 0, none⟩ = some (.slice lb lm ld) := keepB HBw3.out HLb.out b0; have b13 : w3.cell? ⟨w.heap.size + 1, 1, none⟩ = some (.int .i64 rb) := keepB HBw3.out HLb.out b1; have HT3 : Hid (Below w.heap.size w w3) := Lib.hid (HT1.out.trans (HBw3.out.mono HT1.out.size))) | (go_at_call 32; (with_reducible refine (KFB.out _ HT3.out).mono ?_); rintro e w4 ⟨rfl, hb9⟩; have HBw4 : Hid (Below w1.heap.size w1 w4) := Lib.hid (HBw3.out.trans (hb9.mono HBw3.out.size)); clear hb9; have a04 : w4.cell? ⟨w.heap.size, 0, none⟩ = some (.slice la ln lc) := keepB HBw4.out HLa.out a0; have a14 : w4.cell? ⟨w.heap.size, 1, none⟩ = some (.int .i64 ra) := keepB HBw4.out HLa.out a1; have b04 : w4.cell? ⟨w.heap.size + 1, 0, none⟩ = some (.slice lb lm ld) := keepB HBw4.out HLb.out b0; have b14 : w4.cell? ⟨w.heap.size + 1, 1, none⟩ = some (.int .i64 rb) := keepB HBw4.out HLb.out b1; have HT4 : Hid (Below w.heap.size w w4) := Lib.hid (HT1.out.trans (HBw4.out.mono HT1.out.size))) | (go_at_call 33; (with_reducible refine (KRA.out _ HT4.out).mono ?_); rintro e w5 ⟨rfl, hb9⟩; have HBw5 : Hid (Below w1.heap.size w1 w5) := Lib.hid (HBw4.out.trans (hb9.mono HBw4.out.size)); clear hb9; have a05 : w5.cell? ⟨w.heap.size, 0, none⟩ = some (.slice la ln lc) := keepB HBw5.out HLa.out a0; have a15 : w5.cell? ⟨w.heap.size, 1, none⟩ = some (.int .i64 ra) := keepB HBw5.out HLa.out a1; have b05 : w5.cell? ⟨w.heap.size + 1, 0, none⟩ = some (.slice lb lm ld) := keepB HBw5.out HLb.out b0; have b15 : w5.cell? ⟨w.heap.size + 1, 1, none⟩ = some (.int .i64 rb) := keepB HBw5.out HLb.out b1; have HT5 : Hid (Below w.heap.size w w5) := Lib.hid (HT1.out.trans (HBw5.out.mono HT1.out.size))))
  go_wp2_with (go_at_call 31; (with_reducible refine (KL.out _ HT5.out).mono ?_); rintro e wz ⟨rfl, hz9⟩)
  go_ret
  exact ⟨rfl, HT5.out.trans (hz9.mono HT5.out.size)⟩
set_option maxRecDepth 20000 in
set_option maxHeartbeats 8000000 in
theorem same_right_b (w : World) (la : Option Addr) (ln lc : Nat) (ra : Int) (A : List Hd) (hA : GRaw w la ln A) (lb : Option Addr) (lm ld : Nat) (rb : Int) (B : List Hd) (hB : GRaw w lb lm B) (hfa : fewB A = true) (hfb : fewB B = true) (hga : graphB ra A = true) (hgb : graphB rb B = false) : Calls Tryz.prog 4 #[.agg #[.slice la ln lc, .int .i64 ra], .agg #[.slice lb lm ld, .int .i64 rb]] w fun e w' => e = .returned (.bool true) ∧ Below w.heap.size w w' := by
  have hb0 : Below w.heap.size w (w.alloc (.cells #[.slice la ln lc, .int .i64 ra] 36)) := (Below.refl _ _).alloc (Nat.le_refl _) _
  have HT1 : Hid (Below w.heap.size w ((w.alloc (.cells #[.slice la ln lc, .int .i64 ra] 36)).alloc (.cells #[.slice lb lm ld, .int .i64 rb] 36))) := Lib.hid (hb0.alloc hb0.size _)
  have HX1 : Hid (((w.alloc (.cells #[.slice la ln lc, .int .i64 ra] 36)).alloc (.cells #[.slice lb lm ld, .int .i64 rb] 36)).heap[w.heap.size]? = some (.cells #[.slice la ln lc, .int .i64 ra] 36 (0, 0))) := Lib.hid (by rw [Below.heap_alloc _ _ _ (by simp)]; exact heap_alloc_new w _)
  have HX2 : Hid (((w.alloc (.cells #[.slice la ln lc, .int .i64 ra] 36)).alloc (.cells #[.slice lb lm ld, .int .i64 rb] 36)).heap[w.heap.size + 1]? = some (.cells #[.slice lb lm ld, .int .i64 rb] 36 (0, 0))) := Lib.hid (by
    have := heap_alloc_new (w.alloc (.cells #[.slice la ln lc, .int .i64 ra] 36)) (.cells #[.slice lb lm ld, .int .i64 rb] 36)
    simpa using this)
  have KL := Lib.hid (live_c w)
  have KFA := Lib.hid (few_c (lc := lc) (ra := ra) hA hfa)
  have KFB := Lib.hid (few_c (lc := ld) (ra := rb) hB hfb)
  have KRA := Lib.hid (right_c (lc := lc) hA hfa hga)
  have KRB := Lib.hid (right_c (lc := ld) hB hfb hgb)
  clear hb0 hA hB hfa hfb hga hgb
  go_enter Tryz.func4, Tryz.ntmps4
  go_upto_region 1 with (fail)
  generalize ((w.alloc (.cells #[.slice la ln lc, .int .i64 ra] 36)).alloc (.cells #[.slice lb lm ld, .int .i64 rb] 36)) = w1 at *
  have HLb : Hid (w.heap.size + 1 < w1.heap.size) := Lib.hid (Array.getElem?_eq_some_iff.1 HX2.out).1
  have HLa : Hid (w.heap.size < w1.heap.size) := Lib.hid (Nat.lt_of_succ_lt HLb.out)
  have a0 : w1.cell? ⟨w.heap.size, 0, none⟩ = some (.slice la ln lc) := (by rw [cell_of_row _ _ 0 _ 36 _ HX1.out]; rfl)
  have a1 : w1.cell? ⟨w.heap.size, 1, none⟩ = some (.int .i64 ra) := (by rw [cell_of_row _ _ 1 _ 36 _ HX1.out]; rfl)
  have b0 : w1.cell? ⟨w.heap.size + 1, 0, none⟩ = some (.slice lb lm ld) := (by rw [cell_of_row _ _ 0 _ 36 _ HX2.out]; rfl)
  have b1 : w1.cell? ⟨w.heap.size + 1, 1, none⟩ = some (.int .i64 rb) := (by rw [cell_of_row _ _ 1 _ 36 _ HX2.out]; rfl)
  go_upto_region 2 with (first | (go_at_call 31; (with_reducible refine (KL.out _ HT1.out).mono ?_); rintro e w2 ⟨rfl, hb9⟩; have HBw2 : Hid (Below w1.heap.size w1 w2) := Lib.hid hb9; clear hb9; have a02 : w2.cell? ⟨w.heap.size, 0, none⟩ = some (.slice la ln lc) := keepB HBw2.out HLa.out a0; have a12 : w2.cell? ⟨w.heap.size, 1, none⟩ = some (.int .i64 ra) := keepB HBw2.out HLa.out a1; have b02 : w2.cell? ⟨w.heap.size + 1, 0, none⟩ = some (.slice lb lm ld) := keepB HBw2.out HLb.out b0; have b12 : w2.cell? ⟨w.heap.size + 1, 1, none⟩ = some (.int .i64 rb) := keepB HBw2.out HLb.out b1; have HT2 : Hid (Below w.heap.size w w2) := Lib.hid (HT1.out.trans (HBw2.out.mono HT1.out.size))) | (go_at_call 32; (with_reducible refine (KFA.out _ HT2.out).mono ?_); rintro e w3 ⟨rfl, hb9⟩; have HBw3 : Hid (Below w1.heap.size w1 w3) := Lib.hid (HBw2.out.trans (hb9.mono HBw2.out.size)); clear hb9; have a03 : w3.cell? ⟨w.heap.size, 0, none⟩ = some (.slice la ln lc) := keepB HBw3.out HLa.out a0; have a13 : w3.cell? ⟨w.heap.size, 1, none⟩ = some (.int .i64 ra) := keepB HBw3.out HLa.out a1; have b03 : w3.cell? ⟨w.heap.size + 1, 0, none⟩ = some (.slice lb lm ld) := keepB HBw3.out HLb.out b0; have b13 : w3.cell? ⟨w.heap.size + 1, 1, none⟩ = some (.int .i64 rb) := keepB HBw3.out HLb.out b1; have HT3 : Hid (Below w.heap.size w w3) := Lib.hid (HT1.out.trans (HBw3.out.mono HT1.out.size))) | (go_at_call 32; (with_reducible refine (KFB.out _ HT3.out).mono ?_); rintro e w4 ⟨rfl, hb9⟩; have HBw4 : Hid (Below w1.heap.size w1 w4) := Lib.hid (HBw3.out.trans (hb9.mono HBw3.out.size)); clear hb9; have a04 : w4.cell? ⟨w.heap.size, 0, none⟩ = some (.slice la ln lc) := keepB HBw4.out HLa.out a0; have a14 : w4.cell? ⟨w.heap.size, 1, none⟩ = some (.int .i64 ra) := keepB HBw4.out HLa.out a1; have b04 : w4.cell? ⟨w.heap.size + 1, 0, none⟩ = some (.slice lb lm ld) := keepB HBw4.out HLb.out b0; have b14 : w4.cell? ⟨w.heap.size + 1, 1, none⟩ = some (.int .i64 rb) := keepB HBw4.out HLb.out b1; have HT4 : Hid (Below w.heap.size w w4) := Lib.hid (HT1.out.trans (HBw4.out.mono HT1.out.size))) | (go_at_call 33; (with_reducible refine (KRA.out _ HT4.out).mono ?_); rintro e w5 ⟨rfl, hb9⟩; have HBw5 : Hid (Below w1.heap.size w1 w5) := Lib.hid (HBw4.out.trans (hb9.mono HBw4.out.size)); clear hb9; have a05 : w5.cell? ⟨w.heap.size, 0, none⟩ = some (.slice la ln lc) := keepB HBw5.out HLa.out a0; have a15 : w5.cell? ⟨w.heap.size, 1, none⟩ = some (.int .i64 ra) := keepB HBw5.out HLa.out a1; have b05 : w5.cell? ⟨w.heap.size + 1, 0, none⟩ = some (.slice lb lm ld) := keepB HBw5.out HLb.out b0; have b15 : w5.cell? ⟨w.heap.size + 1, 1, none⟩ = some (.int .i64 rb) := keepB HBw5.out HLb.out b1; have HT5 : Hid (Below w.heap.size w w5) := Lib.hid (HT1.out.trans (HBw5.out.mono HT1.out.size))) | (go_at_call 33; (with_reducible refine (KRB.out _ HT5.out).mono ?_); rintro e w6 ⟨rfl, hb9⟩; have HBw6 : Hid (Below w1.heap.size w1 w6) := Lib.hid (HBw5.out.trans (hb9.mono HBw5.out.size)); clear hb9; have a06 : w6.cell? ⟨w.heap.size, 0, none⟩ = some (.slice la ln lc) := keepB HBw6.out HLa.out a0; have a16 : w6.cell? ⟨w.heap.size, 1, none⟩ = some (.int .i64 ra) := keepB HBw6.out HLa.out a1; have b06 : w6.cell? ⟨w.heap.size + 1, 0, none⟩ = some (.slice lb lm ld) := keepB HBw6.out HLb.out b0; have b16 : w6.cell? ⟨w.heap.size + 1, 1, none⟩ = some (.int .i64 rb) := keepB HBw6.out HLb.out b1; have HT6 : Hid (Below w.heap.size w w6) := Lib.hid (HT1.out.trans (HBw6.out.mono HT1.out.size))))
  go_wp2_with (go_at_call 31; (with_reducible refine (KL.out _ HT6.out).mono ?_); rintro e wz ⟨rfl, hz9⟩)
  go_ret
  exact ⟨rfl, HT6.out.trans (hz9.mono HT6.out.size)⟩
set_option maxRecDepth 20000 in
set_option maxHeartbeats 8000000 in
theorem same_all (w : World) (la : Option Addr) (ln lc : Nat) (ra : Int) (A : List Hd) (hA : GRaw w la ln A) (lb : Option Addr) (lm ld : Nat) (rb : Int) (B : List Hd) (hB : GRaw w lb lm B) (hfa : fewB A = true) (hfb : fewB B = true) (hga : graphB ra A = true) (hgb : graphB rb B = true) : Calls Tryz.prog 4 #[.agg #[.slice la ln lc, .int .i64 ra], .agg #[.slice lb lm ld, .int .i64 rb]] w fun e w' => e = .returned (.bool true) ∧ Below w.heap.size w w' := by
  obtain ⟨ra, rfl⟩ : ∃ k : Nat, ra = (k : Int) := ⟨ra.toNat, (Int.toNat_of_nonneg (OkHeads.of_graph hga).2.1).symm⟩
  obtain ⟨rb, rfl⟩ : ∃ k : Nat, rb = (k : Int) := ⟨rb.toNat, (Int.toNat_of_nonneg (OkHeads.of_graph hgb).2.1).symm⟩
  have hb0 : Below w.heap.size w (w.alloc (.cells #[.slice la ln lc, .int .i64 (ra : Int)] 36)) := (Below.refl _ _).alloc (Nat.le_refl _) _
  have HT1 : Hid (Below w.heap.size w ((w.alloc (.cells #[.slice la ln lc, .int .i64 (ra : Int)] 36)).alloc (.cells #[.slice lb lm ld, .int .i64 (rb : Int)] 36))) := Lib.hid (hb0.alloc hb0.size _)
  have HX1 : Hid (((w.alloc (.cells #[.slice la ln lc, .int .i64 (ra : Int)] 36)).alloc (.cells #[.slice lb lm ld, .int .i64 (rb : Int)] 36)).heap[w.heap.size]? = some (.cells #[.slice la ln lc, .int .i64 (ra : Int)] 36 (0, 0))) := Lib.hid (by rw [Below.heap_alloc _ _ _ (by simp)]; exact heap_alloc_new w _)
  have HX2 : Hid (((w.alloc (.cells #[.slice la ln lc, .int .i64 (ra : Int)] 36)).alloc (.cells #[.slice lb lm ld, .int .i64 (rb : Int)] 36)).heap[w.heap.size + 1]? = some (.cells #[.slice lb lm ld, .int .i64 (rb : Int)] 36 (0, 0))) := Lib.hid (by
    have := heap_alloc_new (w.alloc (.cells #[.slice la ln lc, .int .i64 (ra : Int)] 36)) (.cells #[.slice lb lm ld, .int .i64 (rb : Int)] 36)
    simpa using this)
  have KL := Lib.hid (live_c w)
  have KFA := Lib.hid (few_c (lc := lc) (ra := ra) hA hfa)
  have KFB := Lib.hid (few_c (lc := ld) (ra := rb) hB hfb)
  have KRA := Lib.hid (right_c (lc := lc) hA hfa hga)
  have KRB := Lib.hid (right_c (lc := ld) hB hfb hgb)
  have HGA := Lib.hid (hA.gok hfa hga)
  have HGB := Lib.hid (hB.gok hfb hgb)
  have KBA : Hid (∀ W', Below w.heap.size w W' → Calls Tryz.prog 34 #[.agg #[.slice la ln lc, .int .i64 (ra : Int)]] W' (BytesPost W' A ra)) := Lib.hid (fun W' hb => (HGA.out.on hb).bytes)
  have KBB : Hid (∀ W', Below w.heap.size w W' → Calls Tryz.prog 34 #[.agg #[.slice lb lm ld, .int .i64 (rb : Int)]] W' (BytesPost W' B rb)) := Lib.hid (fun W' hb => (HGB.out.on hb).bytes)
  have KRS : Hid (∀ W', Below w.heap.size w W' → Calls Tryz.prog 35 #[.agg #[.slice la ln lc, .int .i64 (ra : Int)], .agg #[.slice lb lm ld, .int .i64 (rb : Int)]] W' (SamePost W' A B ra rb)) := Lib.hid (fun W' hb => rsame_ok W' la ln lc ra A (HGA.out.on hb) lb lm ld rb B (HGB.out.on hb))
  have KGS : Hid (∀ W', Below w.heap.size w W' → Calls Tryz.prog 36 #[.agg #[.slice la ln lc, .int .i64 (ra : Int)], .agg #[.slice lb lm ld, .int .i64 (rb : Int)]] W' (SamePost W' A B ra rb)) := Lib.hid (fun W' hb => gsame_ok W' la ln lc ra A (HGA.out.on hb) lb lm ld rb B (HGB.out.on hb))
  have HEQ : Hid (∀ OA OB, NormF A ra OA → NormF B rb OB → (bytesL OA = bytesL OB ↔ Bis A B ra rb)) := Lib.hid (fun OA OB h1 h2 => bytes_bis HGA.out.oks HGB.out.oks (by have := HGA.out.lens; have := HGB.out.lens; omega) HGA.out.lens.1 HGB.out.lens.1 h1 h2)
  clear hb0 hA hB hfa hfb hga hgb
  go_enter Tryz.func4, Tryz.ntmps4
  go_upto_region 1 with (fail)
  generalize ((w.alloc (.cells #[.slice la ln lc, .int .i64 (ra : Int)] 36)).alloc (.cells #[.slice lb lm ld, .int .i64 (rb : Int)] 36)) = w1 at *
  have HLb : Hid (w.heap.size + 1 < w1.heap.size) := Lib.hid (Array.getElem?_eq_some_iff.1 HX2.out).1
  have HLa : Hid (w.heap.size < w1.heap.size) := Lib.hid (Nat.lt_of_succ_lt HLb.out)
  have a0 : w1.cell? ⟨w.heap.size, 0, none⟩ = some (.slice la ln lc) := (by rw [cell_of_row _ _ 0 _ 36 _ HX1.out]; rfl)
  have a1 : w1.cell? ⟨w.heap.size, 1, none⟩ = some (.int .i64 (ra : Int)) := (by rw [cell_of_row _ _ 1 _ 36 _ HX1.out]; rfl)
  have b0 : w1.cell? ⟨w.heap.size + 1, 0, none⟩ = some (.slice lb lm ld) := (by rw [cell_of_row _ _ 0 _ 36 _ HX2.out]; rfl)
  have b1 : w1.cell? ⟨w.heap.size + 1, 1, none⟩ = some (.int .i64 (rb : Int)) := (by rw [cell_of_row _ _ 1 _ 36 _ HX2.out]; rfl)
  go_upto_region 6 with (first | (go_at_call 31; (with_reducible refine (KL.out _ HT1.out).mono ?_); rintro e w2 ⟨rfl, hb9⟩; have HBw2 : Hid (Below w1.heap.size w1 w2) := Lib.hid hb9; clear hb9; have a02 : w2.cell? ⟨w.heap.size, 0, none⟩ = some (.slice la ln lc) := keepB HBw2.out HLa.out a0; have a12 : w2.cell? ⟨w.heap.size, 1, none⟩ = some (.int .i64 (ra : Int)) := keepB HBw2.out HLa.out a1; have b02 : w2.cell? ⟨w.heap.size + 1, 0, none⟩ = some (.slice lb lm ld) := keepB HBw2.out HLb.out b0; have b12 : w2.cell? ⟨w.heap.size + 1, 1, none⟩ = some (.int .i64 (rb : Int)) := keepB HBw2.out HLb.out b1; have HT2 : Hid (Below w.heap.size w w2) := Lib.hid (HT1.out.trans (HBw2.out.mono HT1.out.size))) | (go_at_call 32; (with_reducible refine (KFA.out _ HT2.out).mono ?_); rintro e w3 ⟨rfl, hb9⟩; have HBw3 : Hid (Below w1.heap.size w1 w3) := Lib.hid (HBw2.out.trans (hb9.mono HBw2.out.size)); clear hb9; have a03 : w3.cell? ⟨w.heap.size, 0, none⟩ = some (.slice la ln lc) := keepB HBw3.out HLa.out a0; have a13 : w3.cell? ⟨w.heap.size, 1, none⟩ = some (.int .i64 (ra : Int)) := keepB HBw3.out HLa.out a1; have b03 : w3.cell? ⟨w.heap.size + 1, 0, none⟩ = some (.slice lb lm ld) := keepB HBw3.out HLb.out b0; have b13 : w3.cell? ⟨w.heap.size + 1, 1, none⟩ = some (.int .i64 (rb : Int)) := keepB HBw3.out HLb.out b1; have HT3 : Hid (Below w.heap.size w w3) := Lib.hid (HT1.out.trans (HBw3.out.mono HT1.out.size))) | (go_at_call 32; (with_reducible refine (KFB.out _ HT3.out).mono ?_); rintro e w4 ⟨rfl, hb9⟩; have HBw4 : Hid (Below w1.heap.size w1 w4) := Lib.hid (HBw3.out.trans (hb9.mono HBw3.out.size)); clear hb9; have a04 : w4.cell? ⟨w.heap.size, 0, none⟩ = some (.slice la ln lc) := keepB HBw4.out HLa.out a0; have a14 : w4.cell? ⟨w.heap.size, 1, none⟩ = some (.int .i64 (ra : Int)) := keepB HBw4.out HLa.out a1; have b04 : w4.cell? ⟨w.heap.size + 1, 0, none⟩ = some (.slice lb lm ld) := keepB HBw4.out HLb.out b0; have b14 : w4.cell? ⟨w.heap.size + 1, 1, none⟩ = some (.int .i64 (rb : Int)) := keepB HBw4.out HLb.out b1; have HT4 : Hid (Below w.heap.size w w4) := Lib.hid (HT1.out.trans (HBw4.out.mono HT1.out.size))) | (go_at_call 33; (with_reducible refine (KRA.out _ HT4.out).mono ?_); rintro e w5 ⟨rfl, hb9⟩; have HBw5 : Hid (Below w1.heap.size w1 w5) := Lib.hid (HBw4.out.trans (hb9.mono HBw4.out.size)); clear hb9; have a05 : w5.cell? ⟨w.heap.size, 0, none⟩ = some (.slice la ln lc) := keepB HBw5.out HLa.out a0; have a15 : w5.cell? ⟨w.heap.size, 1, none⟩ = some (.int .i64 (ra : Int)) := keepB HBw5.out HLa.out a1; have b05 : w5.cell? ⟨w.heap.size + 1, 0, none⟩ = some (.slice lb lm ld) := keepB HBw5.out HLb.out b0; have b15 : w5.cell? ⟨w.heap.size + 1, 1, none⟩ = some (.int .i64 (rb : Int)) := keepB HBw5.out HLb.out b1; have HT5 : Hid (Below w.heap.size w w5) := Lib.hid (HT1.out.trans (HBw5.out.mono HT1.out.size))) | (go_at_call 33; (with_reducible refine (KRB.out _ HT5.out).mono ?_); rintro e w6 ⟨rfl, hb9⟩; have HBw6 : Hid (Below w1.heap.size w1 w6) := Lib.hid (HBw5.out.trans (hb9.mono HBw5.out.size)); clear hb9; have a06 : w6.cell? ⟨w.heap.size, 0, none⟩ = some (.slice la ln lc) := keepB HBw6.out HLa.out a0; have a16 : w6.cell? ⟨w.heap.size, 1, none⟩ = some (.int .i64 (ra : Int)) := keepB HBw6.out HLa.out a1; have b06 : w6.cell? ⟨w.heap.size + 1, 0, none⟩ = some (.slice lb lm ld) := keepB HBw6.out HLb.out b0; have b16 : w6.cell? ⟨w.heap.size + 1, 1, none⟩ = some (.int .i64 (rb : Int)) := keepB HBw6.out HLb.out b1; have HT6 : Hid (Below w.heap.size w w6) := Lib.hid (HT1.out.trans (HBw6.out.mono HT1.out.size))) | (go_at_call 34; (with_reducible refine (KBA.out _ HT6.out).mono ?_); rintro e w7 ⟨va, OA, rfl, hva, hna, hb9⟩; have HBw7 : Hid (Below w1.heap.size w1 w7) := Lib.hid (HBw6.out.trans (hb9.mono HBw6.out.size)); have HVA := Lib.hid hva; have HNA := Lib.hid hna; clear hva hna; clear hb9; have a07 : w7.cell? ⟨w.heap.size, 0, none⟩ = some (.slice la ln lc) := keepB HBw7.out HLa.out a0; have a17 : w7.cell? ⟨w.heap.size, 1, none⟩ = some (.int .i64 (ra : Int)) := keepB HBw7.out HLa.out a1; have b07 : w7.cell? ⟨w.heap.size + 1, 0, none⟩ = some (.slice lb lm ld) := keepB HBw7.out HLb.out b0; have b17 : w7.cell? ⟨w.heap.size + 1, 1, none⟩ = some (.int .i64 (rb : Int)) := keepB HBw7.out HLb.out b1; have HT7 : Hid (Below w.heap.size w w7) := Lib.hid (HT1.out.trans (HBw7.out.mono HT1.out.size))) | (go_at_call 34; (with_reducible refine (KBB.out _ HT7.out).mono ?_); rintro e w8 ⟨vb, OB, rfl, hvb, hnb, hb9⟩; have HBw8 : Hid (Below w1.heap.size w1 w8) := Lib.hid (HBw7.out.trans (hb9.mono HBw7.out.size)); have HVB := Lib.hid hvb; have HNB := Lib.hid hnb; have HVA8 := Lib.hid (HVA.out.on hb9); clear hvb hnb; clear hb9; have a08 : w8.cell? ⟨w.heap.size, 0, none⟩ = some (.slice la ln lc) := keepB HBw8.out HLa.out a0; have a18 : w8.cell? ⟨w.heap.size, 1, none⟩ = some (.int .i64 (ra : Int)) := keepB HBw8.out HLa.out a1; have b08 : w8.cell? ⟨w.heap.size + 1, 0, none⟩ = some (.slice lb lm ld) := keepB HBw8.out HLb.out b0; have b18 : w8.cell? ⟨w.heap.size + 1, 1, none⟩ = some (.int .i64 (rb : Int)) := keepB HBw8.out HLb.out b1; have HT8 : Hid (Below w.heap.size w w8) := Lib.hid (HT1.out.trans (HBw8.out.mono HT1.out.size))) | (go_at_call 35; (with_reducible refine (KRS.out _ HT8.out).mono ?_); rintro e w9 ⟨bs, rfl, hbs, hb9⟩; have HBw9 : Hid (Below w1.heap.size w1 w9) := Lib.hid (HBw8.out.trans (hb9.mono HBw8.out.size)); have HBS := Lib.hid hbs; have HVA9 := Lib.hid (HVA8.out.on hb9); have HVB9 := Lib.hid (HVB.out.on hb9); clear hbs; clear hb9; have a09 : w9.cell? ⟨w.heap.size, 0, none⟩ = some (.slice la ln lc) := keepB HBw9.out HLa.out a0; have a19 : w9.cell? ⟨w.heap.size, 1, none⟩ = some (.int .i64 (ra : Int)) := keepB HBw9.out HLa.out a1; have b09 : w9.cell? ⟨w.heap.size + 1, 0, none⟩ = some (.slice lb lm ld) := keepB HBw9.out HLb.out b0; have b19 : w9.cell? ⟨w.heap.size + 1, 1, none⟩ = some (.int .i64 (rb : Int)) := keepB HBw9.out HLb.out b1; have HT9 : Hid (Below w.heap.size w w9) := Lib.hid (HT1.out.trans (HBw9.out.mono HT1.out.size))))
  have HLE : Hid (bytesL OA = bytesL OB ↔ bs = true) := Lib.hid ((HEQ.out OA OB HNA.out HNB.out).trans HBS.out.symm)
  obtain ⟨s, hs⟩ : ∃ s, strB (bytesL OA) = s := ⟨_, rfl⟩
  obtain ⟨t, ht⟩ : ∃ t, strB (bytesL OB) = t := ⟨_, rfl⟩
  have HST : Hid (s = t ↔ bs = true) := Lib.hid (by rw [← hs, ← ht, strB_inj]; exact HLE.out)
  have HSE := Lib.hid hs
  have HTE := Lib.hid ht
  clear hs ht
  cases bs with
  | false =>
    have hne : ¬ s = t := fun e => by have := HST.out.1 e; cases this
    have hne3 : (s.toList == t.toList) = false := by
      rw [beq_eq_false_iff_ne]
      exact fun e => hne (toList_inj e)
    clear hne
    go_wp2_with (go_at_call 36; (with_reducible refine (KGS.out _ HT9.out).mono ?_); rintro e wz ⟨b2, rfl, hb2, hz9⟩; obtain rfl : b2 = false := (Bool.eq_iff_iff.2 (hb2.trans HBS.out.symm)); have hc1 := bu_conv (HVA9.out.on hz9); have hc2 := bu_conv (HVB9.out.on hz9); rw [HSE.out] at hc1; rw [HTE.out] at hc2)
    go_ret
    exact ⟨rfl, HT9.out.trans (hz9.mono HT9.out.size)⟩
  | true =>
    have hne3 : (s.toList == t.toList) = true := by
      rw [HST.out.2 rfl]
      exact beq_self_eq_true _
    have hbt := run_eql_tt
    go_wp2_with (go_at_call 36; (with_reducible refine (KGS.out _ HT9.out).mono ?_); rintro e wz ⟨b2, rfl, hb2, hz9⟩; obtain rfl : b2 = true := (Bool.eq_iff_iff.2 (hb2.trans HBS.out.symm)); have hc1 := bu_conv (HVA9.out.on hz9); have hc2 := bu_conv (HVB9.out.on hz9); rw [HSE.out] at hc1; rw [HTE.out] at hc2)
    go_ret
    exact ⟨rfl, HT9.out.trans (hz9.mono HT9.out.size)⟩
theorem graphSame_true (w : World) (la : Option Addr) (ln lc : Nat) (ra : Int) (A : List Hd) (hA : GRaw w la ln A) (lb : Option Addr) (lm ld : Nat) (rb : Int) (B : List Hd) (hB : GRaw w lb lm B) : Calls Tryz.prog 4 #[.agg #[.slice la ln lc, .int .i64 ra], .agg #[.slice lb lm ld, .int .i64 rb]] w fun e w' => e = .returned (.bool true) ∧ Below w.heap.size w w' := by
  cases hfa : fewB A with
  | false => exact same_few_a w la ln lc ra A hA lb lm ld rb B hB hfa
  | true =>
    cases hfb : fewB B with
    | false => exact same_few_b w la ln lc ra A hA lb lm ld rb B hB hfa hfb
    | true =>
      cases hga : graphB ra A with
      | false => exact same_right_a w la ln lc ra A hA lb lm ld rb B hB hfa hfb hga
      | true =>
        cases hgb : graphB rb B with
        | false => exact same_right_b w la ln lc ra A hA lb lm ld rb B hB hfa hfb hga hgb
        | true => exact same_all w la ln lc ra A hA lb lm ld rb B hB hfa hfb hga hgb
end Go.Proofs.YtifilhkkgkihpaaGreatDoor
set_option linter.unusedSimpArgs false
set_option linter.unusedVariables false
namespace Go.Proofs.YtifilhkkgkihpaaGreatDoor
open Go.RowKit
set_option maxRecDepth 20000 in
set_option maxHeartbeats 8000000 in
theorem equal_ok (w : World) (la : Option Addr) (ln lc : Nat) (lb : Option Addr) (ld : Nat) (r : Int) (A B : List Hd) (hA : HeadsIn w la ln A) (hB : HeadsIn w lb ln B) (hl : ln ≤ 100) (h : Alk A B) :
    Calls Tryz.prog 23 #[.agg #[.slice la ln lc, .int .i64 r], .agg #[.slice lb ln ld, .int .i64 r]] w (BoolPost w true) := by
  have hb0 : Below w.heap.size w (w.alloc (.cells #[.slice la ln lc, .int .i64 r] 36)) := (Below.refl _ _).alloc (Nat.le_refl _) _
  have HB0 : Hid (Below w.heap.size w ((w.alloc (.cells #[.slice la ln lc, .int .i64 r] 36)).alloc (.cells #[.slice lb ln ld, .int .i64 r] 36))) := Lib.hid (hb0.alloc hb0.size _)
  have HX1 : Hid (((w.alloc (.cells #[.slice la ln lc, .int .i64 r] 36)).alloc (.cells #[.slice lb ln ld, .int .i64 r] 36)).heap[w.heap.size]? = some (.cells #[.slice la ln lc, .int .i64 r] 36 (0, 0))) := Lib.hid (by rw [Below.heap_alloc _ _ _ (by simp)]; exact heap_alloc_new w _)
  have HX2 : Hid (((w.alloc (.cells #[.slice la ln lc, .int .i64 r] 36)).alloc (.cells #[.slice lb ln ld, .int .i64 r] 36)).heap[w.heap.size + 1]? = some (.cells #[.slice lb ln ld, .int .i64 r] 36 (0, 0))) := Lib.hid (by
    have := heap_alloc_new (w.alloc (.cells #[.slice la ln lc, .int .i64 r] 36)) (.cells #[.slice lb ln ld, .int .i64 r] 36)
    simpa using this)
  have HA := Lib.hid (hA.on HB0.out)
  have HB := Lib.hid (hB.on HB0.out)
  have HAK := Lib.hid h
  clear hb0 hA hB h
  go_enter Tryz.func23, Tryz.ntmps23
  go_upto_region 1 with (fail)
  generalize ((w.alloc (.cells #[.slice la ln lc, .int .i64 r] 36)).alloc (.cells #[.slice lb ln ld, .int .i64 r] 36)) = w1 at *
  have HL1 : Hid (w.heap.size + 1 < w1.heap.size) := Lib.hid (Array.getElem?_eq_some_iff.1 HX2.out).1
  have a0 : w1.cell? ⟨w.heap.size, 0, none⟩ = some (.slice la ln lc) := (by rw [cell_of_row _ _ 0 _ 36 _ HX1.out]; rfl)
  have a1 : w1.cell? ⟨w.heap.size, 1, none⟩ = some (.int .i64 r) := (by rw [cell_of_row _ _ 1 _ 36 _ HX1.out]; rfl)
  have b0 : w1.cell? ⟨w.heap.size + 1, 0, none⟩ = some (.slice lb ln ld) := (by rw [cell_of_row _ _ 0 _ 36 _ HX2.out]; rfl)
  have b1 : w1.cell? ⟨w.heap.size + 1, 1, none⟩ = some (.int .i64 r) := (by rw [cell_of_row _ _ 1 _ 36 _ HX2.out]; rfl)
  go_upto_region 4 with (fail)
  clear a0 a1 b0 b1
  go_loopw [24] (fun s24 wr => ∃ i : Nat, i ≤ ln ∧ s24 = .int .i64 (i : Int) ∧ Hid (Below w1.heap.size w1 wr)) (fun s24 _ => ln - (intOf s24).toNat)
  case atStart => exact ⟨0, Nat.zero_le _, rfl, Lib.hid (Below.refl _ _)⟩
  case round =>
    obtain ⟨i, hi, rfl, HBR⟩ := hrel
    obtain ⟨w2, rfl⟩ : ∃ w2 : World, w2 = wr := ⟨_, rfl⟩
    have hwi : IntKind.i64.wrap ((i : Int) + 1) = (i : Int) + 1 := by rw [IntKind.wrap_i64]; omega
    by_cases hin : i < ln
    · have hin2 : (i : Int) < ln := by omega
      obtain ⟨x, hx⟩ : ∃ x, A[i]? = some x := ⟨_, List.getElem?_eq_getElem (by rw [← HA.out.1]; exact hin)⟩
      obtain ⟨y, hy⟩ : ∃ y, B[i]? = some y := ⟨_, List.getElem?_eq_getElem (by rw [← HB.out.1]; exact hin)⟩
      obtain ⟨e1, e2, e3, e4⟩ := HAK.out.eq i x y hx hy
      obtain ⟨ga, oa, hae, hga, hca⟩ := HA.out.2.resolve_left (by omega)
      obtain ⟨gb, ob, hbe, hgb, hcb⟩ := HB.out.2.resolve_left (by omega)
      have HXI := Lib.hid (hca i x hx)
      have HYI := Lib.hid (hcb i y hy)
      have HGA := Lib.hid hga
      have HGB := Lib.hid hgb
      have HPE : Hid (Pl x y) := Lib.hid ⟨e1.symm, e2.symm, e3.symm, by rw [e4]⟩
      have HKE := Lib.hid e4
      rw [hae] at HX1
      rw [hbe] at HX2
      have a0 : w2.cell? ⟨w.heap.size, 0, none⟩ = some (.slice (some ⟨ga, oa, none⟩) ln lc) := (by rw [cell_of_row _ _ 0 _ 36 _ ((HBR.out.block _ (Nat.lt_of_succ_lt HL1.out)).trans HX1.out)]; rfl)
      have b0 : w2.cell? ⟨w.heap.size + 1, 0, none⟩ = some (.slice (some ⟨gb, ob, none⟩) ln ld) := (by rw [cell_of_row _ _ 0 _ 36 _ ((HBR.out.block _ HL1.out).trans HX2.out)]; rfl)
      have c0 : w2.cell? ⟨ga, oa + i * 4, none⟩ = some (.int .i64 x.kd) := keepB HBR.out HGA.out HXI.out.c0
      have c1 : w2.cell? ⟨ga, oa + i * 4 + 1, none⟩ = some (.slice x.na x.nn x.nc) := keepB HBR.out HGA.out HXI.out.c1
      have c2 : w2.cell? ⟨ga, oa + i * 4 + 2, none⟩ = some (.slice x.ka x.kn x.kc) := keepB HBR.out HGA.out HXI.out.c2
      have c3 : w2.cell? ⟨ga, oa + i * 4 + 3, none⟩ = some (.bool x.op) := keepB HBR.out HGA.out HXI.out.c3
      have d0 : w2.cell? ⟨gb, ob + i * 4, none⟩ = some (.int .i64 y.kd) := keepB HBR.out HGB.out HYI.out.c0
      have d1 : w2.cell? ⟨gb, ob + i * 4 + 1, none⟩ = some (.slice y.na y.nn y.nc) := keepB HBR.out HGB.out HYI.out.c1
      have d2 : w2.cell? ⟨gb, ob + i * 4 + 2, none⟩ = some (.slice y.ka y.kn y.kc) := keepB HBR.out HGB.out HYI.out.c2
      have d3 : w2.cell? ⟨gb, ob + i * 4 + 3, none⟩ = some (.bool y.op) := keepB HBR.out HGB.out HYI.out.c3
      have hd : Below w2.heap.size w2 w2.drew := (Below.refl _ _).drew
      have HDR := Lib.hid hd
      have HPL := Lib.hid (plain_any w2.drew x y (HXI.out.ok.on (HBR.out.trans (hd.mono HBR.out.size))) (HYI.out.ok.on (HBR.out.trans (hd.mono HBR.out.size))))
      clear hx hy e1 e2 e3 e4 hae hbe hga hgb hca hcb hd
      go_upto_region 6 with (fail)
      go_region_law
        (first
          | (go_simp; go_at_call 64; (with_reducible refine HPL.out.mono ?_); rintro e w3 ⟨b, rfl, hb, hb3⟩; obtain rfl : b = true := hb.2 HPE.out; have HB3 : Hid (Below w2.heap.size w2 w3) := Lib.hid (HDR.out.trans (hb3.mono HDR.out.size)); clear hb hb3)
          | fail)
      all_goals
        have HBW : Hid (Below w1.heap.size w1 w3) := Lib.hid (HBR.out.trans (HB3.out.mono HBR.out.size))
        clear a0 b0 c0 c1 c2 c3 d0 d1 d2 d3
        have a0 : w3.cell? ⟨w.heap.size, 0, none⟩ = some (.slice (some ⟨ga, oa, none⟩) ln lc) := (by rw [cell_of_row _ _ 0 _ 36 _ ((HBW.out.block _ (Nat.lt_of_succ_lt HL1.out)).trans HX1.out)]; rfl)
        have c2 : w3.cell? ⟨ga, oa + i * 4 + 2, none⟩ = some (.slice x.ka x.kn x.kc) := keepB HBW.out HGA.out HXI.out.c2
        go_upto_region 9 with (fail)
        clear a0 c2
        go_loopw [46] (fun s46 wr => ∃ j : Nat, j ≤ x.kn ∧ s46 = .int .i64 (j : Int) ∧ Hid (Below w1.heap.size w1 wr)) (fun s46 _ => x.kn - (intOf s46).toNat)
        case atStart => exact ⟨0, Nat.zero_le _, rfl, HBW⟩
        case round =>
          clear HBW
          obtain ⟨j, hj, rfl, HBW⟩ := hrel
          obtain ⟨w4, rfl⟩ : ∃ w4 : World, w4 = wr := ⟨_, rfl⟩
          have hkb := HXI.out.ok.knb
          have hwj : IntKind.i64.wrap ((j : Int) + 1) = (j : Int) + 1 := by rw [IntKind.wrap_i64]; omega
          by_cases hjk : j < x.kn
          · have hjk2 : (j : Int) < x.kn := by omega
            have hkk : y.kn = x.kn := by rw [HXI.out.ok.kids.1, HYI.out.ok.kids.1, HKE.out]
            obtain ⟨k, hk⟩ : ∃ k, x.KS[j]? = some k := ⟨_, List.getElem?_eq_getElem (by rw [← HXI.out.ok.kids.1]; exact hjk)⟩
            obtain ⟨gk, ok, hke, hgk, hck⟩ := (HXI.out.ok.kids.on HBW.out).2.resolve_left (by omega)
            obtain ⟨gl, ol, hle, hgl, hcl⟩ := (HYI.out.ok.kids.on HBW.out).2.resolve_left (by omega)
            have q0 := hck j k hk
            have q1 := hcl j k (by rw [HKE.out]; exact hk)
            have a0 : w4.cell? ⟨w.heap.size, 0, none⟩ = some (.slice (some ⟨ga, oa, none⟩) ln lc) := (by rw [cell_of_row _ _ 0 _ 36 _ ((HBW.out.block _ (Nat.lt_of_succ_lt HL1.out)).trans HX1.out)]; rfl)
            have b0 : w4.cell? ⟨w.heap.size + 1, 0, none⟩ = some (.slice (some ⟨gb, ob, none⟩) ln ld) := (by rw [cell_of_row _ _ 0 _ 36 _ ((HBW.out.block _ HL1.out).trans HX2.out)]; rfl)
            have c2 : w4.cell? ⟨ga, oa + i * 4 + 2, none⟩ = some (.slice (some ⟨gk, ok, none⟩) x.kn x.kc) := by rw [← hke]; exact keepB HBW.out HGA.out HXI.out.c2
            have d2 : w4.cell? ⟨gb, ob + i * 4 + 2, none⟩ = some (.slice (some ⟨gl, ol, none⟩) x.kn y.kc) := by rw [← hle, ← hkk]; exact keepB HBW.out HGB.out HYI.out.c2
            clear hk hck hcl hgk hgl hke hle hkk
            go_upto_region 11 with (fail)
            go_quiet (fail)
            go_wp2
            go_roundw
            case rel => exact ⟨j + 1, by omega, by go_num, Lib.hid (HBW.out.trans (Below.mono (below_drewN (Below.refl _ _)) HBW.out.size))⟩
            case measure => simp [intOf]; omega
          · have hjk2 : ¬ (j : Int) < x.kn := by omega
            go_wp2
            go_roundw
            case rel => exact ⟨i + 1, by omega, by go_num, HBW⟩
            case measure => simp [intOf]; omega
    · have hin2 : ¬ (i : Int) < ln := by omega
      go_wp2
      go_ret
      exact ⟨rfl, HB0.out.trans (HBR.out.mono HB0.out.size)⟩
end Go.Proofs.YtifilhkkgkihpaaGreatDoor
