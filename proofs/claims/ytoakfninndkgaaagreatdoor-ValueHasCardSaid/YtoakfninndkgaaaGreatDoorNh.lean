/- Walks: shapes, named, term: of the two terms that graph.head makes. -/
import Derived.Test.YtoakfninndkgaaaGreatDoorNg
set_option linter.unusedVariables false
namespace Go.Proofs.YtoakfninndkgaaaGreatDoor
open Go.RowKit
theorem results_172 {fn : Func} {p u : Tmp} (h : fn.results = #[.cell p 172, .tmp u]) (tmps : Array Value) (w : World) (g : Nat) (cs : Array Value) (hp : tmps.getD p undef = .pointer (some ⟨g, 0, none⟩)) (hg : w.heap[g]? = some (.cells cs 172 (0, 0))) (hi : cs.size = 6) :
    (results fn tmps).run Tryz.prog w = .ok (.tuple #[.agg cs, tmps.getD u undef]) w := by
  have hi2 : (Tryz.prog.info? 172).map (·.size) = some cs.size := by rw [hi]; kernel_rfl
  rw [results_cell_tmp h, hp]
  simp [asAddr, run_loadVar_row w g 172 172 cs (0, 0) _ hg Tryz.underlying172 rfl hi2]
theorem shapes_1 (w : World) : Calls Tryz.prog 99 #[.int .i64 1] w fun e w' => e = .returned (.tuple #[.agg #[.bool false, .bool true, .bool false, .bool false, .int .i64 0, .int .i64 0], .bool true]) ∧ Below w.heap.size w w' := by
  have HR : Hid ((w.alloc (.cells #[.bool false, .bool false, .bool false, .bool false, .int .i64 0, .int .i64 0] 172)).heap[w.heap.size]? = some (.cells #[.bool false, .bool false, .bool false, .bool false, .int .i64 0, .int .i64 0] 172 (0, 0))) := Lib.hid (heap_alloc_new w _)
  have HB : Hid (Below w.heap.size w (w.alloc (.cells #[.bool false, .bool false, .bool false, .bool false, .int .i64 0, .int .i64 0] 172))) := Lib.hid ((Below.refl _ _).alloc (Nat.le_refl _) _)
  go_enter Tryz.func99, Tryz.ntmps99
  go_upto_region 1 with (fail)
  generalize (w.alloc (.cells #[.bool false, .bool false, .bool false, .bool false, .int .i64 0, .int .i64 0] 172)) = w3 at *
  go_wp2_with (refine wpList_store_row rfl 172 _ _ rfl w.heap.size _ rfl rfl 172 _ HR.out (by kernel_rfl) rfl (by simp [Value.oneCell']) ?_)
  (try simp only [Exit.inBlock, Exit.then])
  exact bodyPost_ret (v := .tuple #[.agg #[.bool false, .bool true, .bool false, .bool false, .int .i64 0, .int .i64 0], .bool true]) (results_172 (fn := Tryz.f99) (p := 2) (u := 3) rfl _ _ w.heap.size _ rfl (setRow_heap _ _ _ _ _ _ HR.out) rfl) rfl ⟨rfl, HB.out.os, HB.out.tape, HB.out.output, by rw [setRow_size]; exact HB.out.size, fun k hk => (setRow_other _ _ _ _ (by omega)).trans (HB.out.block k hk)⟩
theorem shapes_15 (w : World) : Calls Tryz.prog 99 #[.int .i64 15] w fun e w' => e = .returned (.tuple #[.agg #[.bool false, .bool false, .bool false, .bool false, .int .i64 1, .int .i64 1], .bool true]) ∧ Below w.heap.size w w' := by
  have HR : Hid ((w.alloc (.cells #[.bool false, .bool false, .bool false, .bool false, .int .i64 0, .int .i64 0] 172)).heap[w.heap.size]? = some (.cells #[.bool false, .bool false, .bool false, .bool false, .int .i64 0, .int .i64 0] 172 (0, 0))) := Lib.hid (heap_alloc_new w _)
  have HB : Hid (Below w.heap.size w (w.alloc (.cells #[.bool false, .bool false, .bool false, .bool false, .int .i64 0, .int .i64 0] 172))) := Lib.hid ((Below.refl _ _).alloc (Nat.le_refl _) _)
  go_enter Tryz.func99, Tryz.ntmps99
  go_upto_region 1 with (fail)
  generalize (w.alloc (.cells #[.bool false, .bool false, .bool false, .bool false, .int .i64 0, .int .i64 0] 172)) = w3 at *
  go_wp2_with (refine wpList_store_row rfl 172 _ _ rfl w.heap.size _ rfl rfl 172 _ HR.out (by kernel_rfl) rfl (by simp [Value.oneCell']) ?_)
  (try simp only [Exit.inBlock, Exit.then])
  exact bodyPost_ret (v := .tuple #[.agg #[.bool false, .bool false, .bool false, .bool false, .int .i64 1, .int .i64 1], .bool true]) (results_172 (fn := Tryz.f99) (p := 2) (u := 3) rfl _ _ w.heap.size _ rfl (setRow_heap _ _ _ _ _ _ HR.out) rfl) rfl ⟨rfl, HB.out.os, HB.out.tape, HB.out.output, by rw [setRow_size]; exact HB.out.size, fun k hk => (setRow_other _ _ _ _ (by omega)).trans (HB.out.block k hk)⟩
theorem named_1 (w : World) : Calls Tryz.prog 100 #[.agg #[.int .i64 1, .int .i64 0, .string ⟨#[]⟩, .int .i64 0, .int .u64 0, .slice none 0 0, .slice none 0 0, .slice none 0 0]] w fun e w' => e = .returned (.bool true) ∧ Below w.heap.size w w' := by
  have HB : Hid (Below w.heap.size w (w.alloc (.cells #[.int .i64 1, .int .i64 0, .string ⟨#[]⟩, .int .i64 0, .int .u64 0, .slice none 0 0, .slice none 0 0, .slice none 0 0] 146))) := Lib.hid ((Below.refl _ _).alloc (Nat.le_refl _) _)
  go_enter Tryz.func100, Tryz.ntmps100
  go_wp2
  go_ret
  exact ⟨by simp, HB.out⟩
set_option maxRecDepth 20000 in
set_option maxHeartbeats 1000000 in
theorem term_1 (w : World) : Calls Tryz.prog 87 #[.agg #[.int .i64 1, .int .i64 0, .string ⟨#[]⟩, .int .i64 0, .int .u64 0, .slice none 0 0, .slice none 0 0, .slice none 0 0]] w fun e w' => e = .returned (.bool true) ∧ Below w.heap.size w w' := by
  have HB : Hid (Below w.heap.size w (w.alloc (.cells #[.int .i64 1, .int .i64 0, .string ⟨#[]⟩, .int .i64 0, .int .u64 0, .slice none 0 0, .slice none 0 0, .slice none 0 0] 146))) := Lib.hid ((Below.refl _ _).alloc (Nat.le_refl _) _)
  have HN : Hid ((w.alloc (.cells #[.int .i64 1, .int .i64 0, .string ⟨#[]⟩, .int .i64 0, .int .u64 0, .slice none 0 0, .slice none 0 0, .slice none 0 0] 146)).heap[w.heap.size]? = some (.cells #[.int .i64 1, .int .i64 0, .string ⟨#[]⟩, .int .i64 0, .int .u64 0, .slice none 0 0, .slice none 0 0, .slice none 0 0] 146 (0, 0))) := Lib.hid (heap_alloc_new w _)
  go_enter Tryz.func87, Tryz.ntmps87
  go_upto_region 1 with (fail)
  generalize (w.alloc (.cells #[.int .i64 1, .int .i64 0, .string ⟨#[]⟩, .int .i64 0, .int .u64 0, .slice none 0 0, .slice none 0 0, .slice none 0 0] 146)) = w1 at *
  have b0 : w1.cell? ⟨w.heap.size, 0, none⟩ = some (.int .i64 1) := by rw [cell_of_row _ _ 0 _ 146 _ HN.out]; rfl
  go_upto_region 2 with (go_at_call 99; refine (shapes_1 _).mono ?_; rintro e w2 ⟨rfl, hb2⟩)
  clear b0
  have HS : Hid ((w2.alloc (.cells #[.bool false, .bool true, .bool false, .bool false, .int .i64 0, .int .i64 0] 172)).heap[w2.heap.size]? = some (.cells #[.bool false, .bool true, .bool false, .bool false, .int .i64 0, .int .i64 0] 172 (0, 0))) := Lib.hid (heap_alloc_new w2 _)
  have HN3 : Hid ((w2.alloc (.cells #[.bool false, .bool true, .bool false, .bool false, .int .i64 0, .int .i64 0] 172)).heap[w.heap.size]? = some (.cells #[.int .i64 1, .int .i64 0, .string ⟨#[]⟩, .int .i64 0, .int .u64 0, .slice none 0 0, .slice none 0 0, .slice none 0 0] 146 (0, 0))) := Lib.hid (by
    have h1 := (Array.getElem?_eq_some_iff.1 HN.out).1
    rw [Below.heap_alloc _ _ _ (by have := hb2.size; omega), hb2.block _ h1]
    exact HN.out)
  have HB3 : Hid (Below w.heap.size w (w2.alloc (.cells #[.bool false, .bool true, .bool false, .bool false, .int .i64 0, .int .i64 0] 172))) := Lib.hid ((HB.out.trans (hb2.mono HB.out.size)).alloc (Nat.le_trans HB.out.size hb2.size) _)
  clear hb2
  generalize w2.heap.size = S2 at *
  generalize (w2.alloc (.cells #[.bool false, .bool true, .bool false, .bool false, .int .i64 0, .int .i64 0] 172)) = w3 at *
  have a0 : w3.cell? ⟨w.heap.size, 0, none⟩ = some (.int .i64 1) := by rw [cell_of_row _ _ 0 _ 146 _ HN3.out]; rfl
  have a1 : w3.cell? ⟨w.heap.size, 1, none⟩ = some (.int .i64 0) := by rw [cell_of_row _ _ 1 _ 146 _ HN3.out]; rfl
  have a2 : w3.cell? ⟨w.heap.size, 2, none⟩ = some (.string ⟨#[]⟩) := by rw [cell_of_row _ _ 2 _ 146 _ HN3.out]; rfl
  have a3 : w3.cell? ⟨w.heap.size, 3, none⟩ = some (.int .i64 0) := by rw [cell_of_row _ _ 3 _ 146 _ HN3.out]; rfl
  have a4 : w3.cell? ⟨w.heap.size, 4, none⟩ = some (.int .u64 0) := by rw [cell_of_row _ _ 4 _ 146 _ HN3.out]; rfl
  have a5 : w3.cell? ⟨w.heap.size, 5, none⟩ = some (.slice none 0 0) := by rw [cell_of_row _ _ 5 _ 146 _ HN3.out]; rfl
  have a6 : w3.cell? ⟨w.heap.size, 6, none⟩ = some (.slice none 0 0) := by rw [cell_of_row _ _ 6 _ 146 _ HN3.out]; rfl
  have a7 : w3.cell? ⟨w.heap.size, 7, none⟩ = some (.slice none 0 0) := by rw [cell_of_row _ _ 7 _ 146 _ HN3.out]; rfl
  have e0 : w3.cell? ⟨S2, 0, none⟩ = some (.bool false) := by rw [cell_of_row _ _ 0 _ 172 _ HS.out]; rfl
  have e1 : w3.cell? ⟨S2, 1, none⟩ = some (.bool true) := by rw [cell_of_row _ _ 1 _ 172 _ HS.out]; rfl
  have e2 : w3.cell? ⟨S2, 2, none⟩ = some (.bool false) := by rw [cell_of_row _ _ 2 _ 172 _ HS.out]; rfl
  have e3 : w3.cell? ⟨S2, 3, none⟩ = some (.bool false) := by rw [cell_of_row _ _ 3 _ 172 _ HS.out]; rfl
  have e4 : w3.cell? ⟨S2, 4, none⟩ = some (.int .i64 0) := by rw [cell_of_row _ _ 4 _ 172 _ HS.out]; rfl
  have e5 : w3.cell? ⟨S2, 5, none⟩ = some (.int .i64 0) := by rw [cell_of_row _ _ 5 _ 172 _ HS.out]; rfl
  go_wp2_with (go_at_call 100; refine (named_1 _).mono ?_; rintro e w5 ⟨rfl, hb5⟩; have hn5 := (hb5.block w.heap.size (Array.getElem?_eq_some_iff.1 HN3.out).1).trans HN3.out; have hs5 := (hb5.block S2 (Array.getElem?_eq_some_iff.1 HS.out).1).trans HS.out; have c0 : w5.cell? ⟨w.heap.size, 0, none⟩ = some (.int .i64 1) := (by rw [cell_of_row _ _ 0 _ 146 _ hn5]; rfl); have c1 : w5.cell? ⟨w.heap.size, 1, none⟩ = some (.int .i64 0) := (by rw [cell_of_row _ _ 1 _ 146 _ hn5]; rfl); have c2 : w5.cell? ⟨w.heap.size, 2, none⟩ = some (.string ⟨#[]⟩) := (by rw [cell_of_row _ _ 2 _ 146 _ hn5]; rfl); have c3 : w5.cell? ⟨w.heap.size, 3, none⟩ = some (.int .i64 0) := (by rw [cell_of_row _ _ 3 _ 146 _ hn5]; rfl); have c4 : w5.cell? ⟨w.heap.size, 4, none⟩ = some (.int .u64 0) := (by rw [cell_of_row _ _ 4 _ 146 _ hn5]; rfl); have c5 : w5.cell? ⟨w.heap.size, 5, none⟩ = some (.slice none 0 0) := (by rw [cell_of_row _ _ 5 _ 146 _ hn5]; rfl); have c6 : w5.cell? ⟨w.heap.size, 6, none⟩ = some (.slice none 0 0) := (by rw [cell_of_row _ _ 6 _ 146 _ hn5]; rfl); have c7 : w5.cell? ⟨w.heap.size, 7, none⟩ = some (.slice none 0 0) := (by rw [cell_of_row _ _ 7 _ 146 _ hn5]; rfl); have d0 : w5.cell? ⟨S2, 0, none⟩ = some (.bool false) := (by rw [cell_of_row _ _ 0 _ 172 _ hs5]; rfl); have d1 : w5.cell? ⟨S2, 1, none⟩ = some (.bool true) := (by rw [cell_of_row _ _ 1 _ 172 _ hs5]; rfl); have d2 : w5.cell? ⟨S2, 2, none⟩ = some (.bool false) := (by rw [cell_of_row _ _ 2 _ 172 _ hs5]; rfl); have d3 : w5.cell? ⟨S2, 3, none⟩ = some (.bool false) := (by rw [cell_of_row _ _ 3 _ 172 _ hs5]; rfl); have d4 : w5.cell? ⟨S2, 4, none⟩ = some (.int .i64 0) := (by rw [cell_of_row _ _ 4 _ 172 _ hs5]; rfl); have d5 : w5.cell? ⟨S2, 5, none⟩ = some (.int .i64 0) := (by rw [cell_of_row _ _ 5 _ 172 _ hs5]; rfl); have HB5 := Lib.hid (HB3.out.trans (hb5.mono HB3.out.size)); clear hn5 hs5 hb5)
  go_quiet (fail)
  go_wp2
  go_ret
  exact ⟨by simp, HB5.out.os, HB5.out.tape, HB5.out.output, HB5.out.size, HB5.out.block⟩
theorem named_15 (w : World) (gk gt : Nat) : Calls Tryz.prog 100 #[.agg #[.int .i64 15, .int .i64 0, .string ⟨#[]⟩, .int .i64 0, .int .u64 0, .slice none 0 0, .slice (some ⟨gk, 0, none⟩) 1 1, .slice (some ⟨gt, 0, none⟩) 1 1]] w fun e w' => e = .returned (.bool true) ∧ Below w.heap.size w w' := by
  have HB : Hid (Below w.heap.size w (w.alloc (.cells #[.int .i64 15, .int .i64 0, .string ⟨#[]⟩, .int .i64 0, .int .u64 0, .slice none 0 0, .slice (some ⟨gk, 0, none⟩) 1 1, .slice (some ⟨gt, 0, none⟩) 1 1] 146))) := Lib.hid ((Below.refl _ _).alloc (Nat.le_refl _) _)
  go_enter Tryz.func100, Tryz.ntmps100
  go_wp2
  go_ret
  exact ⟨by simp, HB.out⟩
set_option maxRecDepth 20000 in
set_option maxHeartbeats 1000000 in
theorem term_15 (w : World) (gk gt : Nat) : Calls Tryz.prog 87 #[.agg #[.int .i64 15, .int .i64 0, .string ⟨#[]⟩, .int .i64 0, .int .u64 0, .slice none 0 0, .slice (some ⟨gk, 0, none⟩) 1 1, .slice (some ⟨gt, 0, none⟩) 1 1]] w fun e w' => e = .returned (.bool true) ∧ Below w.heap.size w w' := by
  have HB : Hid (Below w.heap.size w (w.alloc (.cells #[.int .i64 15, .int .i64 0, .string ⟨#[]⟩, .int .i64 0, .int .u64 0, .slice none 0 0, .slice (some ⟨gk, 0, none⟩) 1 1, .slice (some ⟨gt, 0, none⟩) 1 1] 146))) := Lib.hid ((Below.refl _ _).alloc (Nat.le_refl _) _)
  have HN : Hid ((w.alloc (.cells #[.int .i64 15, .int .i64 0, .string ⟨#[]⟩, .int .i64 0, .int .u64 0, .slice none 0 0, .slice (some ⟨gk, 0, none⟩) 1 1, .slice (some ⟨gt, 0, none⟩) 1 1] 146)).heap[w.heap.size]? = some (.cells #[.int .i64 15, .int .i64 0, .string ⟨#[]⟩, .int .i64 0, .int .u64 0, .slice none 0 0, .slice (some ⟨gk, 0, none⟩) 1 1, .slice (some ⟨gt, 0, none⟩) 1 1] 146 (0, 0))) := Lib.hid (heap_alloc_new w _)
  go_enter Tryz.func87, Tryz.ntmps87
  go_upto_region 1 with (fail)
  generalize (w.alloc (.cells #[.int .i64 15, .int .i64 0, .string ⟨#[]⟩, .int .i64 0, .int .u64 0, .slice none 0 0, .slice (some ⟨gk, 0, none⟩) 1 1, .slice (some ⟨gt, 0, none⟩) 1 1] 146)) = w1 at *
  have b0 : w1.cell? ⟨w.heap.size, 0, none⟩ = some (.int .i64 15) := by rw [cell_of_row _ _ 0 _ 146 _ HN.out]; rfl
  go_upto_region 2 with (go_at_call 99; refine (shapes_15 _).mono ?_; rintro e w2 ⟨rfl, hb2⟩)
  clear b0
  have HS : Hid ((w2.alloc (.cells #[.bool false, .bool false, .bool false, .bool false, .int .i64 1, .int .i64 1] 172)).heap[w2.heap.size]? = some (.cells #[.bool false, .bool false, .bool false, .bool false, .int .i64 1, .int .i64 1] 172 (0, 0))) := Lib.hid (heap_alloc_new w2 _)
  have HN3 : Hid ((w2.alloc (.cells #[.bool false, .bool false, .bool false, .bool false, .int .i64 1, .int .i64 1] 172)).heap[w.heap.size]? = some (.cells #[.int .i64 15, .int .i64 0, .string ⟨#[]⟩, .int .i64 0, .int .u64 0, .slice none 0 0, .slice (some ⟨gk, 0, none⟩) 1 1, .slice (some ⟨gt, 0, none⟩) 1 1] 146 (0, 0))) := Lib.hid (by
    have h1 := (Array.getElem?_eq_some_iff.1 HN.out).1
    rw [Below.heap_alloc _ _ _ (by have := hb2.size; omega), hb2.block _ h1]
    exact HN.out)
  have HB3 : Hid (Below w.heap.size w (w2.alloc (.cells #[.bool false, .bool false, .bool false, .bool false, .int .i64 1, .int .i64 1] 172))) := Lib.hid ((HB.out.trans (hb2.mono HB.out.size)).alloc (Nat.le_trans HB.out.size hb2.size) _)
  clear hb2
  generalize w2.heap.size = S2 at *
  generalize (w2.alloc (.cells #[.bool false, .bool false, .bool false, .bool false, .int .i64 1, .int .i64 1] 172)) = w3 at *
  have a0 : w3.cell? ⟨w.heap.size, 0, none⟩ = some (.int .i64 15) := by rw [cell_of_row _ _ 0 _ 146 _ HN3.out]; rfl
  have a1 : w3.cell? ⟨w.heap.size, 1, none⟩ = some (.int .i64 0) := by rw [cell_of_row _ _ 1 _ 146 _ HN3.out]; rfl
  have a2 : w3.cell? ⟨w.heap.size, 2, none⟩ = some (.string ⟨#[]⟩) := by rw [cell_of_row _ _ 2 _ 146 _ HN3.out]; rfl
  have a3 : w3.cell? ⟨w.heap.size, 3, none⟩ = some (.int .i64 0) := by rw [cell_of_row _ _ 3 _ 146 _ HN3.out]; rfl
  have a4 : w3.cell? ⟨w.heap.size, 4, none⟩ = some (.int .u64 0) := by rw [cell_of_row _ _ 4 _ 146 _ HN3.out]; rfl
  have a5 : w3.cell? ⟨w.heap.size, 5, none⟩ = some (.slice none 0 0) := by rw [cell_of_row _ _ 5 _ 146 _ HN3.out]; rfl
  have a6 : w3.cell? ⟨w.heap.size, 6, none⟩ = some (.slice (some ⟨gk, 0, none⟩) 1 1) := by rw [cell_of_row _ _ 6 _ 146 _ HN3.out]; rfl
  have a7 : w3.cell? ⟨w.heap.size, 7, none⟩ = some (.slice (some ⟨gt, 0, none⟩) 1 1) := by rw [cell_of_row _ _ 7 _ 146 _ HN3.out]; rfl
  have e0 : w3.cell? ⟨S2, 0, none⟩ = some (.bool false) := by rw [cell_of_row _ _ 0 _ 172 _ HS.out]; rfl
  have e1 : w3.cell? ⟨S2, 1, none⟩ = some (.bool false) := by rw [cell_of_row _ _ 1 _ 172 _ HS.out]; rfl
  have e2 : w3.cell? ⟨S2, 2, none⟩ = some (.bool false) := by rw [cell_of_row _ _ 2 _ 172 _ HS.out]; rfl
  have e3 : w3.cell? ⟨S2, 3, none⟩ = some (.bool false) := by rw [cell_of_row _ _ 3 _ 172 _ HS.out]; rfl
  have e4 : w3.cell? ⟨S2, 4, none⟩ = some (.int .i64 1) := by rw [cell_of_row _ _ 4 _ 172 _ HS.out]; rfl
  have e5 : w3.cell? ⟨S2, 5, none⟩ = some (.int .i64 1) := by rw [cell_of_row _ _ 5 _ 172 _ HS.out]; rfl
  go_wp2_with (go_at_call 100; refine (named_15 _ _ _).mono ?_; rintro e w5 ⟨rfl, hb5⟩; have hn5 := (hb5.block w.heap.size (Array.getElem?_eq_some_iff.1 HN3.out).1).trans HN3.out; have hs5 := (hb5.block S2 (Array.getElem?_eq_some_iff.1 HS.out).1).trans HS.out; have c0 : w5.cell? ⟨w.heap.size, 0, none⟩ = some (.int .i64 15) := (by rw [cell_of_row _ _ 0 _ 146 _ hn5]; rfl); have c1 : w5.cell? ⟨w.heap.size, 1, none⟩ = some (.int .i64 0) := (by rw [cell_of_row _ _ 1 _ 146 _ hn5]; rfl); have c2 : w5.cell? ⟨w.heap.size, 2, none⟩ = some (.string ⟨#[]⟩) := (by rw [cell_of_row _ _ 2 _ 146 _ hn5]; rfl); have c3 : w5.cell? ⟨w.heap.size, 3, none⟩ = some (.int .i64 0) := (by rw [cell_of_row _ _ 3 _ 146 _ hn5]; rfl); have c4 : w5.cell? ⟨w.heap.size, 4, none⟩ = some (.int .u64 0) := (by rw [cell_of_row _ _ 4 _ 146 _ hn5]; rfl); have c5 : w5.cell? ⟨w.heap.size, 5, none⟩ = some (.slice none 0 0) := (by rw [cell_of_row _ _ 5 _ 146 _ hn5]; rfl); have c6 : w5.cell? ⟨w.heap.size, 6, none⟩ = some (.slice (some ⟨gk, 0, none⟩) 1 1) := (by rw [cell_of_row _ _ 6 _ 146 _ hn5]; rfl); have c7 : w5.cell? ⟨w.heap.size, 7, none⟩ = some (.slice (some ⟨gt, 0, none⟩) 1 1) := (by rw [cell_of_row _ _ 7 _ 146 _ hn5]; rfl); have d0 : w5.cell? ⟨S2, 0, none⟩ = some (.bool false) := (by rw [cell_of_row _ _ 0 _ 172 _ hs5]; rfl); have d1 : w5.cell? ⟨S2, 1, none⟩ = some (.bool false) := (by rw [cell_of_row _ _ 1 _ 172 _ hs5]; rfl); have d2 : w5.cell? ⟨S2, 2, none⟩ = some (.bool false) := (by rw [cell_of_row _ _ 2 _ 172 _ hs5]; rfl); have d3 : w5.cell? ⟨S2, 3, none⟩ = some (.bool false) := (by rw [cell_of_row _ _ 3 _ 172 _ hs5]; rfl); have d4 : w5.cell? ⟨S2, 4, none⟩ = some (.int .i64 1) := (by rw [cell_of_row _ _ 4 _ 172 _ hs5]; rfl); have d5 : w5.cell? ⟨S2, 5, none⟩ = some (.int .i64 1) := (by rw [cell_of_row _ _ 5 _ 172 _ hs5]; rfl); have HB5 := Lib.hid (HB3.out.trans (hb5.mono HB3.out.size)); clear hn5 hs5 hb5)
  go_quiet (fail)
  go_wp2
  go_ret
  exact ⟨by simp, HB5.out.os, HB5.out.tape, HB5.out.output, HB5.out.size, HB5.out.block⟩
end Go.Proofs.YtoakfninndkgaaaGreatDoor
