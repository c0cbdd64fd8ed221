/- Walks: Made of none, or of too many. -/
import Derived.Test.YtoakfninndkgaaaGreatDoorXUf
set_option linter.unusedVariables false
namespace Go.Proofs.YtoakfninndkgaaaGreatDoor.Val
open Go.RowKit
set_option maxRecDepth 20000 in
theorem made_long (w : World) (a : Option Addr) (n c : Nat) (h20 : 20 < n) : Calls Tryz.prog 28 #[.slice a n c] w (MadePost w) := by
  have hn2 : (20 : Int) < n := by omega
  have hn0 : ((n : Int) == 0) = false := by simp; omega
  have HRB : Hid ((w.alloc (.cells #[.int .i64 0, .int .i64 0, .int .u64 0, .string ⟨#[]⟩, .slice none 0 0, .slice none 0 0, .pointer none, .int .i64 0] 70)).heap[w.heap.size]? = some (.cells #[.int .i64 0, .int .i64 0, .int .u64 0, .string ⟨#[]⟩, .slice none 0 0, .slice none 0 0, .pointer none, .int .i64 0] 70 (0, 0))) := Lib.hid (heap_alloc_new w _)
  have HBX : Hid (Below w.heap.size w (w.alloc (.cells #[.int .i64 0, .int .i64 0, .int .u64 0, .string ⟨#[]⟩, .slice none 0 0, .slice none 0 0, .pointer none, .int .i64 0] 70))) := Lib.hid ((Below.refl _ _).alloc (Nat.le_refl _) _)
  go_enter Tryz.func28, Tryz.ntmps28
  go_upto_region 1 with (fail)
  generalize (w.alloc (.cells #[.int .i64 0, .int .i64 0, .int .u64 0, .string ⟨#[]⟩, .slice none 0 0, .slice none 0 0, .pointer none, .int .i64 0] 70)) = w3 at *
  go_wp2_with (refine wpList_store_row rfl 70 _ _ rfl w.heap.size #[.int .i64 0, .int .i64 0, .int .u64 0, .string ⟨#[]⟩, .slice none 0 0, .slice none 0 0, .pointer none, .int .i64 0] rfl rfl 70 _ HRB.out (by kernel_rfl) rfl (by simp [Value.oneCell']) ?_)
  (try simp only [Exit.inBlock, Exit.then])
  exact bodyPost_ret (v := .tuple #[.agg #[.int .i64 0, .int .i64 0, .int .u64 0, .string ⟨#[]⟩, .slice none 0 0, .slice none 0 0, .pointer none, .int .i64 0], .bool false]) (results_6 (fn := Tryz.f28) (p := 2) (u := 3) rfl _ _ w.heap.size #[.int .i64 0, .int .i64 0, .int .u64 0, .string ⟨#[]⟩, .slice none 0 0, .slice none 0 0, .pointer none, .int .i64 0] rfl (setRow_heap _ _ _ _ _ _ HRB.out) rfl) rfl ⟨keep_set HBX.out (Nat.le_refl _), Or.inl rfl⟩
set_option maxRecDepth 20000 in
theorem made_zero (w : World) (a : Option Addr) (n c : Nat) (h0 : n = 0) : Calls Tryz.prog 28 #[.slice a n c] w (MadePost w) := by
  have hn0 : ((n : Int) == 0) = true := by simp [h0]
  clear h0
  have HRB : Hid ((w.alloc (.cells #[.int .i64 0, .int .i64 0, .int .u64 0, .string ⟨#[]⟩, .slice none 0 0, .slice none 0 0, .pointer none, .int .i64 0] 70)).heap[w.heap.size]? = some (.cells #[.int .i64 0, .int .i64 0, .int .u64 0, .string ⟨#[]⟩, .slice none 0 0, .slice none 0 0, .pointer none, .int .i64 0] 70 (0, 0))) := Lib.hid (heap_alloc_new w _)
  have HBX : Hid (Below w.heap.size w (w.alloc (.cells #[.int .i64 0, .int .i64 0, .int .u64 0, .string ⟨#[]⟩, .slice none 0 0, .slice none 0 0, .pointer none, .int .i64 0] 70))) := Lib.hid ((Below.refl _ _).alloc (Nat.le_refl _) _)
  go_enter Tryz.func28, Tryz.ntmps28
  go_upto_region 1 with (fail)
  generalize (w.alloc (.cells #[.int .i64 0, .int .i64 0, .int .u64 0, .string ⟨#[]⟩, .slice none 0 0, .slice none 0 0, .pointer none, .int .i64 0] 70)) = w3 at *
  go_wp2_with (refine wpList_store_row rfl 70 _ _ rfl w.heap.size #[.int .i64 0, .int .i64 0, .int .u64 0, .string ⟨#[]⟩, .slice none 0 0, .slice none 0 0, .pointer none, .int .i64 0] rfl rfl 70 _ HRB.out (by kernel_rfl) rfl (by simp [Value.oneCell']) ?_)
  (try simp only [Exit.inBlock, Exit.then])
  exact bodyPost_ret (v := .tuple #[.agg #[.int .i64 0, .int .i64 0, .int .u64 0, .string ⟨#[]⟩, .slice none 0 0, .slice none 0 0, .pointer none, .int .i64 0], .bool false]) (results_6 (fn := Tryz.f28) (p := 2) (u := 3) rfl _ _ w.heap.size #[.int .i64 0, .int .i64 0, .int .u64 0, .string ⟨#[]⟩, .slice none 0 0, .slice none 0 0, .pointer none, .int .i64 0] rfl (setRow_heap _ _ _ _ _ _ HRB.out) rfl) rfl ⟨keep_set HBX.out (Nat.le_refl _), Or.inl rfl⟩
end Go.Proofs.YtoakfninndkgaaaGreatDoor.Val
