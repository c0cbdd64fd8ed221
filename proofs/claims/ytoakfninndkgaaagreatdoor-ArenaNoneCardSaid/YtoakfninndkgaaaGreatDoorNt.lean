/- Walks: an arena that isn't there. -/
import Derived.Test.YtoakfninndkgaaaGreatDoorNs
import Derived.Laws.ResultCell
set_option linter.unusedVariables false
namespace Go.Proofs.YtoakfninndkgaaaGreatDoor
open Go.RowKit
theorem cell_and_tmp {P : Program} {fn : Func} {p u : Tmp} {ty : TypeId} (h : fn.results = #[.cell p ty, .tmp u]) (tmps : Array Value) (w : World) (g : Nat) (t : TypeId) (cs : Array Value) (fr : Nat × Nat) (d : TypeDesc) (hp : tmps.getD p undef = .pointer (some ⟨g, 0, none⟩)) (hg : w.heap[g]? = some (.cells cs t fr)) (hu : P.underlying ty = some d) (hd : (match d with | .struct _ | .array _ _ => true | _ => false) = true) (hi : (P.info? ty).map (·.size) = some cs.size) :
    (results fn tmps).run P w = .ok (.tuple #[.agg cs, tmps.getD u undef]) w := by
  rw [results_cell_tmp h, hp]
  simp [asAddr, run_loadVar_row w g t ty cs fr d hg hu hd hi]
theorem var_nil (w : World) (lv : Int) : Calls Tryz.prog 11 #[.pointer none, .int .i64 lv] w fun e w' => e = .returned (.tuple #[.int .i64 0, .int .i64 1]) ∧ w' = w := by
  go_enter Tryz.func11, Tryz.ntmps11
  go_wp2
  go_ret2
  exact ⟨rfl, rfl⟩
theorem head_nil (w : World) (kd : Int) (na : Option Addr) (nn nc : Nat) (ka : Option Addr) (kn kc : Nat) (op : Bool) : Calls Tryz.prog 25 #[.pointer none, .agg #[.int .i64 kd, .slice na nn nc, .slice ka kn kc, .bool op]] w fun e w' => e = .returned (.tuple #[.int .i64 0, .int .i64 1]) ∧ Below w.heap.size w w' := by
  have HB : Hid (Below w.heap.size w (w.alloc (.cells #[.int .i64 kd, .slice na nn nc, .slice ka kn kc, .bool op] 38))) := Lib.hid ((Below.refl _ _).alloc (Nat.le_refl _) _)
  go_enter Tryz.func25, Tryz.ntmps25
  go_wp2
  go_ret2
  exact ⟨rfl, HB.out⟩
theorem graph_nil (w : World) (la : Option Addr) (ln lc : Nat) (r : Int) : Calls Tryz.prog 13 #[.pointer none, .agg #[.slice la ln lc, .int .i64 r]] w fun e w' => e = .returned (.tuple #[.int .i64 0, .int .i64 1]) ∧ Below w.heap.size w w' := by
  have HB : Hid (Below w.heap.size w (w.alloc (.cells #[.slice la ln lc, .int .i64 r] 24))) := Lib.hid ((Below.refl _ _).alloc (Nat.le_refl _) _)
  go_enter Tryz.func13, Tryz.ntmps13
  go_wp2
  go_ret2
  exact ⟨rfl, HB.out⟩
theorem isvar_nil (w : World) (i : Int) : Calls Tryz.prog 21 #[.pointer none, .int .i64 i] w fun e w' => e = .returned (.bool false) ∧ w' = w := by
  go_enter Tryz.func21, Tryz.ntmps21
  go_wp2_with (go_at_call 38; refine (there_nil _ _).mono ?_; rintro e w2 ⟨rfl, rfl⟩)
  go_ret
  exact ⟨rfl, rfl⟩
theorem bound_nil (w : World) (i j : Int) (b : Bool) : Calls Tryz.prog 27 #[.pointer none, .int .i64 i, .int .i64 j, .bool b] w fun e w' => e = .returned (.tuple #[.bool false, .int .i64 1]) ∧ w' = w := by
  go_enter Tryz.func27, Tryz.ntmps27
  go_wp2_with (go_at_call 21; refine (isvar_nil _ _).mono ?_; rintro e w2 ⟨rfl, rfl⟩)
  go_ret2
  exact ⟨rfl, rfl⟩
theorem level_nil (w : World) (i : Int) : Calls Tryz.prog 15 #[.pointer none, .int .i64 i] w fun e w' => e = .returned (.int .i64 0) ∧ w' = w := by
  go_enter Tryz.func15, Tryz.ntmps15
  go_wp2_with (go_at_call 38; refine (there_nil _ _).mono ?_; rintro e w2 ⟨rfl, rfl⟩)
  go_ret
  exact ⟨rfl, rfl⟩
theorem len_nil (w : World) : Calls Tryz.prog 12 #[.pointer none] w fun e w' => e = .returned (.int .i64 0) ∧ w' = w := by
  go_enter Tryz.func12, Tryz.ntmps12
  go_wp2
  go_ret
  exact ⟨rfl, rfl⟩
theorem low_nil (w : World) (i : Int) : Calls Tryz.prog 23 #[.pointer none, .int .i64 i] w fun e w' => e = .returned (.slice none 0 0) ∧ w' = w := by
  go_enter Tryz.func23, Tryz.ntmps23
  go_wp2_with (go_at_call 21; refine (isvar_nil _ _).mono ?_; rintro e w2 ⟨rfl, rfl⟩)
  go_ret
  exact ⟨rfl, rfl⟩
theorem high_nil (w : World) (i : Int) : Calls Tryz.prog 24 #[.pointer none, .int .i64 i] w fun e w' => e = .returned (.slice none 0 0) ∧ w' = w := by
  go_enter Tryz.func24, Tryz.ntmps24
  go_wp2_with (go_at_call 21; refine (isvar_nil _ _).mono ?_; rintro e w2 ⟨rfl, rfl⟩)
  go_ret
  exact ⟨rfl, rfl⟩
theorem parts_nil (w : World) : Calls Tryz.prog 19 #[.pointer none] w fun e w' => e = .returned (.func (Fn.func 43) #[] #[.pointer (some ⟨w.heap.size, 0, none⟩)]) ∧ w' = w.alloc (.cells #[.pointer none] 27) := by
  go_enter Tryz.func19, Tryz.ntmps19
  go_wp2
  go_ret
  exact ⟨rfl, rfl⟩
set_option maxRecDepth 20000 in
theorem at_nil (w : World) (i : Int) : Calls Tryz.prog 14 #[.pointer none, .int .i64 i] w fun e w' => e = .returned (.tuple #[.agg #[.int .i64 0, .slice none 0 0, .slice none 0 0, .bool false], .bool false]) ∧ Below w.heap.size w w' := by
  have HB : Hid (Below w.heap.size w (w.alloc (.cells #[.int .i64 0, .slice none 0 0, .slice none 0 0, .bool false] 38))) := Lib.hid ((Below.refl _ _).alloc (Nat.le_refl _) _)
  have HY : Hid ((w.alloc (.cells #[.int .i64 0, .slice none 0 0, .slice none 0 0, .bool false] 38)).heap[w.heap.size]? = some (.cells #[.int .i64 0, .slice none 0 0, .slice none 0 0, .bool false] 38 (0, 0))) := Lib.hid (heap_alloc_new w _)
  go_enter Tryz.func14, Tryz.ntmps14
  go_upto_region 2 with (go_at_call 38; refine (there_nil _ _).mono ?_; rintro e w2 ⟨rfl, rfl⟩)
  generalize (w.alloc (.cells #[.int .i64 0, .slice none 0 0, .slice none 0 0, .bool false] 38)) = w1 at *
  go_wp2_with (refine wpList_store_row rfl 38 _ _ rfl w.heap.size _ rfl rfl 38 _ HY.out (by kernel_rfl) rfl (by simp [Value.oneCell']) ?_)
  (try simp only [Exit.inBlock, Exit.then])
  exact bodyPost_ret (v := .tuple #[.agg #[.int .i64 0, .slice none 0 0, .slice none 0 0, .bool false], .bool false]) (by exact cell_and_tmp (p := 4) (u := 5) (ty := 38) rfl _ _ w.heap.size 38 #[.int .i64 0, .slice none 0 0, .slice none 0 0, .bool false] (0, 0) _ rfl (setRow_heap _ _ _ _ _ _ HY.out) Tryz.underlying38 rfl (by kernel_rfl)) rfl ⟨rfl, HB.out.os, HB.out.tape, HB.out.output, by rw [setRow_size]; exact HB.out.size, fun k hk => (setRow_other _ _ _ _ (by omega)).trans (HB.out.block k hk)⟩
end Go.Proofs.YtoakfninndkgaaaGreatDoor
