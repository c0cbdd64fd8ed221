/- Walks: ArenaNone. -/
import Derived.Test.YtoakfninndkgaaaGreatDoorNt
import Derived.RangeFuncFrom
import Derived.RangeFuncNested
import Derived.RangeFuncBound
import Derived.RangeFuncCalls
import Derived.RangeFuncLeaves
import Derived.Shelf.Abstract
import Derived.Shelf.RegionOpen
import Derived.WalkKit
import Derived.OwnWalkIn
import Derived.TacticsInMore
import Derived.LoopNIn
import Derived.LoopIn
set_option linter.unusedVariables false
namespace Go.Proofs.YtoakfninndkgaaaGreatDoor
open Go.RowKit Go.Shelf
set_option maxRecDepth 20000 in
theorem basic_0 (w : World) : Calls Tryz.prog 26 #[.int .i64 0] w fun e w' => ∃ g, e = .returned (.agg #[.slice (some ⟨g, 0, none⟩) 1 1, .int .i64 0]) ∧ Below w.heap.size w w' := by
  have HB : Hid (Below w.heap.size w ((w.alloc (.cells #[.slice none 0 0, .int .i64 0] 24)).alloc (.cells #[.int .i64 0, .slice none 0 0, .slice none 0 0, .bool false] 38))) := Lib.hid (((Below.refl _ _).alloc (Nat.le_refl _) _).alloc (by simp) _)
  have HY : Hid (((w.alloc (.cells #[.slice none 0 0, .int .i64 0] 24)).alloc (.cells #[.int .i64 0, .slice none 0 0, .slice none 0 0, .bool false] 38)).heap[w.heap.size]? = some (.cells #[.slice none 0 0, .int .i64 0] 24 (0, 0))) := Lib.hid (by rw [Below.heap_alloc _ _ _ (by simp)]; exact heap_alloc_new w _)
  go_enter Tryz.func26, Tryz.ntmps26
  go_wp2_with (refine wpList_store_row rfl 24 _ _ rfl w.heap.size _ rfl rfl 24 _ HY.out (by kernel_rfl) rfl (by simp [Value.oneCell']) ?_)
  (try simp only [Exit.inBlock, Exit.then])
  exact bodyPost_ret (v := .agg #[.slice (some ⟨w.heap.size + 1, 0, none⟩) 1 1, .int .i64 0]) (results_cell_row (P := Tryz.prog) rfl _ _ w.heap.size 24 _ (0, 0) _ rfl (setRow_heap _ _ _ _ _ _ HY.out) Tryz.underlying24 rfl (by kernel_rfl)) rfl ⟨_, rfl, HB.out.os, HB.out.tape, HB.out.output, by rw [setRow_size]; exact HB.out.size, fun k hk => (setRow_other _ _ _ _ (by omega)).trans (HB.out.block k hk)⟩
/-- the iterator over an arena that isn't there hands nothing. -/
theorem parts_stops (B : Nat) (w : World) (n0 : Nat) (hB : w.cell? ⟨B, 0, none⟩ = some (.pointer none)) (hlt : B < w.heap.size) :
    SeqStopsK Fence.wide 2 Tryz.prog 43 #[.pointer (some ⟨B, 0, none⟩)] (fun x : Empty => x.elim) (Below n0) (fun xs => xs = []) (fun _ => False) 0 w := fun l J Jx W hW hJ hJx hY h0 => by
  have a0 : W.cell? ⟨B, 0, none⟩ = some (.pointer none) := by rw [← hB]; exact hW.cell (p := ⟨B, 0, none⟩) hlt
  have HJ := Lib.hid h0
  clear hJ hJx hY h0 hW
  refine callsIn_wide.2 ?_
  go_enter Tryz.func43, Tryz.ntmps43
  go_upto_region 1 with (go_at_call 12; refine (len_nil _).mono ?_; rintro e w2 ⟨rfl, rfl⟩)
  clear a0
  go_loop [8] (fun s8 => s8 = .int .i64 0) (fun _ => 0)
  case atStart => rfl
  case round =>
    subst hrel
    go_wp2
    go_end0
    first
      | exact ⟨⟨_, rfl⟩, HJ.out⟩
      | exact ⟨⟨_, rfl⟩, Or.inl ⟨_, rfl, HJ.out⟩⟩
      | exact HJ.out
      | (trace_state; fail)
set_option maxRecDepth 20000 in
set_option maxHeartbeats 4000000 in
theorem none_true (w : World) (i j : Int) (b : Bool) : Calls Tryz.prog 5 #[.int .i64 i, .int .i64 j, .bool b] w fun e w' => e = .returned (.bool true) ∧ Below w.heap.size w w' := by
  refine callsIn_wide.1 (?_ : CallsIn Fence.wide 3 _ _ _ _ _)
  refine callsIn_of_wp_marks Tryz.func5 rfl trivial ?_ rfl
  simp only [Tryz.ntmps5, List.size_toArray, List.length_cons, List.length_nil, Nat.reduceAdd, Nat.reduceSub, Array.replicate_succ, Array.replicate_zero, List.push_toArray, List.append_toArray, List.nil_append, List.cons_append]
  refine wpIn_wide.2 ?_
  go_upto_region 10 with (first | (go_at_call 7; refine (lives12 _).mono ?_; rintro e w1 ⟨rfl, hb1⟩; have HB1 := Lib.hid hb1; clear hb1) | (go_at_call 11; refine (var_nil _ _).mono ?_; rintro e wx ⟨rfl, rfl⟩) | (go_at_call 25; refine (head_nil _ _ _ _ _ _ _ _ _).mono ?_; rintro e w2 ⟨rfl, hb2⟩; have HB2 := Lib.hid hb2; clear hb2) | (go_at_call 26; refine (basic_0 _).mono ?_; rintro e w3 ⟨g3, rfl, hb3⟩; have HB3 := Lib.hid hb3; clear hb3) | (go_at_call 13; refine (graph_nil _ _ _ _ _).mono ?_; rintro e w4 ⟨rfl, hb4⟩; have HB4 := Lib.hid hb4; clear hb4) | (go_at_call 27; refine (bound_nil _ _ _ _).mono ?_; rintro e wx ⟨rfl, rfl⟩) | (go_at_call 14; refine (at_nil _ _).mono ?_; rintro e w5 ⟨rfl, hb5⟩; have HB5 := Lib.hid hb5; clear hb5))
  have HC : Hid (((w5.alloc (.cells #[.int .i64 0, .slice none 0 0, .slice none 0 0, .bool false] 38)).alloc (.cells #[.int .i64 0] 3)).heap[w5.heap.size + 1]? = some (.cells #[.int .i64 0] 3 (0, 0))) := Lib.hid (by
    have := heap_alloc_new (w5.alloc (.cells #[.int .i64 0, .slice none 0 0, .slice none 0 0, .bool false] 38)) (.cells #[.int .i64 0] 3)
    simpa using this)
  have hb5 : Below w.heap.size w w5 := (((HB1.out.trans (HB2.out.mono HB1.out.size)).trans (HB3.out.mono (Nat.le_trans HB1.out.size HB2.out.size))).trans (HB4.out.mono (Nat.le_trans HB1.out.size (Nat.le_trans HB2.out.size HB3.out.size)))).trans (HB5.out.mono (Nat.le_trans HB1.out.size (Nat.le_trans HB2.out.size (Nat.le_trans HB3.out.size HB4.out.size))))
  have HB6 : Hid (Below w.heap.size w ((w5.alloc (.cells #[.int .i64 0, .slice none 0 0, .slice none 0 0, .bool false] 38)).alloc (.cells #[.int .i64 0] 3))) := Lib.hid ((hb5.alloc hb5.size _).alloc (by have := hb5.size; simp; omega) _)
  clear HB1 HB2 HB3 HB4 HB5 hb5
  generalize ((w5.alloc (.cells #[.int .i64 0, .slice none 0 0, .slice none 0 0, .bool false] 38)).alloc (.cells #[.int .i64 0] 3)) = w6 at *
  generalize w5.heap.size + 1 = C at *
  have HCL : Hid (C < w6.heap.size) := Lib.hid (Array.getElem?_eq_some_iff.1 HC.out).1
  go_wp2_with (go_at_call 19; refine (parts_nil _).mono ?_; rintro e w7 ⟨rfl, rfl⟩)
  refine (wpIn_wide (n := 3)).1 ?_
  have hb7 : (w6.alloc (.cells #[.pointer none] 27)).heap[w6.heap.size]? = some (.cells #[.pointer none] 27 (0, 0)) := heap_alloc_new w6 _
  have hc7 : (w6.alloc (.cells #[.pointer none] 27)).cell? ⟨C, 0, none⟩ = some (.int .i64 0) := (by rw [cell_of_row _ _ 0 _ 3 _ ((Below.heap_alloc _ _ _ HCL.out).trans HC.out)]; rfl)
  have hB7 : Below w.heap.size w (w6.alloc (.cells #[.pointer none] 27)) := HB6.out.alloc HB6.out.size _
  have hS7 : w.heap.size ≤ (w6.alloc (.cells #[.pointer none] 27)).heap.size := hB7.size
  refine wpIn_rangeFunc_ownF rfl (by decide) (gf := 43) (lb := #[.pointer (some ⟨w6.heap.size, 0, none⟩)]) rfl trivial (enters_of Tryz.func43 (by kernel_rfl) rfl)
    (parts_stops w6.heap.size (w6.alloc (.cells #[.pointer none] 27)) w.heap.size (by rw [cell_of_row _ _ 0 _ 27 _ hb7]; rfl) (by simp)) belowK_t (belowK_b hS7) (Below.refl _ _) (fun x => x.elim)
    (fun pre W => W.cell? ⟨C, 0, none⟩ = some (.int .i64 0) ∧ Below w.heap.size w W)
    (fun _ _ _ => False)
    (OwnFrom.and (Own.from (fun s A B row hs hg hr => cell_kept hs hg hr) _) (ownFrom_below (Nat.le_refl _) hS7))
    (fun _ _ _ _ _ hs _ _ => hs)
    ⟨hc7, hB7⟩
    (fun x => x.elim) ?assign ?body ?done ?stop
  case assign =>
    intro l x
    exact x.elim
  case body =>
    intro l pre x
    exact x.elim
  case stop =>
    rintro D c pre W _ _ h _
    exact h.elim
  case done =>
    rintro D xs W hD rfl ⟨hc, hB⟩ hK
    have HBW := Lib.hid hB
    have HKW := Lib.hid hK
    have HDL : Hid (w.heap.size ≤ D) := Lib.hid (Nat.le_trans hS7 hD)
    clear hb7 hc7 hB7 hS7 hD hB hK
    have hd : Below W.heap.size W W.drew := (Below.refl _ _).drew
    have HDW := Lib.hid hd
    have HKD := Lib.hid ((hd.block D (Array.getElem?_eq_some_iff.1 HKW.out).1).trans HKW.out)
    clear hd
    go_wp2
    go_region_held3 (fun w' => w'.cell? ⟨C, 0, none⟩ = some (.int .i64 0)) (first | exact hc)
      (first
        | (go_at_call 21; refine (isvar_nil _ _).mono ?_; rintro e wx ⟨rfl, rfl⟩)
        | (go_at_call 15; refine (level_nil _ _).mono ?_; rintro e wx ⟨rfl, rfl⟩)
        | (go_at_call 12; refine (len_nil _).mono ?_; rintro e wx ⟨rfl, rfl⟩)
        | (go_at_call 23; refine (low_nil _ _).mono ?_; rintro e wx ⟨rfl, rfl⟩)
        | (go_at_call 24; refine (high_nil _ _).mono ?_; rintro e wx ⟨rfl, rfl⟩)
        | fail)
    all_goals
      go_wp2
      refine ⟨by simp, .inl ⟨_, _, rfl, run_takeDeferred HKD.out, ?_⟩⟩
      exact ⟨_, results_tmp rfl _ _ _, rfl, (HBW.out.trans (HDW.out.mono HBW.out.size)).trans (belowK_b (w := w) (Nat.le_refl _) W.drew D _ _ HDL.out HKD.out rfl rfl)⟩
end Go.Proofs.YtoakfninndkgaaaGreatDoor
