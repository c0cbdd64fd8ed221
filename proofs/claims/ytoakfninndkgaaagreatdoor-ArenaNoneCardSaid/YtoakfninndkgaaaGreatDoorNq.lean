/- Walks: arena.Var. -/
import Derived.Test.YtoakfninndkgaaaGreatDoorNp
set_option linter.unusedVariables false
namespace Go.Proofs.YtoakfninndkgaaaGreatDoor
open Go.RowKit
theorem Tryz.info83 : (Tryz.prog.info? 83).map (fun i => (i.zero, i.size, i.bytes)) = some (some (.agg #[.int .i64 0, .slice none 0 0, .slice none 0 0, .bool false, .bool false, .int .i64 0, .slice none 0 0, .slice none 0 0, .map none]), 9, 136) := by kernel_rfl
/-- what an act on the arena at A leaves alone. -/
structure Acts (w w' : World) (A : Nat) (own : Option Nat) : Prop where
  os : w'.os = w.os
  tape : w'.tape = w.tape
  output : w'.output = w.output
  size : w.heap.size ≤ w'.heap.size
  block : ∀ b, b < w.heap.size → b ≠ A → own ≠ some b → w'.heap[b]? = w.heap[b]?
theorem ArenaAt.acts {w w2 w5 : World} {A base : Nat} {la : Option Addr} {ln lc : Nat} {most : Int} {ps ns : List Value} {wb : World} {a2 : Option Addr} {c2 : Nat} (h : ArenaAt w2 A base la ln lc most ps) (hal : Below w2.heap.size w2 wb) (hb : Below w.heap.size w w2) (hle : base ≤ w.heap.size)
    (hown : w5.ownsRow base 83 9 (.slice a2 (ln + 1) c2) (ln + 1) (ps ++ ns)) (hg : wb.grownBy w5 (Value.slice la ln lc).ownBlock) : ArenaAt (w5.setCell ⟨A, 0, none⟩ (.slice a2 (ln + 1) c2)) A base a2 (ln + 1) c2 most (ps ++ ns) ∧ Acts w (w5.setCell ⟨A, 0, none⟩ (.slice a2 (ln + 1) c2)) A (Value.slice la ln lc).ownBlock := by
  have hs := h.le
  have hl := h.lt
  have hbs := hb.size
  have hlo : ∀ b, b < w2.heap.size → (Value.slice la ln lc).ownBlock ≠ some b → w5.heap[b]? = w2.heap[b]? := fun b hb' e => by
    rw [hg.block b (by have := hal.size; omega) (fun e' => e e'.symm)]
    exact hal.block b hb'
  have hA5 : w5.heap[A]? = some (.cells #[.slice la ln lc, .int .i64 most] 79 (0, 0)) := (hlo A (by omega) (fun e => by have := ownsRow_ge h.own A e; omega)).trans h.box
  have hsz : w2.heap.size ≤ w5.heap.size := Nat.le_trans hal.size hg.size
  refine ⟨⟨?_, ownsRow_setCell_below hown h.lt _, hl, by simp; omega⟩, ⟨?_, ?_, ?_, by simp; omega, fun b hb1 h1 h2 => ?_⟩⟩
  · rw [heap_setCell_same _ A 0 _ 79 _ hA5]
    rfl
  · exact hg.os.trans (hal.os.trans hb.os)
  · exact hg.tape.trans (hal.tape.trans hb.tape)
  · exact hg.output.trans (hal.output.trans hb.output)
  · rw [Below.heap_setCell _ _ _ _ h1, hlo b (by omega) h2]
    exact hb.block b hb1
theorem ArenaAt.box5 {w2 w5 : World} {A base : Nat} {la : Option Addr} {ln lc : Nat} {most : Int} {ps : List Value} {o o2 : Obj} (h : ArenaAt w2 A base la ln lc most ps) (hg : ((w2.alloc o).alloc o2).grownBy w5 (Value.slice la ln lc).ownBlock) : w5.heap[A]? = some (.cells #[.slice la ln lc, .int .i64 most] 79 (0, 0)) := by
  have hs := h.le
  have hl := h.lt
  rw [hg.block A (by simp; omega) (fun e => by have := ownsRow_ge h.own A e.symm; omega), Below.heap_alloc _ _ _ (by simp; omega), Below.heap_alloc _ _ _ (by omega)]
  exact h.box
theorem news_two (w : World) (o : Obj) (cs : Array Value) (t : TypeId) : ∀ (j : Nat) (u : Value), cs.toList[j]? = some u → ((w.alloc o).alloc (.cells cs t)).cell? ((⟨w.heap.size + 1, 0, none⟩ : Addr).add j) = some u := news_of (by have := heap_alloc_new (w.alloc o) (.cells cs t); simpa using this)
set_option maxRecDepth 20000 in
set_option maxHeartbeats 4000000 in
theorem var_ok (w : World) (A base : Nat) (la : Option Addr) (ln lc : Nat) (most lv : Int) (ps : List Value) (hA : ArenaAt w A base la ln lc most ps) (hlv : 0 ≤ lv) (hm : (ln : Int) + 1 ≤ most) (hmm : most ≤ 1048576) :
    Calls Tryz.prog 11 #[.pointer (some ⟨A, 0, none⟩), .int .i64 lv] w fun e w' => ∃ la' lc' M, e = .returned (.tuple #[.int .i64 (ln : Int), .int .i64 0]) ∧ ArenaAt w' A base la' (ln + 1) lc' most (ps ++ [.int .i64 0, .slice none 0 0, .slice none 0 0, .bool false, .bool true, .int .i64 lv, .slice none 0 0, .slice none 0 0, .map (some M)]) ∧ w'.heap[M]? = some (.map #[] 0) ∧ w.heap.size ≤ M ∧ Acts w w' A (Value.slice la ln lc).ownBlock := by
  have HA := Lib.hid hA
  have HLE0 : Hid (base ≤ w.heap.size) := Lib.hid hA.le
  have h3 : ¬ lv < 0 := by omega
  have hln : (ln : Int) + 1 ≤ 1048576 := by omega
  have HR := Lib.hid (room_any w A la ln lc most 1 hA.box (by simp only [maxLen]; omega) (by omega))
  rw [if_neg (show ¬ most < (ln : Int) + 1 by omega)] at HR
  obtain ⟨i0, hi, hz0, hz1, hz2⟩ := info_parts Tryz.info83
  have HI := Lib.hid hi
  have HI0 := Lib.hid hz0
  have HI1 := Lib.hid hz1
  have HI2 := Lib.hid hz2
  have hw1 : IntKind.i64.wrap ((ln : Int) + 1 - 1) = (ln : Int) := by rw [IntKind.wrap_i64]; omega
  clear hA hi hz0 hz1 hz2
  go_enter Tryz.func11, Tryz.ntmps11
  go_upto_region 6 with (go_at_call 35; (with_reducible refine HR.out.mono ?_); rintro e w2 ⟨rfl, hb2⟩)
  have HB2 := Lib.hid hb2
  have HA2 := Lib.hid (HA.out.on hb2)
  clear hb2
  have a0 : w2.cell? ⟨A, 0, none⟩ = some (.slice la ln lc) := (by rw [cell_of_row _ _ 0 _ 79 _ HA2.out.box]; rfl)
  have HONE : Hid (∀ m : Nat, ∀ u ∈ ([.int .i64 0, .slice none 0 0, .slice none 0 0, .bool false, .bool true, .int .i64 lv, .slice none 0 0, .slice none 0 0, .map (some m)] : List Value), u.oneCell' = true) := Lib.hid (by intro m u hu; simp only [List.mem_cons, List.not_mem_nil, or_false] at hu; rcases hu with rfl | rfl | rfl | rfl | rfl | rfl | rfl | rfl | rfl <;> rfl)
  have HLE : Hid (base ≤ ((w2.alloc (.map #[] 0)).alloc (.cells #[.int .i64 0, .slice none 0 0, .slice none 0 0, .bool false, .bool true, .int .i64 lv, .slice none 0 0, .slice none 0 0, .map (some w2.heap.size)] 83)).heap.size) := Lib.hid (by have := HA2.out.le; simp only [World.size_alloc]; omega)
  have hmk : (Instr.makeMap 81 none).run Tryz.prog w2 = .ok (.map (some w2.heap.size)) (w2.alloc (.map #[] 0)) := run_makeMap _ _
  go_upto_region 7 with (first | (refine wpList_buildTo rfl 83 _ rfl (some 25) rfl #[.int .i64 0, .slice none 0 0, .slice none 0 0, .bool false, .bool true, .int .i64 lv, .slice none 0 0, .slice none 0 0, .map (some w2.heap.size)] (by first | kernel_rfl | rfl) ?_) | (at_builtin; refine wpList_append_own _ rfl _ _ 77 rfl base 83 i0 (.agg #[.int .i64 0, .slice none 0 0, .slice none 0 0, .bool false, .bool false, .int .i64 0, .slice none 0 0, .slice none 0 0, .map none]) 9 136 Tryz.underlying77 HI.out HI0.out HI1.out HI2.out rfl (by decide) _ ln _ rfl ((HA2.out.own.alloc _).alloc _) ⟨w2.heap.size + 1, 0, none⟩ 1 1 [.int .i64 0, .slice none 0 0, .slice none 0 0, .bool false, .bool true, .int .i64 lv, .slice none 0 0, .slice none 0 0, .map (some w2.heap.size)] rfl rfl (news_two _ _ _ _) (HONE.out _) (by unfold maxLen; omega) (by omega) HLE.out ?_; intro v' w5 hown hgr hnil; obtain ⟨a2, c2, rfl⟩ := own_slice hown; have hA5 := HA2.out.box5 hgr; have a5 : w5.cell? ⟨A, 0, none⟩ = some (.slice la ln lc) := (by rw [cell_of_row _ _ 0 _ 79 _ hA5]; rfl); have f5 : w5.frozen? ⟨A, 0, none⟩ = false := frozen_of_row _ _ 0 _ 79 hA5; clear hnil hA5; have HOW := Lib.hid hown; have HGR := Lib.hid hgr; clear hown hgr))
  have hfin := HA2.out.acts (wb := (w2.alloc (.map #[] 0)).alloc (.cells #[.int .i64 0, .slice none 0 0, .slice none 0 0, .bool false, .bool true, .int .i64 lv, .slice none 0 0, .slice none 0 0, .map (some w2.heap.size)] 83)) (((Below.refl _ _).alloc (Nat.le_refl _) _).alloc (by simp) _) HB2.out HLE0.out HOW.out HGR.out
  have hM : (w5.setCell ⟨A, 0, none⟩ (.slice a2 (ln + 1) c2)).heap[w2.heap.size]? = some (.map #[] 0) := by
    have hl := HA2.out.lt
    have hs := HA2.out.le
    rw [Below.heap_setCell _ _ _ _ (by simp; omega), HGR.out.block _ (by simp; omega) (fun e => by have := (HA2.out.own.lt _ e.symm).2; omega), Below.heap_alloc _ _ _ (by simp)]
    exact heap_alloc_new w2 _
  have HFIN := Lib.hid hfin
  have HM := Lib.hid hM
  have HSZ : Hid (w.heap.size ≤ w2.heap.size) := Lib.hid HB2.out.size
  clear hfin hM HGR HOW a5 f5 a0 hmk
  generalize (w5.setCell ⟨A, 0, none⟩ (.slice a2 (ln + 1) c2)) = w6 at *
  have a6 : w6.cell? ⟨A, 0, none⟩ = some (.slice a2 (ln + 1) c2) := (by rw [cell_of_row _ _ 0 _ 79 _ HFIN.out.1.box]; rfl)
  go_wp2
  go_ret2
  exact ⟨a2, c2, _, by simp [IntKind.wrap_i64] <;> omega, HFIN.out.1, HM.out, HSZ.out, HFIN.out.2⟩
end Go.Proofs.YtoakfninndkgaaaGreatDoor
