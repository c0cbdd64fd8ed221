/- Walks: the clone of a head. -/
import Derived.Test.YtoakfninndkgaaaGreatDoorNn
import Derived.Deep.RegionLaw
import Derived.Deep.AppendLies
set_option linter.unusedVariables false
namespace Go.Proofs.YtoakfninndkgaaaGreatDoor
open Go.RowKit
def ClonePost (w : World) (kd : Int) (nn : Nat) (NS : List ByteArray) (kn : Nat) (KS : List Int) (op : Bool) (e : Ending) (w' : World) : Prop :=
  ∃ a' c' b' d', e = .returned (.agg #[.int .i64 kd, .slice a' nn c', .slice b' kn d', .bool op]) ∧ NamesAt w' a' nn NS ∧ IntsAt w' b' kn KS ∧ (a' = none → c' = 0) ∧ (b' = none → d' = 0) ∧ (∀ ad, a' = some ad → w.heap.size ≤ ad.block) ∧ (∀ ad, b' = some ad → w.heap.size ≤ ad.block) ∧ Below w.heap.size w w'
set_option maxRecDepth 20000 in
set_option maxHeartbeats 4000000 in
theorem clone_head (w : World) (kd : Int) (na : Option Addr) (nn nc : Nat) (NS : List ByteArray) (ka : Option Addr) (kn kc : Nat) (KS : List Int) (op : Bool) (hN : NamesAt w na nn NS) (hK : IntsAt w ka kn KS) (hn : nn ≤ 100000) (hk : kn ≤ 100000) (hnc : na = none → nc = 0) (hkc : ka = none → kc = 0) :
    Calls Tryz.prog 37 #[.agg #[.int .i64 kd, .slice na nn nc, .slice ka kn kc, .bool op]] w (ClonePost w kd nn NS kn KS op) := by
  have HN := Lib.hid hN
  have HK := Lib.hid hK
  have HC55 : Hid (∀ w', Below w.heap.size w w' → Calls Tryz.prog 55 #[.slice na nn nc] w' fun e w'' => ∃ a' c', e = .returned (.slice a' nn c') ∧ NamesAt w'' a' nn NS ∧ (a' = none → c' = 0) ∧ (∀ ad, a' = some ad → w'.heap.size ≤ ad.block) ∧ Below w'.heap.size w' w'') := Lib.hid (fun w' hb => clone_55 w' na nn nc NS (HN.out.on hb) hnc hn)
  have HC45 : Hid (∀ w', Below w.heap.size w w' → Calls Tryz.prog 45 #[.slice ka kn kc] w' fun e w'' => ∃ a' c', e = .returned (.slice a' kn c') ∧ IntsAt w'' a' kn KS ∧ (a' = none → c' = 0) ∧ (∀ ad, a' = some ad → w'.heap.size ≤ ad.block) ∧ Below w'.heap.size w' w'') := Lib.hid (fun w' hb => clone_45 w' ka kn kc KS (HK.out.on hb) hkc hk)
  have HB : Hid (Below w.heap.size w ((w.alloc (.cells #[.int .i64 kd, .slice na nn nc, .slice ka kn kc, .bool op] 38)).alloc (.cells #[.int .i64 0, .slice none 0 0, .slice none 0 0, .bool false] 38))) := Lib.hid (((Below.refl _ _).alloc (Nat.le_refl _) _).alloc (by simp) _)
  have HX : Hid (((w.alloc (.cells #[.int .i64 kd, .slice na nn nc, .slice ka kn kc, .bool op] 38)).alloc (.cells #[.int .i64 0, .slice none 0 0, .slice none 0 0, .bool false] 38)).heap[w.heap.size]? = some (.cells #[.int .i64 kd, .slice na nn nc, .slice ka kn kc, .bool op] 38 (0, 0))) := Lib.hid (by rw [Below.heap_alloc _ _ _ (by simp)]; exact heap_alloc_new w _)
  have HY : Hid (((w.alloc (.cells #[.int .i64 kd, .slice na nn nc, .slice ka kn kc, .bool op] 38)).alloc (.cells #[.int .i64 0, .slice none 0 0, .slice none 0 0, .bool false] 38)).heap[w.heap.size + 1]? = some (.cells #[.int .i64 0, .slice none 0 0, .slice none 0 0, .bool false] 38 (0, 0))) := Lib.hid (by
    have := heap_alloc_new (w.alloc (.cells #[.int .i64 kd, .slice na nn nc, .slice ka kn kc, .bool op] 38)) (.cells #[.int .i64 0, .slice none 0 0, .slice none 0 0, .bool false] 38)
    simpa using this)
  clear hN hK hnc hkc
  go_enter Tryz.func37, Tryz.ntmps37
  go_upto_region 1 with (fail)
  generalize ((w.alloc (.cells #[.int .i64 kd, .slice na nn nc, .slice ka kn kc, .bool op] 38)).alloc (.cells #[.int .i64 0, .slice none 0 0, .slice none 0 0, .bool false] 38)) = w1 at *
  have a1 : w1.cell? ⟨w.heap.size, 1, none⟩ = some (.slice na nn nc) := (by rw [cell_of_row _ _ 1 _ 38 _ HX.out]; rfl)
  have a2 : w1.cell? ⟨w.heap.size, 2, none⟩ = some (.slice ka kn kc) := (by rw [cell_of_row _ _ 2 _ 38 _ HX.out]; rfl)
  have HS1 : Hid (w.heap.size + 1 < w1.heap.size) := Lib.hid (Array.getElem?_eq_some_iff.1 HY.out).1
  go_region_law
    (first
      | (go_simp; go_at_call 55; (with_reducible refine (HC55.out _ (by exact HB.out.drew)).mono ?_); rintro e w5 ⟨a5, c5, rfl, hn5, hz5, hg5, hb5⟩; have HN5 := Lib.hid hn5; have HZ5 := Lib.hid hz5; have HG5 : Hid (∀ ad, a5 = some ad → w1.heap.size ≤ ad.block) := Lib.hid hg5; have HB5 := Lib.hid (show Below w1.heap.size w1 w5 from (Below.refl _ _).drew.trans hb5); have HX5 := Lib.hid ((HB5.out.block w.heap.size (by have := HS1.out; omega)).trans HX.out); have d1 : w5.cell? ⟨w.heap.size, 1, none⟩ = some (.slice na nn nc) := (by rw [cell_of_row _ _ 1 _ 38 _ HX5.out]; rfl); have d2 : w5.cell? ⟨w.heap.size, 2, none⟩ = some (.slice ka kn kc) := (by rw [cell_of_row _ _ 2 _ 38 _ HX5.out]; rfl); clear hn5 hz5 hg5 hb5)
      | (go_simp; go_at_call 45; (with_reducible refine (HC45.out _ (by exact HB.out.trans (HB5.out.mono HB.out.size))).mono ?_); rintro e w6 ⟨b6, c6, rfl, hk6, hz6, hg6, hb6⟩; have HK6 := Lib.hid hk6; have HZ6 := Lib.hid hz6; have HG6 : Hid (∀ ad, b6 = some ad → w1.heap.size ≤ ad.block) := Lib.hid (fun ad e => Nat.le_trans HB5.out.size (hg6 ad e)); have HN6 := Lib.hid (HN5.out.on hb6); have HB6 := Lib.hid (show Below w1.heap.size w1 w6 from HB5.out.trans (hb6.mono HB5.out.size)); have HX6 := Lib.hid ((HB6.out.block w.heap.size (by have := HS1.out; omega)).trans HX.out); have e1 : w6.cell? ⟨w.heap.size, 1, none⟩ = some (.slice na nn nc) := (by rw [cell_of_row _ _ 1 _ 38 _ HX6.out]; rfl); have e2 : w6.cell? ⟨w.heap.size, 2, none⟩ = some (.slice ka kn kc) := (by rw [cell_of_row _ _ 2 _ 38 _ HX6.out]; rfl); have e0 : w6.cell? ⟨w.heap.size, 0, none⟩ = some (.int .i64 kd) := (by rw [cell_of_row _ _ 0 _ 38 _ HX6.out]; rfl); have e3 : w6.cell? ⟨w.heap.size, 3, none⟩ = some (.bool op) := (by rw [cell_of_row _ _ 3 _ 38 _ HX6.out]; rfl); have HY6 := Lib.hid ((HB6.out.block (w.heap.size + 1) HS1.out).trans HY.out); have f1 : w6.frozen? ⟨w.heap.size, 1, none⟩ = false := frozen_of_row _ _ 1 _ 38 HX6.out; have f2 : w6.frozen? ⟨w.heap.size, 2, none⟩ = false := frozen_of_row _ _ 2 _ 38 HX6.out; have l6 : w.heap.size < w6.heap.size := (Array.getElem?_eq_some_iff.1 HX6.out).1; clear hk6 hz6 hg6 hb6)
      | fail)
  all_goals
    go_wp2_with (refine wpList_store_row rfl 38 _ _ rfl (w.heap.size + 1) _ rfl rfl 38 _ ((Below.heap_setCell _ _ _ _ (by simp)).trans ((Below.heap_setCell _ _ _ _ (by simp)).trans HY6.out)) (by kernel_rfl) rfl (by simp [Value.oneCell']) ?_)
    (try simp only [Exit.inBlock, Exit.then])
    exact bodyPost_ret (v := .agg #[.int .i64 kd, .slice a5 nn c5, .slice b6 kn c6, .bool op]) (results_cell_row (P := Tryz.prog) rfl _ _ (w.heap.size + 1) 38 _ (0, 0) _ rfl (setRow_heap _ _ _ _ _ _ ((Below.heap_setCell _ _ _ _ (by simp)).trans ((Below.heap_setCell _ _ _ _ (by simp)).trans HY6.out))) Tryz.underlying38 rfl (by kernel_rfl)) rfl
      (show ClonePost w kd nn NS kn KS op _ _ from ⟨a5, c5, b6, c6, rfl,
        HN6.out.kept (fun ad e => by have h1 := HG5.out ad e; have h2 := HS1.out; exact (setRow_other _ _ _ _ (by omega)).trans ((Below.heap_setCell _ _ _ _ (by simp; omega)).trans (Below.heap_setCell _ _ _ _ (by simp; omega)))) (by rw [setRow_size]; simp),
        HK6.out.kept (fun ad e => by have h1 := HG6.out ad e; have h2 := HS1.out; exact (setRow_other _ _ _ _ (by omega)).trans ((Below.heap_setCell _ _ _ _ (by simp; omega)).trans (Below.heap_setCell _ _ _ _ (by simp; omega)))) (by rw [setRow_size]; simp),
        HZ5.out, HZ6.out, fun ad e => Nat.le_trans HB.out.size (HG5.out ad e), fun ad e => Nat.le_trans HB.out.size (HG6.out ad e),
        by
          have hb := HB.out.trans (HB6.out.mono HB.out.size)
          exact ⟨hb.os, hb.tape, hb.output, by rw [setRow_size]; simp; exact hb.size, fun k hk => ((setRow_other _ _ _ _ (by omega)).trans ((Below.heap_setCell _ _ _ _ (by simp; omega)).trans (Below.heap_setCell _ _ _ _ (by simp; omega)))).trans (hb.block k hk)⟩⟩)
end Go.Proofs.YtoakfninndkgaaaGreatDoor
