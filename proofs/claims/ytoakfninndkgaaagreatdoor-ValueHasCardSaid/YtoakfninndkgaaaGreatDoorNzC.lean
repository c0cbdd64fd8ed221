/- Walks: value.Has. -/
import Derived.Test.YtoakfninndkgaaaGreatDoorNzB
set_option linter.unusedVariables false
namespace Go.Proofs.YtoakfninndkgaaaGreatDoor
open Go.RowKit
set_option maxRecDepth 20000 in
set_option maxHeartbeats 4000000 in
theorem has_any (w : World) (F : Nat → Prop) (la : Option Addr) (ln lc : Nat) (root : Int) (HS : List Hd) (hH : HeadsIn w la ln HS) (hln : (ln : Int) ≤ 100000) (hF : ∀ b, F b → b < w.heap.size) {k : Val.Kid} {v : Val.V} (hv : Val.VS w F k v) :
    Calls Tryz.prog 30 #[k.val, .agg #[.slice la ln lc, .int .i64 root]] w (BoolPost w (graphB root HS && hasB HS v root)) := by
  have HB := Lib.hid (fun (hg : graphB root HS = true) w' (hb : Below w.heap.size w w') => (both_any w F la ln lc HS hH hln (OkHeads.of_graph hg).1 hF hv w' hb root (OkHeads.of_graph hg).2.1 (by rw [hH.1]; exact (OkHeads.of_graph hg).2.2)).1)
  have HH := Lib.hid hH
  have hml : (ln : Int) ≤ maxLen := by unfold maxLen; omega
  have HML := Lib.hid hml
  obtain ⟨kd, ki, kb, kt, kna, knn, knc, kka, kkn, kkc, kfp, khv⟩ := k
  clear hv hF hH hml
  unfold Val.Kid.val at *
  simp only at *
  have hba : Below w.heap.size w ((w.alloc (.cells #[.int .i64 kd, .int .i64 ki, .int .u64 kb, .string kt, .slice kna knn knc, .slice kka kkn kkc, .pointer kfp, .int .i64 khv] 70)).alloc (.cells #[.slice la ln lc, .int .i64 root] 24)) := ((Below.refl _ _).alloc (Nat.le_refl _) _).alloc (by simp) _
  have hvb : ((w.alloc (.cells #[.int .i64 kd, .int .i64 ki, .int .u64 kb, .string kt, .slice kna knn knc, .slice kka kkn kkc, .pointer kfp, .int .i64 khv] 70)).alloc (.cells #[.slice la ln lc, .int .i64 root] 24)).heap[w.heap.size]? = some (.cells #[.int .i64 kd, .int .i64 ki, .int .u64 kb, .string kt, .slice kna knn knc, .slice kka kkn kkc, .pointer kfp, .int .i64 khv] 70 (0, 0)) := by rw [Below.heap_alloc _ _ _ (by simp)]; exact heap_alloc_new w _
  have hgb : ((w.alloc (.cells #[.int .i64 kd, .int .i64 ki, .int .u64 kb, .string kt, .slice kna knn knc, .slice kka kkn kkc, .pointer kfp, .int .i64 khv] 70)).alloc (.cells #[.slice la ln lc, .int .i64 root] 24)).heap[w.heap.size + 1]? = some (.cells #[.slice la ln lc, .int .i64 root] 24 (0, 0)) := by
    have := heap_alloc_new (w.alloc (.cells #[.int .i64 kd, .int .i64 ki, .int .u64 kb, .string kt, .slice kna knn knc, .slice kka kkn kkc, .pointer kfp, .int .i64 khv] 70)) (.cells #[.slice la ln lc, .int .i64 root] 24)
    simpa using this
  have HBA := Lib.hid hba
  have HVB := Lib.hid hvb
  have HGB := Lib.hid hgb
  clear hba hvb hgb
  go_enter Tryz.func30, Tryz.ntmps30
  go_upto_region 1 with (fail)
  generalize ((w.alloc (.cells #[.int .i64 kd, .int .i64 ki, .int .u64 kb, .string kt, .slice kna knn knc, .slice kka kkn kkc, .pointer kfp, .int .i64 khv] 70)).alloc (.cells #[.slice la ln lc, .int .i64 root] 24)) = w2 at *
  have g0 : w2.cell? ⟨w.heap.size + 1, 0, none⟩ = some (.slice la ln lc) := (by rw [cell_of_row _ _ 0 _ 24 _ HGB.out]; rfl)
  have g1 : w2.cell? ⟨w.heap.size + 1, 1, none⟩ = some (.int .i64 root) := (by rw [cell_of_row _ _ 1 _ 24 _ HGB.out]; rfl)
  have HLG : Hid (w.heap.size + 1 < w2.heap.size) := Lib.hid (Array.getElem?_eq_some_iff.1 HGB.out).1
  have HCK := Lib.hid (check_any w2 la ln lc root HS (HH.out.on HBA.out) HML.out)
  generalize graphB root HS = b at *
  cases b with
  | false =>
    have HC2 : Hid (Calls Tryz.prog 50 #[.agg #[.slice la ln lc, .int .i64 root]] w2 fun e w' => e = .returned (.int .i64 14) ∧ Below w2.heap.size w2 w') := Lib.hid HCK.out
    go_wp2_with (go_at_call 50; (with_reducible refine HC2.out.mono ?_); rintro e w5 ⟨rfl, hb5⟩)
    go_ret
    exact ⟨rfl, HBA.out.trans (hb5.mono HBA.out.size)⟩
  | true =>
    have HC2 : Hid (Calls Tryz.prog 50 #[.agg #[.slice la ln lc, .int .i64 root]] w2 fun e w' => e = .returned (.int .i64 0) ∧ Below w2.heap.size w2 w') := Lib.hid HCK.out
    have HB1 : Hid (∀ w', Below w.heap.size w w' → Calls Tryz.prog 51 #[.agg #[.int .i64 kd, .int .i64 ki, .int .u64 kb, .string kt, .slice kna knn knc, .slice kka kkn kkc, .pointer kfp, .int .i64 khv], .slice la ln lc, .int .i64 root] w' (BoolPost w' (hasB HS v root))) := Lib.hid (HB.out rfl)
    generalize hasB HS v root = r at *
    clear HB
    cases r
    all_goals
      go_wp2_with (first | (go_at_call 50; (with_reducible refine HC2.out.mono ?_); rintro e w5 ⟨rfl, hb5⟩; have HB5 := Lib.hid hb5; have HBW5 := Lib.hid (HBA.out.trans (hb5.mono HBA.out.size)); have HV5 := Lib.hid ((hb5.block _ (Nat.lt_trans (Nat.lt_succ_self _) HLG.out)).trans HVB.out); have HG5 := Lib.hid ((hb5.block _ HLG.out).trans HGB.out); have q0 : w5.cell? ⟨w.heap.size + 1, 0, none⟩ = some (.slice la ln lc) := (by rw [cell_of_row _ _ 0 _ 24 _ HG5.out]; rfl); have q1 : w5.cell? ⟨w.heap.size + 1, 1, none⟩ = some (.int .i64 root) := (by rw [cell_of_row _ _ 1 _ 24 _ HG5.out]; rfl); have x0 : w5.cell? ⟨w.heap.size, 0, none⟩ = some (.int .i64 kd) := (by rw [cell_of_row _ _ 0 _ 70 _ HV5.out]; rfl); have x1 : w5.cell? ⟨w.heap.size, 1, none⟩ = some (.int .i64 ki) := (by rw [cell_of_row _ _ 1 _ 70 _ HV5.out]; rfl); have x2 : w5.cell? ⟨w.heap.size, 2, none⟩ = some (.int .u64 kb) := (by rw [cell_of_row _ _ 2 _ 70 _ HV5.out]; rfl); have x3 : w5.cell? ⟨w.heap.size, 3, none⟩ = some (.string kt) := (by rw [cell_of_row _ _ 3 _ 70 _ HV5.out]; rfl); have x4 : w5.cell? ⟨w.heap.size, 4, none⟩ = some (.slice kna knn knc) := (by rw [cell_of_row _ _ 4 _ 70 _ HV5.out]; rfl); have x5 : w5.cell? ⟨w.heap.size, 5, none⟩ = some (.slice kka kkn kkc) := (by rw [cell_of_row _ _ 5 _ 70 _ HV5.out]; rfl); have x6 : w5.cell? ⟨w.heap.size, 6, none⟩ = some (.pointer kfp) := (by rw [cell_of_row _ _ 6 _ 70 _ HV5.out]; rfl); have x7 : w5.cell? ⟨w.heap.size, 7, none⟩ = some (.int .i64 khv) := (by rw [cell_of_row _ _ 7 _ 70 _ HV5.out]; rfl); clear hb5) | (go_at_call 51; (with_reducible refine (HB1.out _ HBW5.out).mono ?_); rintro e w6 ⟨rfl, hb6⟩))
      go_ret
      exact ⟨rfl, HBW5.out.trans (hb6.mono HBW5.out.size)⟩
end Go.Proofs.YtoakfninndkgaaaGreatDoor
