/- Walks: the example of chapter 12. -/
import Derived.Test.YtoakfninndkgaaaGreatDoorNr
set_option linter.unusedVariables false
namespace Go.Proofs.YtoakfninndkgaaaGreatDoor
open Go.RowKit
theorem right_ex : rightB 7 false 1 [] [0, 0] = true := by decide
theorem lv_ex : lvTo [2] [0, 0] 2 = 2 := by decide
theorem lives12 (w : World) : Calls Tryz.prog 7 #[] w fun e w' => e = .returned (.bool true) ∧ Below w.heap.size w w' := by
  have HA1 : Hid (ArenaAt (w.alloc (.cells #[.slice none 0 0, .int .i64 9] 79)) w.heap.size (w.heap.size + 1) none 0 0 9 []) := Lib.hid ⟨heap_alloc_new w _, World.ownsRow_nil _ _ _ _, by omega, by simp⟩
  have HB1 : Hid (Below w.heap.size w (w.alloc (.cells #[.slice none 0 0, .int .i64 9] 79))) := Lib.hid ((Below.refl _ _).alloc (Nat.le_refl _) _)
  have HS1 : Hid ((w.alloc (.cells #[.slice none 0 0, .int .i64 9] 79)).heap.size = w.heap.size + 1) := Lib.hid (by simp)
  have HNEW := Lib.hid (new_ok w 9 (by decide) (by decide))
  go_enter Tryz.func7, Tryz.ntmps7
  go_upto_region 2 with (go_at_call 10; (with_reducible refine HNEW.out.mono ?_); rintro e w1 ⟨rfl, rfl⟩)
  generalize (w.alloc (.cells #[.slice none 0 0, .int .i64 9] 79)) = w1 at *
  have HVAR := Lib.hid (var_ok w1 w.heap.size (w.heap.size + 1) none 0 0 9 2 [] HA1.out (by decide) (by decide) (by decide))
  go_upto_region 3 with (go_at_call 11; (with_reducible refine HVAR.out.mono ?_); rintro e w2 ⟨la, lc, M, rfl, hA2, hM, hM2, hac2⟩)
  have HA2 := Lib.hid hA2
  have HB2 : Hid (Below w.heap.size w w2) := Lib.hid (HB1.out.trans (hac2.below (by have := HS1.out; omega) (Nat.le_refl _) (fun k e => by cases e)))
  clear hA2 hM hM2 hac2
  have HB3 : Hid (Below w2.heap.size w2 (w2.alloc (.cells #[.int .i64 0, .int .i64 0] 3))) := Lib.hid ((Below.refl _ _).alloc (Nat.le_refl _) _)
  have HA3 := Lib.hid (HA2.out.on HB3.out)
  have HK3 : Hid (IntsAt (w2.alloc (.cells #[.int .i64 0, .int .i64 0] 3)) (some ⟨w2.heap.size, 0, none⟩) 2 [0, 0]) := Lib.hid ⟨rfl, Or.inr ⟨_, 0, rfl, by simp, fun i k hi => by
    rw [cell_of_row _ _ _ _ 3 _ (heap_alloc_new w2 _)]
    rcases i with _ | _ | i
    · cases hi; rfl
    · cases hi; rfl
    · simp at hi⟩⟩
  have HHD := Lib.hid (head_ok (w2.alloc (.cells #[.int .i64 0, .int .i64 0] 3)) w.heap.size (w.heap.size + 1) la 1 lc 9 _ [2] 7 none 0 0 [] (some ⟨w2.heap.size, 0, none⟩) 2 2 [0, 0] false HA3.out ⟨rfl, Or.inl rfl⟩ HK3.out (by decide) (by decide) (fun s h => by cases h) (fun _ => rfl) (fun h => by cases h) right_ex (by decide) (by decide) (fun i hi => by
    have : i = 0 := by omega
    subst this
    rfl))
  rw [lv_ex] at HHD
  have HBB : Hid (Below w.heap.size w (w2.alloc (.cells #[.int .i64 0, .int .i64 0] 3))) := Lib.hid (HB2.out.trans (HB3.out.mono HB2.out.size))
  go_upto_region 4 with (go_at_call 25; (with_reducible refine HHD.out.mono ?_); rintro e w4 ⟨la4, lc4, a4, c4, b4, d4, rfl, hA4, -, -, -, -, -, -, hac4⟩)
  have HA4 := Lib.hid hA4
  have HB4 : Hid (Below w.heap.size w w4) := Lib.hid (HBB.out.trans (hac4.below (by have := HBB.out.size; omega) (Nat.le_refl _) (fun k e => by have := (HA3.out.own.lt k e).1; omega)))
  clear hA4 hac4
  have HLV : Hid (Calls Tryz.prog 15 #[.pointer (some ⟨w.heap.size, 0, none⟩), .int .i64 1] w4 fun e w' => e = .returned (.int .i64 2) ∧ w' = w4) := Lib.hid (level_any w4 w.heap.size (w.heap.size + 1) la4 2 lc4 9 _ 1 2 HA4.out (by decide) rfl (by decide))
  go_wp2_with (go_at_call 15; (with_reducible refine HLV.out.mono ?_); rintro e w5 ⟨rfl, rfl⟩)
  go_ret
  exact ⟨rfl, HB4.out⟩
end Go.Proofs.YtoakfninndkgaaaGreatDoor
