/- Walks: slices.Delete of the last entry. -/
import Derived.Test.YtebldhppnacdjabKl
import Derived.Deep.DeepCutAuto
import Derived.Deep.CutBlock
import Derived.Deep.RegionLaw
import Derived.Deep.MidRow
set_option linter.unusedVariables false
namespace Go.Proofs.Ytebldhppnacdjab
open Go.RowKit
set_option maxRecDepth 20000 in
set_option maxHeartbeats 2000000 in
theorem del_last_room (w : World) (g cap i base : Nat) (xs : List Value) (hn : i + 1 ≤ 100000) (hcap : i + 1 < cap) (hcm : cap ≤ maxLen) (hown : w.ownsRow base 55 3 (.slice (some ⟨g, 0, none⟩) (i + 1) (cap)) (i + 1) xs) :
    Calls Try.prog 24 #[.slice (some ⟨g, 0, none⟩) (i + 1) (cap), .int .i64 (i : Int), .int .i64 ((i : Int) + 1)] w fun e w' => e = .returned (.slice (some ⟨g, 0, none⟩) i (cap)) ∧ Below base w w' ∧ w'.ownsRow base 55 3 (.slice (some ⟨g, 0, none⟩) i (cap)) i (xs.take (i * 3)) ∧ (∀ k, k ≠ g → w'.heap[k]? = w.heap[k]?) := by
  have i0x : (i : Int) < (i + 1 : Nat) := by omega
  have i1 : (i : Int) < (i : Int) + 1 := by omega
  have i3 : ((i + 1 : Nat) : Int) ≤ (cap : Nat) := by omega
  have i3b : (i : Int) + 1 ≤ (cap : Nat) := by omega
  have i4 : (i : Int) ≤ (cap : Nat) := by omega
  have i5 : (0 : Int) ≤ (i : Int) + 1 := by omega
  have i6 : ¬ cap = i + 1 := by omega
  have i7 : (i : Int) ≤ (i : Int) + 1 := by omega
  have t1 : ((i : Int) == (i : Int) + 1) = false := by simp; omega
  obtain ⟨i0, hi0, hz0, hz1, hz2⟩ := info_parts Try.info55
  have hxl : xs.length = (i + 1) * 3 := hown.1
  have HO := Lib.hid hown
  clear hown
  go_enter Try.func24, Try.ntmps24
  go_upto_region 5 with (fail)
  go_region_law (refine step_append_room rfl (.tmp 22) (.tmp 25) 53 rfl 55 i0 3 Try.underlying53 hi0 hz1 g 0 i (cap) (by simp [Act.eval, Act.put]) ⟨g, (i + 1) * 3, none⟩ 0 (cap - (i + 1)) [] (by simp [Act.eval, Act.put]) rfl (by simp) (by simp) (by omega) (by simp) ?_)
  have hst : w.drew.setCells g (i * 3) [] = w.drew := rfl
  rw [hst]
  clear hst
  have hgb := ownsRow_ge HO.out g rfl
  have ho5 : w.drew.ownsRow base 55 3 (.slice (some ⟨g, 0, none⟩) (i + 1) (cap)) (i + 1) xs := ownsRow_mono (w' := w.drew) HO.out (fun _ _ => rfl)
  have hB5 : Below base w w.drew := (Below.refl base w).drew
  have hF5 : ∀ k, k ≠ g → w.drew.heap[k]? = w.heap[k]? := fun k hk => rfl
  generalize hw5 : w.drew = w5 at *
  have th : w5.there g (i * 3) 3 := fun j hj => by
    refine ⟨?_, ho5.frozenAt _⟩
    rw [ho5.cellAt (i * 3 + j) (by omega), List.getElem?_eq_getElem (by omega)]
    rfl
  have hcl := fun ty => run_clear1 w5 g (i * 3) (cap - i) ty th
  have ho6 := ownsRow_less (m := i) (ownsRow_setCells [.slice none 0 0, .int .i64 0, .int .i64 0] w5 _ (i * 3) (ho5)) (by omega)
  have j3 : i + 1 - i = 1 := by omega
  have j4 : ¬ cap = i := by omega
  have hfin : (sets xs (i * 3) [.slice none 0 0, .int .i64 0, .int .i64 0]).take (i * 3) = xs.take (i * 3) := by
    rw [sets_eq _ _ _ (by simp; omega), List.append_assoc, List.take_append_of_le_length (by simp; omega), List.take_take, Nat.min_self]
  rw [hfin] at ho6
  have hF6 : ∀ k, k ≠ g → (w5.setCells g (i * 3) [.slice none 0 0, .int .i64 0, .int .i64 0]).heap[k]? = w.heap[k]? := fun k hk => (setCells_off g _ _ _ k hk).trans (hF5 k hk)
  have hB6 := setCells_below hgb [.slice none 0 0, .int .i64 0, .int .i64 0] w5 (i * 3) hB5
  have HE := Lib.hid (And.intro hB6 (And.intro ho6 hF6))
  clear th hfin ho6 hF6 hB6 hF5 hB5 ho5 hw5
  go_wp2
  go_ret
  exact ⟨rfl, HE.out.1, HE.out.2.1, HE.out.2.2⟩
set_option maxRecDepth 20000 in
set_option maxHeartbeats 2000000 in
theorem del_last_full (w : World) (g i base : Nat) (xs : List Value) (hn : i + 1 ≤ 100000) (hcm : i + 1 ≤ maxLen) (hown : w.ownsRow base 55 3 (.slice (some ⟨g, 0, none⟩) (i + 1) (i + 1)) (i + 1) xs) :
    Calls Try.prog 24 #[.slice (some ⟨g, 0, none⟩) (i + 1) (i + 1), .int .i64 (i : Int), .int .i64 ((i : Int) + 1)] w fun e w' => e = .returned (.slice (some ⟨g, 0, none⟩) i (i + 1)) ∧ Below base w w' ∧ w'.ownsRow base 55 3 (.slice (some ⟨g, 0, none⟩) i (i + 1)) i (xs.take (i * 3)) ∧ (∀ k, k ≠ g → w'.heap[k]? = w.heap[k]?) := by
  have i0x : (i : Int) < (i + 1 : Nat) := by omega
  have i1 : (i : Int) < (i : Int) + 1 := by omega
  have i3 : ((i + 1 : Nat) : Int) ≤ (i + 1 : Nat) := by omega
  have i3b : (i : Int) + 1 ≤ (i + 1 : Nat) := by omega
  have i4 : (i : Int) ≤ (i + 1 : Nat) := by omega
  have i5 : (0 : Int) ≤ (i : Int) + 1 := by omega
  
  have i7 : (i : Int) ≤ (i : Int) + 1 := by omega
  have t1 : ((i : Int) == (i : Int) + 1) = false := by simp; omega
  obtain ⟨i0, hi0, hz0, hz1, hz2⟩ := info_parts Try.info55
  have hxl : xs.length = (i + 1) * 3 := hown.1
  have HO := Lib.hid hown
  clear hown
  go_enter Try.func24, Try.ntmps24
  go_upto_region 5 with (fail)
  go_region_law (refine step_append_room rfl (.tmp 22) (.tmp 25) 53 rfl 55 i0 3 Try.underlying53 hi0 hz1 g 0 i (i + 1) (by simp [Act.eval, Act.put]) ⟨g, 0, none⟩ 0 0 [] (by simp [Act.eval, Act.put]) rfl (by simp) (by simp) (by omega) (by simp) ?_)
  have hst : w.drew.setCells g (i * 3) [] = w.drew := rfl
  rw [hst]
  clear hst
  have hgb := ownsRow_ge HO.out g rfl
  have ho5 : w.drew.ownsRow base 55 3 (.slice (some ⟨g, 0, none⟩) (i + 1) (i + 1)) (i + 1) xs := ownsRow_mono (w' := w.drew) HO.out (fun _ _ => rfl)
  have hB5 : Below base w w.drew := (Below.refl base w).drew
  have hF5 : ∀ k, k ≠ g → w.drew.heap[k]? = w.heap[k]? := fun k hk => rfl
  generalize hw5 : w.drew = w5 at *
  have th : w5.there g (i * 3) 3 := fun j hj => by
    refine ⟨?_, ho5.frozenAt _⟩
    rw [ho5.cellAt (i * 3 + j) (by omega), List.getElem?_eq_getElem (by omega)]
    rfl
  have hcl := fun ty => run_clear1 w5 g (i * 3) 1 ty th
  have ho6 := ownsRow_less (m := i) (ownsRow_setCells [.slice none 0 0, .int .i64 0, .int .i64 0] w5 _ (i * 3) (ho5)) (by omega)
  have j3 : i + 1 - i = 1 := by omega
  have j4 : ¬ i + 1 = i := by omega
  have hfin : (sets xs (i * 3) [.slice none 0 0, .int .i64 0, .int .i64 0]).take (i * 3) = xs.take (i * 3) := by
    rw [sets_eq _ _ _ (by simp; omega), List.append_assoc, List.take_append_of_le_length (by simp; omega), List.take_take, Nat.min_self]
  rw [hfin] at ho6
  have hF6 : ∀ k, k ≠ g → (w5.setCells g (i * 3) [.slice none 0 0, .int .i64 0, .int .i64 0]).heap[k]? = w.heap[k]? := fun k hk => (setCells_off g _ _ _ k hk).trans (hF5 k hk)
  have hB6 := setCells_below hgb [.slice none 0 0, .int .i64 0, .int .i64 0] w5 (i * 3) hB5
  have HE := Lib.hid (And.intro hB6 (And.intro ho6 hF6))
  clear th hfin ho6 hF6 hB6 hF5 hB5 ho5 hw5
  go_wp2
  go_ret
  exact ⟨rfl, HE.out.1, HE.out.2.1, HE.out.2.2⟩
end Go.Proofs.Ytebldhppnacdjab
