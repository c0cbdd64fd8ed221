/- Walks: cmp.Less, isNaN, slices.BinarySearch at strings. -/
import Derived.Test.YtifilhkkgkihpaaGreatDoorAs05
import Derived.WalkKit
import Derived.WalkSpells
import Derived.WalkLawsBesides
import Derived.Lib.Hide
import Derived.Laws.OwnMore
import Derived.Laws.MakeOwn
import Derived.Laws.CopyRow
import Derived.Lib.AppendZerosOnto
import Derived.Lib.Overlaps
import Derived.OwnWalk
import Derived.Carry
import Derived.OneCell
import Derived.BigRegion
import Derived.BigQuiet
import Derived.Deep.QuietTactic
import Derived.Deep.LoopGhost
import Derived.Deep.DeepCutAuto
import Derived.Deep.CutBlock
import Derived.Deep.RegionHeld3
import Derived.Deep.AppendLies
set_option linter.unusedSimpArgs false
set_option linter.unusedVariables false
set_option linter.unusedSimpArgs false
set_option linter.unusedVariables false
namespace Go.Proofs.YtifilhkkgkihpaaGreatDoor.Val
open Go.RowKit
theorem nan22 (a : ByteArray) (w : World) : Calls Tryz.prog 189 #[.string a] w fun e w' => e = .returned (.bool false) ∧ w = w' := by
  go_enter Tryz.func189, Tryz.ntmps189
  go_wp2
  go_ret
  exact ⟨by simp, rfl⟩
theorem nan31 (a : ByteArray) (w : World) : Calls Tryz.prog 241 #[.string a] w fun e w' => e = .returned (.bool false) ∧ w = w' := by
  go_enter Tryz.func241, Tryz.ntmps241
  go_wp2
  go_ret
  exact ⟨by simp, rfl⟩
theorem less_any (a b : ByteArray) (w : World) : Calls Tryz.prog 188 #[.string a, .string b] w fun e w' => e = .returned (.bool (Op.bytesLess a.toList b.toList)) ∧ w = w' := by
  go_enter Tryz.func188, Tryz.ntmps188
  go_wp2_with (go_at_call 241; ((with_reducible refine (nan31 _ _).mono ?_); rintro e w' ⟨rfl, rfl⟩))
  go_ret
  exact ⟨rfl, rfl⟩
/-- is it there? -/
def isAt (S : List ByteArray) (p : Nat) (x : ByteArray) : Bool := match S[p]? with
  | some s => s.toList == x.toList
  | none => false
set_option maxRecDepth 20000 in
set_option maxHeartbeats 2000000 in
theorem bs_any (w : World) (b off n cap p : Nat) (S : List ByteArray) (x : ByteArray) (hS : S.length = n) (hn : n ≤ 100000) (hc : Hid (∀ k s, S[k]? = some s → w.cell? ⟨b, off + k, none⟩ = some (.string s))) (hp : p ≤ n) (hpart : Hid (∀ k s, S[k]? = some s → Op.bytesLess s.toList x.toList = decide (k < p))) :
    Calls Tryz.prog 144 #[.slice (some ⟨b, off, none⟩) n cap, .string x] w fun e w' => e = .returned (.tuple #[.int .i64 (p : Int), .bool (isAt S p x)]) ∧ w = w' := by
  have HS := Lib.hid hS
  clear hS
  go_enter Tryz.func144, Tryz.ntmps144
  go_wp2
  go_loop [7, 8] (fun s7 s8 => ∃ i j : Nat, i ≤ p ∧ p ≤ j ∧ j ≤ n ∧ s7 = .int .i64 (i : Int) ∧ s8 = .int .i64 (j : Int)) (fun s7 s8 => (intOf s8).toNat - (intOf s7).toNat)
  case atStart => exact ⟨0, n, by omega, hp, by omega, rfl, rfl⟩
  case round =>
    obtain ⟨i, j, hi, hj, hjn, rfl, rfl⟩ := hrel
    by_cases hij : i < j
    · have hmi : i ≤ (i + j) / 2 ∧ (i + j) / 2 < j := by omega
      obtain ⟨s, hs⟩ : ∃ s, S[(i + j) / 2]? = some s := ⟨S[(i + j) / 2]'(by rw [HS.out]; omega), List.getElem?_eq_getElem _⟩
      have hcell := hc.out _ s hs
      have hl := hpart.out _ s hs
      have hmn : ((i : Int) + j) / 2 < n := by omega
      have h1 : IntKind.i64.wrap ((i : Int) + j) = (i : Int) + j := by rw [IntKind.wrap_i64]; omega
      have h2 : IntKind.u64.wrap ((i : Int) + j) = (i : Int) + j := by rw [IntKind.wrap_u64]; omega
      clear hs
      by_cases hmp : (i + j) / 2 < p
      · have hl2 : Op.bytesLess s.toList x.toList = true := by rw [hl]; exact decide_eq_true hmp
        clear hl
        go_wp2_with (go_at_call 188; ((with_reducible refine (less_any _ _ _).mono ?_); rintro e w' ⟨rfl, rfl⟩))
        go_round
        case rel => exact ⟨(i + j) / 2 + 1, j, by omega, hj, hjn, by go_num, rfl⟩
        case measure => simp [intOf]; omega
      · have hl2 : Op.bytesLess s.toList x.toList = false := by rw [hl]; exact decide_eq_false hmp
        clear hl
        go_wp2_with (go_at_call 188; ((with_reducible refine (less_any _ _ _).mono ?_); rintro e w' ⟨rfl, rfl⟩))
        go_round
        case rel => exact ⟨i, (i + j) / 2, hi, by omega, by omega, rfl, by go_num⟩
        case measure => simp [intOf]; omega
    · obtain rfl : i = p := by omega
      obtain rfl : j = i := by omega
      by_cases hpn : j < n
      · obtain ⟨s, hs⟩ : ∃ s, S[j]? = some s := ⟨S[j]'(by rw [HS.out]; exact hpn), List.getElem?_eq_getElem _⟩
        have hcell := hc.out _ s hs
        have hi2 : (j : Int) < n := by omega
        have HI : Hid (isAt S j x = (s.toList == x.toList)) := Lib.hid (by unfold isAt; rw [hs])
        clear hs
        by_cases he : (s.toList == x.toList) = true
        · go_wp2
          go_ret2
          exact ⟨by rw [HI.out, he]; rfl, rfl⟩
        · have he2 : (s.toList == x.toList) = false := by simpa using he
          clear he
          go_wp2_with (go_at_call 189; ((with_reducible refine (nan22 _ _).mono ?_); rintro e w' ⟨rfl, rfl⟩))
          go_ret2
          exact ⟨by rw [HI.out, he2]; rfl, rfl⟩
      · have hi2 : ¬ (j : Int) < n := by omega
        have HI : Hid (isAt S j x = false) := Lib.hid (by unfold isAt; rw [List.getElem?_eq_none (by rw [HS.out]; omega)])
        go_wp2
        go_ret2
        exact ⟨by rw [HI.out]; rfl, rfl⟩
end Go.Proofs.YtifilhkkgkihpaaGreatDoor.Val
