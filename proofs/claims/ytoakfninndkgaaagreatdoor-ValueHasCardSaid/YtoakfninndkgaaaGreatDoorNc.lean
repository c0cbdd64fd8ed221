/- Walks: IsName, tag, all, once. -/
import Derived.Test.YtoakfninndkgaaaGreatDoorNb
set_option linter.unusedVariables false
namespace Go.Proofs.YtoakfninndkgaaaGreatDoor
open Go.RowKit
theorem all_run : ∀ (l : List UInt8), (runL l = l.length) ↔ l.all inB = true
  | [] => by simp [runL]
  | c :: l => by
    have ih := all_run l
    unfold runL at *
    rw [List.takeWhile_cons, List.all_cons]
    cases h : inB c
    · simp
    · simp only [if_true, List.length_cons, Bool.true_and]
      rw [← ih]; omega
theorem tag_eq (c : UInt8) (l : List UInt8) (h : lowB c = true) : tagL (c :: l) = decide (runL (c :: l) = (c :: l).length) := by
  have hi : inB c = true := by unfold inB; rw [h]; rfl
  rw [Bool.eq_iff_iff, decide_eq_true_eq, all_run, List.all_cons, hi]
  simp [tagL, h]
theorem tag_low (c : UInt8) (l : List UInt8) (h : lowB c = false) : tagL (c :: l) = false := by simp [tagL, h]
theorem size_cons {s : ByteArray} {c : UInt8} {l : List UInt8} (h : s.data.toList = c :: l) : s.size = l.length + 1 := by
  have : s.data.toList.length = (c :: l).length := by rw [h]
  simpa using this
theorem isname_any (s : ByteArray) (hs : s.size ≤ 100000) (w : World) : Calls Tryz.prog 102 #[.string s] w fun e w' => e = .returned (.bool (nameL s.data.toList)) ∧ Below w.heap.size w w' := by
  cases hl : s.data.toList with
  | nil =>
    have hz : s.toList = [] := by rw [Lib.toList_data]; exact hl
    have hz2 : s.toList.isEmpty = true := by rw [hz]; rfl
    clear hl
    go_enter Tryz.func102, Tryz.ntmps102
    go_wp2
    go_ret
    exact ⟨by simp [nameL, tagL], Below.refl _ _⟩
  | cons c l =>
    have hsz := size_cons hl
    have h00 : 0 < s.size := by omega
    have hc : s[0]'h00 = c := by
      have : s.data.toList[0]? = some c := by rw [hl]; rfl
      have h0 : 0 < s.data.toList.length := by rw [hl]; simp
      rw [List.getElem?_eq_getElem h0] at this
      exact Option.some.inj this
    have hne : s.toList.isEmpty = false := by rw [Lib.toList_data, hl]; rfl
    have hne2 : s.toList ≠ [] := by rw [Lib.toList_data, hl]; simp
    have hpos : (0 : Int) < s.size := by omega
    have hsm : (s.size : Int) ≤ 100000 := by omega
    have HLL := Lib.hid hl
    have HC := Lib.hid hc
    clear hc hl hsz
    cases hlo : lowB c with
    | false =>
      have hn : nameL (c :: l) = false := by unfold nameL; rw [tag_low c l hlo]; rfl
      have HLO := Lib.hid hlo
      have HN := Lib.hid hn
      clear hlo hn
      go_enter Tryz.func102, Tryz.ntmps102
      go_wp2_with (go_at_call 121; ((with_reducible refine (low_any _ _).mono ?_); rintro e w' ⟨rfl, rfl⟩; rw [HC.out, HLO.out]))
      go_ret
      exact ⟨by rw [HN.out]; rfl, Below.refl _ _⟩
    | true =>
      have HLO := Lib.hid hlo
      have ht := tag_eq c l hlo
      by_cases hr : runL (c :: l) = (c :: l).length
      · rw [decide_eq_true hr] at ht
        have hre : ((runL s.data.toList : Nat) : Int) = (s.size : Int) := by
          have : s.size = s.data.toList.length := by simp
          rw [this, HLL.out, hr]
        have HRE := Lib.hid hre
        have hn : nameL (c :: l) = !isWordL (c :: l) := by unfold nameL; rw [ht]; rfl
        have HN := Lib.hid hn
        clear hlo ht hr hre hn
        have HW := isword_any s
        rw [HLL.out] at HW
        cases hw : isWordL (c :: l) with
        | false =>
          have HWW := Lib.hid hw
          rw [hw] at HW
          have HWC := Lib.hid HW
          clear hw HW
          go_enter Tryz.func102, Tryz.ntmps102
          go_wp2_with (first | (go_at_call 121; ((with_reducible refine (low_any _ _).mono ?_); rintro e w' ⟨rfl, rfl⟩; rw [HC.out, HLO.out])) | (go_at_call 122; ((with_reducible refine (run_any _ hs _).mono ?_); rintro e w' ⟨rfl, rfl⟩; rw [HRE.out])) | (go_at_call 124; refine (HWC.out _).mono ?_; rintro e w5 ⟨rfl, hb5⟩))
          go_ret
          exact ⟨by rw [HN.out, HWW.out]; simp, hb5⟩
        | true =>
          have HWW := Lib.hid hw
          rw [hw] at HW
          have HWC := Lib.hid HW
          clear hw HW
          go_enter Tryz.func102, Tryz.ntmps102
          go_wp2_with (first | (go_at_call 121; ((with_reducible refine (low_any _ _).mono ?_); rintro e w' ⟨rfl, rfl⟩; rw [HC.out, HLO.out])) | (go_at_call 122; ((with_reducible refine (run_any _ hs _).mono ?_); rintro e w' ⟨rfl, rfl⟩; rw [HRE.out])) | (go_at_call 124; refine (HWC.out _).mono ?_; rintro e w5 ⟨rfl, hb5⟩))
          go_ret
          exact ⟨by rw [HN.out, HWW.out]; simp, hb5⟩
      · rw [decide_eq_false hr] at ht
        have hre : (((runL s.data.toList : Nat) : Int) == (s.size : Int)) = false := by
          have : s.size = s.data.toList.length := by simp
          rw [this, HLL.out]
          exact beq_eq_false_iff_ne.2 (fun e => hr (by exact_mod_cast e))
        have hn : nameL (c :: l) = false := by unfold nameL; rw [ht]; rfl
        have HN := Lib.hid hn
        clear hlo ht hr hn
        go_enter Tryz.func102, Tryz.ntmps102
        go_wp2_with (first | (go_at_call 121; ((with_reducible refine (low_any _ _).mono ?_); rintro e w' ⟨rfl, rfl⟩; rw [HC.out, HLO.out])) | (go_at_call 122; ((with_reducible refine (run_any _ hs _).mono ?_); rintro e w' ⟨rfl, rfl⟩)))
        go_ret
        exact ⟨by rw [HN.out]; rfl, Below.refl _ _⟩
/-- a name, or a word. -/
theorem tag_any (s : ByteArray) (hs : s.size ≤ 100000) (w : World) : Calls Tryz.prog 105 #[.string s] w fun e w' => e = .returned (.bool (tagL s.data.toList)) ∧ Below w.heap.size w w' := by
  have HI := isname_any s hs
  have HW := isword_any s
  cases hn : nameL s.data.toList with
  | true =>
    have ht : tagL s.data.toList = true := by unfold nameL at hn; simp at hn; exact hn.1
    rw [hn] at HI
    have HII := Lib.hid HI
    rw [ht]
    clear hn ht HI HW
    go_enter Tryz.func105, Tryz.ntmps105
    go_wp2_with (go_at_call 102; refine (HII.out _).mono ?_; rintro e w5 ⟨rfl, hb5⟩)
    go_ret
    exact ⟨by simp, hb5⟩
  | false =>
    have ht : tagL s.data.toList = isWordL s.data.toList := by
      unfold nameL at hn
      cases hw : isWordL s.data.toList with
      | true => exact word_tag hw
      | false => rw [hw] at hn; simpa using hn
    rw [hn] at HI
    rw [ht]
    have HII := Lib.hid HI
    have HWW := Lib.hid HW
    clear hn ht HI HW
    generalize isWordL s.data.toList = B at *
    cases B
    all_goals
      go_enter Tryz.func105, Tryz.ntmps105
      go_wp2_with (first | (go_at_call 102; refine (HII.out _).mono ?_; rintro e w5 ⟨rfl, hb5⟩; have HB5 := Lib.hid hb5; clear hb5) | (go_at_call 124; refine (HWW.out _).mono ?_; rintro e w6 ⟨rfl, hb6⟩))
      go_ret
      exact ⟨by simp, HB5.out.trans (hb6.mono HB5.out.size)⟩
end Go.Proofs.YtoakfninndkgaaaGreatDoor
