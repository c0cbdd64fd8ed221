/- Walks: the document's names, tags, words. -/
import Derived.Test.YtoakfninndkgaaaGreatDoorNc
set_option linter.unusedVariables false
namespace Go.Proofs.YtoakfninndkgaaaGreatDoor
open Go.RowKit
theorem word_low (s : ByteArray) {k : Nat} (h : ∀ i (hi : i < s.size), i < k → (97 ≤ s[i] && s[i] ≤ 122) = true) (hk : s.size ≤ k) : letters s.data.toList = true := by
  unfold letters
  refine List.all_eq_true.2 (fun c hc => ?_)
  obtain ⟨i, hi, rfl⟩ := List.getElem_of_mem hc
  exact h i (by simpa using hi) (Nat.lt_of_lt_of_le (show i < s.size from by simpa using hi) hk)
theorem not_word (s : ByteArray) (k : Nat) (hk : k < s.size) (h : (s[k].toNat : Int) < 97 ∨ (122 : Int) < (s[k].toNat : Int)) : isWordL s.data.toList = false := by
  cases hw : isWordL s.data.toList with
  | false => rfl
  | true =>
    have h1 := List.all_eq_true.1 (word_letters hw).1 (s[k]) (by
      have : s.data.toList[k]'(by simpa using hk) = s[k] := rfl
      rw [← this]
      exact List.getElem_mem _)
    simp [UInt8.le_iff_toNat_le] at h1
    omega
theorem not_stands (s : ByteArray) (j : Nat) (h : ∀ i, i < j → standsAt i s.data.toList = false) (hj : ¬ j + s.size + 2 ≤ 89) : isWordL s.data.toList = false := by
  cases hw : isWordL s.data.toList with
  | false => rfl
  | true =>
    obtain ⟨i, h1, h2⟩ := word_stands hw
    have : s.data.toList.length = s.size := by simp
    rw [h i (by omega)] at h2
    exact h2.symm
theorem stands_eq (s : ByteArray) (j : Nat) : (((⟨#[32, 102, 117, 110, 32, 108, 101, 116, 32, 114, 101, 99, 32, 105, 110, 32, 105, 102, 32, 116, 104, 101, 110, 32, 101, 108, 115, 101, 32, 99, 97, 115, 101, 32, 111, 102, 32, 101, 110, 100, 32, 116, 114, 117, 101, 32, 102, 97, 108, 115, 101, 32, 105, 110, 116, 32, 98, 111, 111, 108, 32, 115, 116, 114, 32, 102, 108, 111, 97, 116, 32, 100, 121, 110, 32, 97, 110, 121, 32, 110, 111, 110, 101, 32, 116, 121, 112, 101, 32]⟩ : ByteArray).extract j (j + s.size + 2)).toList == ((⟨#[32]⟩ : ByteArray) ++ s ++ (⟨#[32]⟩ : ByteArray)).toList) = standsAt j s.data.toList := by
  rw [Lib.toList_data, Lib.toList_data, Lib.extract_data, ByteArray.data_append, ByteArray.data_append]
  unfold standsAt
  have e : j + s.size + 2 - j = s.data.toList.length + 2 := by simp; omega
  rw [e]
  have e1 : ((⟨#[32, 102, 117, 110, 32, 108, 101, 116, 32, 114, 101, 99, 32, 105, 110, 32, 105, 102, 32, 116, 104, 101, 110, 32, 101, 108, 115, 101, 32, 99, 97, 115, 101, 32, 111, 102, 32, 101, 110, 100, 32, 116, 114, 117, 101, 32, 102, 97, 108, 115, 101, 32, 105, 110, 116, 32, 98, 111, 111, 108, 32, 115, 116, 114, 32, 102, 108, 111, 97, 116, 32, 100, 121, 110, 32, 97, 110, 121, 32, 110, 111, 110, 101, 32, 116, 121, 112, 101, 32]⟩ : ByteArray)).data.toList = textW := rfl
  rw [e1]
  simp
set_option maxRecDepth 20000 in
set_option maxHeartbeats 2000000 in
theorem rword_any (s : ByteArray) (hs : s.size ≤ 100000) (w : World) : Calls Tryz.prog 53 #[.string s] w fun e w' => e = .returned (.bool (isWordL s.data.toList)) ∧ w = w' := by
  cases hl : s.data.toList with
  | nil =>
    have hz : s.toList = [] := by rw [Lib.toList_data]; exact hl
    have hz2 : s.toList.isEmpty = true := by rw [hz]; rfl
    clear hl
    go_enter Tryz.func53, Tryz.ntmps53
    go_wp2
    go_ret
    exact ⟨rfl, rfl⟩
  | cons c l =>
    have hne : s.toList.isEmpty = false := by rw [Lib.toList_data, hl]; rfl
    have hne2 : s.toList ≠ [] := by rw [Lib.toList_data, hl]; simp
    have HLL := Lib.hid hl
    rw [← hl]
    clear hl
    go_enter Tryz.func53, Tryz.ntmps53
    go_wp2
    go_loop [3] (fun s3 => ∃ k : Nat, k ≤ s.size ∧ s3 = .int .i64 (k : Int) ∧ Hid (∀ i (hi : i < s.size), i < k → (97 ≤ s[i] && s[i] ≤ 122) = true)) (fun s3 => s.size - (intOf s3).toNat)
    case atStart => exact ⟨0, Nat.zero_le _, rfl, Lib.hid (fun i _ h => by omega)⟩
    case round =>
      obtain ⟨k, hk, rfl, HP⟩ := hrel
      have hwk : IntKind.i64.wrap ((k : Int) + 1) = (k : Int) + 1 := by rw [IntKind.wrap_i64]; omega
      by_cases hlt : k < s.size
      · have hlt2 : (k : Int) < s.size := by omega
        by_cases hlo : (97 : Int) ≤ (s[k].toNat : Int)
        · have hlo2 : ¬ (s[k].toNat : Int) < 97 := by omega
          by_cases hhi : (s[k].toNat : Int) ≤ 122
          · have hhi2 : ¬ (122 : Int) < (s[k].toNat : Int) := by omega
            go_wp2
            go_round
            case rel => exact ⟨k + 1, by omega, by go_num, Lib.hid (fun i hi h => by
              by_cases he : i = k
              · subst he
                simp [UInt8.le_iff_toNat_le]
                omega
              · exact HP.out i hi (by omega))⟩
            case measure => simp [intOf]; omega
          · have hhi2 : (122 : Int) < (s[k].toNat : Int) := by omega
            have HNW := Lib.hid (not_word s k hlt (Or.inr hhi2))
            go_wp2
            go_ret
            exact ⟨by rw [HNW.out]; rfl, rfl⟩
        · have hlo2 : (s[k].toNat : Int) < 97 := by omega
          have HNW := Lib.hid (not_word s k hlt (Or.inl hlo2))
          go_wp2
          go_ret
          exact ⟨by rw [HNW.out]; rfl, rfl⟩
      · have hlt2 : ¬ (k : Int) < s.size := by omega
        go_wp2
        go_loop [4] (fun s4 => ∃ j : Nat, j ≤ 89 ∧ s4 = .int .i64 (j : Int) ∧ Hid (∀ i, i < j → standsAt i s.data.toList = false)) (fun s4 => 89 - (intOf s4).toNat)
        case atStart => exact ⟨0, Nat.zero_le _, rfl, Lib.hid (fun i h => by omega)⟩
        case round =>
          obtain ⟨j, hj, rfl, HQ⟩ := hrel
          have hwk : IntKind.i64.wrap ((j : Int) + s.size) = (j : Int) + s.size := by rw [IntKind.wrap_i64]; omega
          have hwk2 : IntKind.i64.wrap ((j : Int) + s.size + 2) = (j : Int) + s.size + 2 := by rw [IntKind.wrap_i64]; omega
          have hwk3 : IntKind.i64.wrap ((j : Int) + 1) = (j : Int) + 1 := by rw [IntKind.wrap_i64]; omega
          by_cases hlt : j + s.size + 2 ≤ 89
          · have hlt2 : (j : Int) + s.size + 2 ≤ 89 := by omega
            have hst := stands_eq s j
            cases hb : standsAt j s.data.toList with
            | true =>
              rw [hb] at hst
              have HB := Lib.hid (stands_word (word_low s HP.out (by omega)) (by rw [HLL.out]; simp) j (by simp; omega) hb)
              clear hb
              go_wp2
              go_ret
              exact ⟨by rw [HB.out]; rfl, rfl⟩
            | false =>
              rw [hb] at hst
              have HB := Lib.hid hb
              clear hb
              go_wp2
              go_round
              case rel => exact ⟨j + 1, by omega, by go_num, Lib.hid (fun i h => by
                by_cases he : i = j
                · subst he; exact HB.out
                · exact HQ.out i (by omega))⟩
              case measure => simp [intOf]; omega
          · have hlt2 : ¬ (j : Int) + s.size + 2 ≤ 89 := by omega
            have HNW := Lib.hid (not_stands s j HQ.out hlt)
            go_wp2
            go_ret
            exact ⟨by rw [HNW.out]; rfl, rfl⟩
/-- the first byte is a small letter; all others may be of a name. -/
def tagAt (s : List UInt8) (i : Nat) : Bool := match s[i]? with | none => true | some c => if i = 0 then lowB c else inB c
theorem tag_all (l : List UInt8) (h0 : l ≠ []) (h : ∀ i, i < l.length → tagAt l i = true) : tagL l = true := by
  cases l with
  | nil => exact absurd rfl h0
  | cons c l =>
    have h1 := h 0 (by simp)
    simp [tagAt] at h1
    simp only [tagL, h1, Bool.true_and, List.all_eq_true]
    intro x hx
    obtain ⟨i, hi, rfl⟩ := List.getElem_of_mem hx
    have := h (i + 1) (by simpa using hi)
    simpa [tagAt, hi] using this
theorem tag_bad (l : List UInt8) (i : Nat) (hi : i < l.length) (h : tagAt l i = false) : tagL l = false := by
  cases l with
  | nil => rfl
  | cons c l =>
    cases i with
    | zero => simp [tagAt] at h; simp [tagL, h]
    | succ i =>
      have hi' : i < l.length := by simpa using hi
      simp [tagAt, hi'] at h
      have : l.all inB = false := List.all_eq_false.2 ⟨l[i], List.getElem_mem _, by simp [h]⟩
      simp [tagL, this]
set_option maxRecDepth 20000 in
set_option maxHeartbeats 2000000 in
theorem rtag_any (s : ByteArray) (hs : s.size ≤ 100000) (w : World) : Calls Tryz.prog 34 #[.string s] w fun e w' => e = .returned (.bool (tagL s.data.toList)) ∧ w = w' := by
  cases hl : s.data.toList with
  | nil =>
    have hz : s.toList = [] := by rw [Lib.toList_data]; exact hl
    have hz2 : s.toList.isEmpty = true := by rw [hz]; rfl
    have hsz : s.size = 0 := by have := congrArg List.length hl; simpa using this
    have hsz2 : (s.size : Int) ≤ 0 := by omega
    clear hl hsz
    go_enter Tryz.func34, Tryz.ntmps34
    go_wp2
    go_loop [3] (fun s3 => s3 = .int .i64 0) (fun _ => 0)
    case atStart => rfl
    case round =>
      obtain rfl := hrel
      have hnlt : ¬ (0 : Int) < s.size := by omega
      go_wp2
      go_ret
      exact ⟨rfl, rfl⟩
  | cons c l =>
    have hne : s.toList.isEmpty = false := by rw [Lib.toList_data, hl]; rfl
    have hne2 : s.toList ≠ [] := by rw [Lib.toList_data, hl]; simp
    have HLL := Lib.hid hl
    rw [← hl]
    clear hl
    go_enter Tryz.func34, Tryz.ntmps34
    go_wp2
    go_loop [3] (fun s3 => ∃ k : Nat, k ≤ s.size ∧ s3 = .int .i64 (k : Int) ∧ Hid (∀ i, i < k → tagAt s.data.toList i = true)) (fun s3 => s.size - (intOf s3).toNat)
    case atStart => exact ⟨0, Nat.zero_le _, rfl, Lib.hid (fun i h => by omega)⟩
    case round =>
      obtain ⟨k, hk, rfl, HP⟩ := hrel
      have hwk : IntKind.i64.wrap ((k : Int) + 1) = (k : Int) + 1 := by rw [IntKind.wrap_i64]; omega
      by_cases hlt : k < s.size
      · have hlt2 : (k : Int) < s.size := by omega
        have hta : tagAt s.data.toList k = if k = 0 then lowB s[k] else inB s[k] := by
          unfold tagAt
          rw [List.getElem?_eq_getElem (by simpa using hlt)]
          rfl
        have hv0 : (0 : Int) ≤ (s[k].toNat : Int) := by omega
        have hlow := lowB_eq s[k]
        have hdig := digB_eq s[k]
        have hin : inB s[k] = (lowB s[k] || digB s[k]) := rfl
        rcases (by omega : ((97 : Int) ≤ (s[k].toNat : Int) ∧ (s[k].toNat : Int) ≤ 122) ∨ (s[k].toNat : Int) = 95 ∨ (122 < (s[k].toNat : Int)) ∨ ((s[k].toNat : Int) < 97 ∧ (s[k].toNat : Int) ≠ 95 ∧ k = 0) ∨ ((s[k].toNat : Int) < 48 ∧ k ≠ 0) ∨ ((48 : Int) ≤ (s[k].toNat : Int) ∧ (s[k].toNat : Int) ≤ 57 ∧ k ≠ 0) ∨ ((57 : Int) < (s[k].toNat : Int) ∧ (s[k].toNat : Int) < 97 ∧ (s[k].toNat : Int) ≠ 95 ∧ k ≠ 0)) with ⟨h1, h2⟩ | h1 | h1 | ⟨h1, h2, h3⟩ | ⟨h1, h3⟩ | ⟨h1, h2, h3⟩ | ⟨h1, h2, h4, h3⟩
        · have e95 : ((s[k].toNat : Int) == 95) = false := by simp; omega
          have f97 : (97 : Int) ≤ (s[k].toNat : Int) := by omega
          have f122 : (s[k].toNat : Int) ≤ 122 := by omega
          rw [show lowB s[k] = true from by rw [hlow]; simp; omega] at hta hin
          replace hta : tagAt s.data.toList k = true := by rw [hta, hin]; split <;> rfl
          try clear h1
          try clear h2
          try clear h4
          try clear h3
          clear hlow hdig hin
          have HTA := Lib.hid hta
          clear hta
          go_wp2
          go_round
          case rel => exact ⟨k + 1, by omega, by go_num, Lib.hid (fun i h => by
            by_cases he : i = k
            · subst he; exact HTA.out
            · exact HP.out i (by omega))⟩
          case measure => simp [intOf]; omega
        · have e95 : ((s[k].toNat : Int) == 95) = true := by simp; omega
          have f97 : ¬ (97 : Int) ≤ (s[k].toNat : Int) := by omega
          rw [show lowB s[k] = true from by rw [hlow]; simp; omega] at hta hin
          replace hta : tagAt s.data.toList k = true := by rw [hta, hin]; split <;> rfl
          try clear h1
          try clear h2
          try clear h4
          try clear h3
          clear hlow hdig hin
          have HTA := Lib.hid hta
          clear hta
          go_wp2
          go_round
          case rel => exact ⟨k + 1, by omega, by go_num, Lib.hid (fun i h => by
            by_cases he : i = k
            · subst he; exact HTA.out
            · exact HP.out i (by omega))⟩
          case measure => simp [intOf]; omega
        · have e95 : ((s[k].toNat : Int) == 95) = false := by simp; omega
          have f97 : (97 : Int) ≤ (s[k].toNat : Int) := by omega
          have f122 : ¬ (s[k].toNat : Int) ≤ 122 := by omega
          have f48 : ¬ (s[k].toNat : Int) < 48 := by omega
          have f57 : (57 : Int) < (s[k].toNat : Int) := by omega
          rw [show lowB s[k] = false from by rw [hlow]; simp; omega] at hta hin
          rw [show digB s[k] = false from by rw [hdig]; simp; omega] at hin
          replace hta : tagAt s.data.toList k = false := by rw [hta, hin]; split <;> rfl
          try clear h1
          try clear h2
          try clear h4
          try clear h3
          clear hlow hdig hin
          have HTB := Lib.hid (tag_bad s.data.toList k (by simpa using hlt) hta)
          clear hta
          go_wp2
          all_goals
            go_ret
            exact ⟨by rw [HTB.out]; rfl, rfl⟩
        · have e95 : ((s[k].toNat : Int) == 95) = false := by simp; omega
          have f97 : ¬ (97 : Int) ≤ (s[k].toNat : Int) := by omega
          rw [show lowB s[k] = false from by rw [hlow]; simp; omega] at hta hin
          have ek0 : ((k : Int) == 0) = true := by simp; omega
          rw [if_pos h3] at hta
          try clear h1
          try clear h2
          try clear h4
          try clear h3
          clear hlow hdig hin
          have HTB := Lib.hid (tag_bad s.data.toList k (by simpa using hlt) hta)
          clear hta
          go_wp2
          all_goals
            go_ret
            exact ⟨by rw [HTB.out]; rfl, rfl⟩
        · have e95 : ((s[k].toNat : Int) == 95) = false := by simp; omega
          have f97 : ¬ (97 : Int) ≤ (s[k].toNat : Int) := by omega
          have f48 : (s[k].toNat : Int) < 48 := by omega
          rw [show lowB s[k] = false from by rw [hlow]; simp; omega] at hta hin
          rw [show digB s[k] = false from by rw [hdig]; simp; omega] at hin
          have ek0 : ((k : Int) == 0) = false := by simp; omega
          rw [if_neg h3, hin] at hta
          try clear h1
          try clear h2
          try clear h4
          try clear h3
          clear hlow hdig hin
          have HTB := Lib.hid (tag_bad s.data.toList k (by simpa using hlt) hta)
          clear hta
          go_wp2
          all_goals
            go_ret
            exact ⟨by rw [HTB.out]; rfl, rfl⟩
        · have e95 : ((s[k].toNat : Int) == 95) = false := by simp; omega
          have f97 : ¬ (97 : Int) ≤ (s[k].toNat : Int) := by omega
          have f48 : ¬ (s[k].toNat : Int) < 48 := by omega
          have f57 : ¬ (57 : Int) < (s[k].toNat : Int) := by omega
          rw [show lowB s[k] = false from by rw [hlow]; simp; omega] at hta hin
          rw [show digB s[k] = true from by rw [hdig]; simp; omega] at hin
          have ek0 : ((k : Int) == 0) = false := by simp; omega
          rw [if_neg h3, hin] at hta
          try clear h1
          try clear h2
          try clear h4
          try clear h3
          clear hlow hdig hin
          have HTA := Lib.hid hta
          clear hta
          go_wp2
          go_round
          case rel => exact ⟨k + 1, by omega, by go_num, Lib.hid (fun i h => by
            by_cases he : i = k
            · subst he; exact HTA.out
            · exact HP.out i (by omega))⟩
          case measure => simp [intOf]; omega
        · have e95 : ((s[k].toNat : Int) == 95) = false := by simp; omega
          have f97 : ¬ (97 : Int) ≤ (s[k].toNat : Int) := by omega
          have f48 : ¬ (s[k].toNat : Int) < 48 := by omega
          have f57 : (57 : Int) < (s[k].toNat : Int) := by omega
          rw [show lowB s[k] = false from by rw [hlow]; simp; omega] at hta hin
          rw [show digB s[k] = false from by rw [hdig]; simp; omega] at hin
          have ek0 : ((k : Int) == 0) = false := by simp; omega
          rw [if_neg h3, hin] at hta
          try clear h1
          try clear h2
          try clear h4
          try clear h3
          clear hlow hdig hin
          have HTB := Lib.hid (tag_bad s.data.toList k (by simpa using hlt) hta)
          clear hta
          go_wp2
          all_goals
            go_ret
            exact ⟨by rw [HTB.out]; rfl, rfl⟩
      · have hlt2 : ¬ (k : Int) < s.size := by omega
        have HB := Lib.hid (tag_all s.data.toList (by rw [HLL.out]; simp) (fun i hi => HP.out i (by simp at hi; omega)))
        go_wp2
        go_ret
        exact ⟨by rw [HB.out]; rfl, rfl⟩
theorem rname_any (s : ByteArray) (hs : s.size ≤ 100000) (w : World) : Calls Tryz.prog 33 #[.string s] w fun e w' => e = .returned (.bool (nameL s.data.toList)) ∧ w = w' := by
  unfold nameL
  have HT := Lib.hid (rtag_any s hs w)
  have HW := Lib.hid (rword_any s hs w)
  generalize isWordL s.data.toList = b at *
  generalize tagL s.data.toList = a at *
  cases a
  · go_enter Tryz.func33, Tryz.ntmps33
    go_wp2_with (go_at_call 34; ((with_reducible refine HT.out.mono ?_); rintro e w' ⟨rfl, rfl⟩))
    go_ret
    exact ⟨rfl, rfl⟩
  · cases b
    all_goals
      go_enter Tryz.func33, Tryz.ntmps33
      go_wp2_with (first | (go_at_call 34; ((with_reducible refine HT.out.mono ?_); rintro e w' ⟨rfl, rfl⟩)) | (go_at_call 53; ((with_reducible refine HW.out.mono ?_); rintro e w' ⟨rfl, rfl⟩)))
      go_ret
      exact ⟨rfl, rfl⟩
end Go.Proofs.YtoakfninndkgaaaGreatDoor
