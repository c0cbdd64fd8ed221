/- Walks: the document's names, tags, words. Walks: ref08.Right. -/
import Derived.Test.YtifilhkkgkihpaaGreatDoorAs02
import Derived.Test.YtifilhkkgkihpaaGreatDoorAs04
set_option linter.unusedSimpArgs false
set_option linter.unusedVariables false
set_option linter.unusedSimpArgs false
set_option linter.unusedVariables false
namespace Go.Proofs.YtifilhkkgkihpaaGreatDoor
open Go.RowKit
theorem word_low (s : ByteArray) {k : Nat} (h : ∀ i (hi : i < s.size), i < k → (97 ≤ s[i] && s[i] ≤ 122) = true) (hk : s.size ≤ k) : letters s.data.toList = true := by
  unfold letters
  refine List.all_eq_true.2 (fun c hc => ?_)
  obtain ⟨i, hi, rfl⟩ := List.getElem_of_mem hc
  exact h i (by simpa using hi) (Nat.lt_of_lt_of_le (show i < s.size from by simpa using hi) hk)
theorem not_word (s : ByteArray) (k : Nat) (hk : k < s.size) (h : (s[k].toNat : Int) < 97 ∨ (122 : Int) < (s[k].toNat : Int)) : isWordL s.data.toList = false := by
  cases hw : isWordL s.data.toList with
  | false => rfl
  | true =>
    have h1 := List.all_eq_true.1 (word_letters hw).1 (s[k]) (by
      have : s.data.toList[k]'(by simpa using hk) = s[k] := rfl
      rw [← this]
      exact List.getElem_mem _)
    simp [UInt8.le_iff_toNat_le] at h1
    omega
theorem not_stands (s : ByteArray) (j : Nat) (h : ∀ i, i < j → standsAt i s.data.toList = false) (hj : ¬ j + s.size + 2 ≤ 89) : isWordL s.data.toList = false := by
  cases hw : isWordL s.data.toList with
  | false => rfl
  | true =>
    obtain ⟨i, h1, h2⟩ := word_stands hw
    have : s.data.toList.length = s.size := by simp
    rw [h i (by omega)] at h2
    exact h2.symm
theorem stands_eq (s : ByteArray) (j : Nat) : (((⟨#[32, 102, 117, 110, 32, 108, 101, 116, 32, 114, 101, 99, 32, 105, 110, 32, 105, 102, 32, 116, 104, 101, 110, 32, 101, 108, 115, 101, 32, 99, 97, 115, 101, 32, 111, 102, 32, 101, 110, 100, 32, 116, 114, 117, 101, 32, 102, 97, 108, 115, 101, 32, 105, 110, 116, 32, 98, 111, 111, 108, 32, 115, 116, 114, 32, 102, 108, 111, 97, 116, 32, 100, 121, 110, 32, 97, 110, 121, 32, 110, 111, 110, 101, 32, 116, 121, 112, 101, 32]⟩ : ByteArray).extract j (j + s.size + 2)).toList == ((⟨#[32]⟩ : ByteArray) ++ s ++ (⟨#[32]⟩ : ByteArray)).toList) = standsAt j s.data.toList := by
  rw [Lib.toList_data, Lib.toList_data, Lib.extract_data, ByteArray.data_append, ByteArray.data_append]
  unfold standsAt
  have e : j + s.size + 2 - j = s.data.toList.length + 2 := by simp; omega
  rw [e]
  have e1 : ((⟨#[32, 102, 117, 110, 32, 108, 101, 116, 32, 114, 101, 99, 32, 105, 110, 32, 105, 102, 32, 116, 104, 101, 110, 32, 101, 108, 115, 101, 32, 99, 97, 115, 101, 32, 111, 102, 32, 101, 110, 100, 32, 116, 114, 117, 101, 32, 102, 97, 108, 115, 101, 32, 105, 110, 116, 32, 98, 111, 111, 108, 32, 115, 116, 114, 32, 102, 108, 111, 97, 116, 32, 100, 121, 110, 32, 97, 110, 121, 32, 110, 111, 110, 101, 32, 116, 121, 112, 101, 32]⟩ : ByteArray)).data.toList = textW := rfl
  rw [e1]
  simp
set_option maxRecDepth 20000 in
set_option maxHeartbeats 2000000 in
theorem rword_any (s : ByteArray) (hs : s.size ≤ 100000) (w : World) : Calls Tryz.prog 92 #[.string s] w fun e w' => e = .returned (.bool (isWordL s.data.toList)) ∧ w = w' := by
  cases hl : s.data.toList with
  | nil =>
    have hz : s.toList = [] := by rw [Lib.toList_data]; exact hl
    have hz2 : s.toList.isEmpty = true := by rw [hz]; rfl
    clear hl
    go_enter Tryz.func92, Tryz.ntmps92
    go_wp2
    go_ret
    exact ⟨rfl, rfl⟩
  | cons c l =>
    have hne : s.toList.isEmpty = false := by rw [Lib.toList_data, hl]; rfl
    have hne2 : s.toList ≠ [] := by rw [Lib.toList_data, hl]; simp
    have HLL := Lib.hid hl
    rw [← hl]
    clear hl
    go_enter Tryz.func92, Tryz.ntmps92
    go_wp2
    go_loop [3] (fun s3 => ∃ k : Nat, k ≤ s.size ∧ s3 = .int .i64 (k : Int) ∧ Hid (∀ i (hi : i < s.size), i < k → (97 ≤ s[i] && s[i] ≤ 122) = true)) (fun s3 => s.size - (intOf s3).toNat)
    case atStart => exact ⟨0, Nat.zero_le _, rfl, Lib.hid (fun i _ h => by omega)⟩
    case round =>
      obtain ⟨k, hk, rfl, HP⟩ := hrel
      have hwk : IntKind.i64.wrap ((k : Int) + 1) = (k : Int) + 1 := by rw [IntKind.wrap_i64]; omega
      by_cases hlt : k < s.size
      · have hlt2 : (k : Int) < s.size := by omega
        by_cases hlo : (97 : Int) ≤ (s[k].toNat : Int)
        · have hlo2 : ¬ (s[k].toNat : Int) < 97 := by omega
          by_cases hhi : (s[k].toNat : Int) ≤ 122
          · have hhi2 : ¬ (122 : Int) < (s[k].toNat : Int) := by omega
            go_wp2
            go_round
            case rel => exact ⟨k + 1, by omega, by go_num, Lib.hid (fun i hi h => by
              by_cases he : i = k
              · subst he
                simp [UInt8.le_iff_toNat_le]
                omega
              · exact HP.out i hi (by omega))⟩
            case measure => simp [intOf]; omega
          · have hhi2 : (122 : Int) < (s[k].toNat : Int) := by omega
            have HNW := Lib.hid (not_word s k hlt (Or.inr hhi2))
            go_wp2
            go_ret
            exact ⟨by rw [HNW.out]; rfl, rfl⟩
        · have hlo2 : (s[k].toNat : Int) < 97 := by omega
          have HNW := Lib.hid (not_word s k hlt (Or.inl hlo2))
          go_wp2
          go_ret
          exact ⟨by rw [HNW.out]; rfl, rfl⟩
      · have hlt2 : ¬ (k : Int) < s.size := by omega
        go_wp2
        go_loop [4] (fun s4 => ∃ j : Nat, j ≤ 89 ∧ s4 = .int .i64 (j : Int) ∧ Hid (∀ i, i < j → standsAt i s.data.toList = false)) (fun s4 => 89 - (intOf s4).toNat)
        case atStart => exact ⟨0, Nat.zero_le _, rfl, Lib.hid (fun i h => by omega)⟩
        case round =>
          obtain ⟨j, hj, rfl, HQ⟩ := hrel
          have hwk : IntKind.i64.wrap ((j : Int) + s.size) = (j : Int) + s.size := by rw [IntKind.wrap_i64]; omega
          have hwk2 : IntKind.i64.wrap ((j : Int) + s.size + 2) = (j : Int) + s.size + 2 := by rw [IntKind.wrap_i64]; omega
          have hwk3 : IntKind.i64.wrap ((j : Int) + 1) = (j : Int) + 1 := by rw [IntKind.wrap_i64]; omega
          by_cases hlt : j + s.size + 2 ≤ 89
          · have hlt2 : (j : Int) + s.size + 2 ≤ 89 := by omega
            have hst := stands_eq s j
            cases hb : standsAt j s.data.toList with
            | true =>
              rw [hb] at hst
              have HB := Lib.hid (stands_word (word_low s HP.out (by omega)) (by rw [HLL.out]; simp) j (by simp; omega) hb)
              clear hb
              go_wp2
              go_ret
              exact ⟨by rw [HB.out]; rfl, rfl⟩
            | false =>
              rw [hb] at hst
              have HB := Lib.hid hb
              clear hb
              go_wp2
              go_round
              case rel => exact ⟨j + 1, by omega, by go_num, Lib.hid (fun i h => by
                by_cases he : i = j
                · subst he; exact HB.out
                · exact HQ.out i (by omega))⟩
              case measure => simp [intOf]; omega
          · have hlt2 : ¬ (j : Int) + s.size + 2 ≤ 89 := by omega
            have HNW := Lib.hid (not_stands s j HQ.out hlt)
            go_wp2
            go_ret
            exact ⟨by rw [HNW.out]; rfl, rfl⟩
/-- the first byte is a small letter; all others may be of a name. -/
def tagAt (s : List UInt8) (i : Nat) : Bool := match s[i]? with | none => true | some c => if i = 0 then lowB c else inB c
theorem tag_all (l : List UInt8) (h0 : l ≠ []) (h : ∀ i, i < l.length → tagAt l i = true) : tagL l = true := by
  cases l with
  | nil => exact absurd rfl h0
  | cons c l =>
    have h1 := h 0 (by simp)
    simp [tagAt] at h1
    simp only [tagL, h1, Bool.true_and, List.all_eq_true]
    intro x hx
    obtain ⟨i, hi, rfl⟩ := List.getElem_of_mem hx
    have := h (i + 1) (by simpa using hi)
    simpa [tagAt, hi] using this
theorem tag_bad (l : List UInt8) (i : Nat) (hi : i < l.length) (h : tagAt l i = false) : tagL l = false := by
  cases l with
  | nil => rfl
  | cons c l =>
    cases i with
    | zero => simp [tagAt] at h; simp [tagL, h]
    | succ i =>
      have hi' : i < l.length := by simpa using hi
      simp [tagAt, hi'] at h
      have : l.all inB = false := List.all_eq_false.2 ⟨l[i], List.getElem_mem _, by simp [h]⟩
      simp [tagL, this]
set_option maxRecDepth 20000 in
set_option maxHeartbeats 2000000 in
theorem rtag_any (s : ByteArray) (hs : s.size ≤ 100000) (w : World) : Calls Tryz.prog 69 #[.string s] w fun e w' => e = .returned (.bool (tagL s.data.toList)) ∧ w = w' := by
  cases hl : s.data.toList with
  | nil =>
    have hz : s.toList = [] := by rw [Lib.toList_data]; exact hl
    have hz2 : s.toList.isEmpty = true := by rw [hz]; rfl
    have hsz : s.size = 0 := by have := congrArg List.length hl; simpa using this
    have hsz2 : (s.size : Int) ≤ 0 := by omega
    clear hl hsz
    go_enter Tryz.func69, Tryz.ntmps69
    go_wp2
    go_loop [3] (fun s3 => s3 = .int .i64 0) (fun _ => 0)
    case atStart => rfl
    case round =>
      obtain rfl := hrel
      have hnlt : ¬ (0 : Int) < s.size := by omega
      go_wp2
      go_ret
      exact ⟨rfl, rfl⟩
  | cons c l =>
    have hne : s.toList.isEmpty = false := by rw [Lib.toList_data, hl]; rfl
    have hne2 : s.toList ≠ [] := by rw [Lib.toList_data, hl]; simp
    have HLL := Lib.hid hl
    rw [← hl]
    clear hl
    go_enter Tryz.func69, Tryz.ntmps69
    go_wp2
    go_loop [3] (fun s3 => ∃ k : Nat, k ≤ s.size ∧ s3 = .int .i64 (k : Int) ∧ Hid (∀ i, i < k → tagAt s.data.toList i = true)) (fun s3 => s.size - (intOf s3).toNat)
    case atStart => exact ⟨0, Nat.zero_le _, rfl, Lib.hid (fun i h => by omega)⟩
    case round =>
      obtain ⟨k, hk, rfl, HP⟩ := hrel
      have hwk : IntKind.i64.wrap ((k : Int) + 1) = (k : Int) + 1 := by rw [IntKind.wrap_i64]; omega
      by_cases hlt : k < s.size
      · have hlt2 : (k : Int) < s.size := by omega
        have hta : tagAt s.data.toList k = if k = 0 then lowB s[k] else inB s[k] := by
          unfold tagAt
          rw [List.getElem?_eq_getElem (by simpa using hlt)]
          rfl
        have hv0 : (0 : Int) ≤ (s[k].toNat : Int) := by omega
        have hlow := lowB_eq s[k]
        have hdig := digB_eq s[k]
        have hin : inB s[k] = (lowB s[k] || digB s[k]) := rfl
        rcases (by omega : ((97 : Int) ≤ (s[k].toNat : Int) ∧ (s[k].toNat : Int) ≤ 122) ∨ (s[k].toNat : Int) = 95 ∨ (122 < (s[k].toNat : Int)) ∨ ((s[k].toNat : Int) < 97 ∧ (s[k].toNat : Int) ≠ 95 ∧ k = 0) ∨ ((s[k].toNat : Int) < 48 ∧ k ≠ 0) ∨ ((48 : Int) ≤ (s[k].toNat : Int) ∧ (s[k].toNat : Int) ≤ 57 ∧ k ≠ 0) ∨ ((57 : Int) < (s[k].toNat : Int) ∧ (s[k].toNat : Int) < 97 ∧ (s[k].toNat : Int) ≠ 95 ∧ k ≠ 0)) with ⟨h1, h2⟩ | h1 | h1 | ⟨h1, h2, h3⟩ | ⟨h1, h3⟩ | ⟨h1, h2, h3⟩ | ⟨h1, h2, h4, h3⟩
        · have e95 : ((s[k].toNat : Int) == 95) = false := by simp; omega
          have f97 : (97 : Int) ≤ (s[k].toNat : Int) := by omega
          have f122 : (s[k].toNat : Int) ≤ 122 := by omega
          rw [show lowB s[k] = true from by rw [hlow]; simp; omega] at hta hin
          replace hta : tagAt s.data.toList k = true := by rw [hta, hin]; split <;> rfl
          try clear h1
          try clear h2
          try clear h4
          try clear h3
          clear hlow hdig hin
          have HTA := Lib.hid hta
          clear hta
          go_wp2
          go_round
          case rel => exact ⟨k + 1, by omega, by go_num, Lib.hid (fun i h => by
            by_cases he : i = k
            · subst he; exact HTA.out
            · exact HP.out i (by omega))⟩
          case measure => simp [intOf]; omega
        · have e95 : ((s[k].toNat : Int) == 95) = true := by simp; omega
          have f97 : ¬ (97 : Int) ≤ (s[k].toNat : Int) := by omega
          rw [show lowB s[k] = true from by rw [hlow]; simp; omega] at hta hin
          replace hta : tagAt s.data.toList k = true := by rw [hta, hin]; split <;> rfl
          try clear h1
          try clear h2
          try clear h4
          try clear h3
          clear hlow hdig hin
          have HTA := Lib.hid hta
          clear hta
          go_wp2
          go_round
          case rel => exact ⟨k + 1, by omega, by go_num, Lib.hid (fun i h => by
            by_cases he : i = k
            · subst he; exact HTA.out
            · exact HP.out i (by omega))⟩
          case measure => simp [intOf]; omega
        · have e95 : ((s[k].toNat : Int) == 95) = false := by simp; omega
          have f97 : (97 : Int) ≤ (s[k].toNat : Int) := by omega
          have f122 : ¬ (s[k].toNat : Int) ≤ 122 := by omega
          have f48 : ¬ (s[k].toNat : Int) < 48 := by omega
          have f57 : (57 : Int) < (s[k].toNat : Int) := by omega
          rw [show lowB s[k] = false from by rw [hlow]; simp; omega] at hta hin
          rw [show digB s[k] = false from by rw [hdig]; simp; omega] at hin
          replace hta : tagAt s.data.toList k = false := by rw [hta, hin]; split <;> rfl
          try clear h1
          try clear h2
          try clear h4
          try clear h3
          clear hlow hdig hin
          have HTB := Lib.hid (tag_bad s.data.toList k (by simpa using hlt) hta)
          clear hta
          go_wp2
          all_goals
            go_ret
            exact ⟨by rw [HTB.out]; rfl, rfl⟩
        · have e95 : ((s[k].toNat : Int) == 95) = false := by simp; omega
          have f97 : ¬ (97 : Int) ≤ (s[k].toNat : Int) := by omega
          rw [show lowB s[k] = false from by rw [hlow]; simp; omega] at hta hin
          have ek0 : ((k : Int) == 0) = true := by simp; omega
          rw [if_pos h3] at hta
          try clear h1
          try clear h2
          try clear h4
          try clear h3
          clear hlow hdig hin
          have HTB := Lib.hid (tag_bad s.data.toList k (by simpa using hlt) hta)
          clear hta
          go_wp2
          all_goals
            go_ret
            exact ⟨by rw [HTB.out]; rfl, rfl⟩
        · have e95 : ((s[k].toNat : Int) == 95) = false := by simp; omega
          have f97 : ¬ (97 : Int) ≤ (s[k].toNat : Int) := by omega
          have f48 : (s[k].toNat : Int) < 48 := by omega
          rw [show lowB s[k] = false from by rw [hlow]; simp; omega] at hta hin
          rw [show digB s[k] = false from by rw [hdig]; simp; omega] at hin
          have ek0 : ((k : Int) == 0) = false := by simp; omega
          rw [if_neg h3, hin] at hta
          try clear h1
          try clear h2
          try clear h4
          try clear h3
          clear hlow hdig hin
          have HTB := Lib.hid (tag_bad s.data.toList k (by simpa using hlt) hta)
          clear hta
          go_wp2
          all_goals
            go_ret
            exact ⟨by rw [HTB.out]; rfl, rfl⟩
        · have e95 : ((s[k].toNat : Int) == 95) = false := by simp; omega
          have f97 : ¬ (97 : Int) ≤ (s[k].toNat : Int) := by omega
          have f48 : ¬ (s[k].toNat : Int) < 48 := by omega
          have f57 : ¬ (57 : Int) < (s[k].toNat : Int) := by omega
          rw [show lowB s[k] = false from by rw [hlow]; simp; omega] at hta hin
          rw [show digB s[k] = true from by rw [hdig]; simp; omega] at hin
          have ek0 : ((k : Int) == 0) = false := by simp; omega
          rw [if_neg h3, hin] at hta
          try clear h1
          try clear h2
          try clear h4
          try clear h3
          clear hlow hdig hin
          have HTA := Lib.hid hta
          clear hta
          go_wp2
          go_round
          case rel => exact ⟨k + 1, by omega, by go_num, Lib.hid (fun i h => by
            by_cases he : i = k
            · subst he; exact HTA.out
            · exact HP.out i (by omega))⟩
          case measure => simp [intOf]; omega
        · have e95 : ((s[k].toNat : Int) == 95) = false := by simp; omega
          have f97 : ¬ (97 : Int) ≤ (s[k].toNat : Int) := by omega
          have f48 : ¬ (s[k].toNat : Int) < 48 := by omega
          have f57 : (57 : Int) < (s[k].toNat : Int) := by omega
          rw [show lowB s[k] = false from by rw [hlow]; simp; omega] at hta hin
          rw [show digB s[k] = false from by rw [hdig]; simp; omega] at hin
          have ek0 : ((k : Int) == 0) = false := by simp; omega
          rw [if_neg h3, hin] at hta
          try clear h1
          try clear h2
          try clear h4
          try clear h3
          clear hlow hdig hin
          have HTB := Lib.hid (tag_bad s.data.toList k (by simpa using hlt) hta)
          clear hta
          go_wp2
          all_goals
            go_ret
            exact ⟨by rw [HTB.out]; rfl, rfl⟩
      · have hlt2 : ¬ (k : Int) < s.size := by omega
        have HB := Lib.hid (tag_all s.data.toList (by rw [HLL.out]; simp) (fun i hi => HP.out i (by simp at hi; omega)))
        go_wp2
        go_ret
        exact ⟨by rw [HB.out]; rfl, rfl⟩
theorem rname_any (s : ByteArray) (hs : s.size ≤ 100000) (w : World) : Calls Tryz.prog 68 #[.string s] w fun e w' => e = .returned (.bool (nameL s.data.toList)) ∧ w = w' := by
  unfold nameL
  have HT := Lib.hid (rtag_any s hs w)
  have HW := Lib.hid (rword_any s hs w)
  generalize isWordL s.data.toList = b at *
  generalize tagL s.data.toList = a at *
  cases a
  · go_enter Tryz.func68, Tryz.ntmps68
    go_wp2_with (go_at_call 69; ((with_reducible refine HT.out.mono ?_); rintro e w' ⟨rfl, rfl⟩))
    go_ret
    exact ⟨rfl, rfl⟩
  · cases b
    all_goals
      go_enter Tryz.func68, Tryz.ntmps68
      go_wp2_with (first | (go_at_call 69; ((with_reducible refine HT.out.mono ?_); rintro e w' ⟨rfl, rfl⟩)) | (go_at_call 92; ((with_reducible refine HW.out.mono ?_); rintro e w' ⟨rfl, rfl⟩)))
      go_ret
      exact ⟨rfl, rfl⟩
end Go.Proofs.YtifilhkkgkihpaaGreatDoor
set_option linter.unusedSimpArgs false
set_option linter.unusedVariables false
namespace Go.Proofs.YtifilhkkgkihpaaGreatDoor
open Go.RowKit
def nmOk (c8 c9 : Bool) (a : ByteArray) : Prop := (c8 = true → nameL a.data.toList = true) ∧ (c9 = true → tagL a.data.toList = true)
theorem typ_many {kd : Int} {op : Bool} {nn kn : Nat} {NS : List ByteArray} (h0 : 0 < nn) (h : nn < kn) : typB kd op nn kn NS = false := by
  have e1 : decide (nn = 0) = false := by simp; omega
  have e2 : decide (nn = kn) = false := by simp; omega
  unfold typB
  rw [e1, e2]
  simp
theorem head_kid {h : Hd} {n : Int} {p : Nat} {k : Int} (hk : h.KS[p]? = some k) (hb : k < 0 ∨ n ≤ k) : headB h.kd h.op n h.NS h.KS = false := by
  have : h.KS.all (fun k => decide (0 ≤ k) && decide (k < n)) = false := List.all_eq_false.2 ⟨k, List.mem_of_getElem? hk, by simp; omega⟩
  unfold headB
  rw [this]
  simp
theorem head_many {h : Hd} {n : Int} (h0 : 0 < h.NS.length) (hb : h.NS.length < h.KS.length) : headB h.kd h.op n h.NS h.KS = false := by
  unfold headB
  rw [typ_many h0 hb]
  simp
theorem head_rise {h : Hd} {n : Int} (hb : risesB h.NS = false) : headB h.kd h.op n h.NS h.KS = false := by
  unfold headB
  rw [hb]
  simp
theorem head_typ {h : Hd} {n : Int} (hb : typB h.kd h.op h.NS.length h.KS.length h.NS = false) : headB h.kd h.op n h.NS h.KS = false := by
  unfold headB
  rw [hb]
  simp
theorem typ_name {op : Bool} {nn kn : Nat} {NS : List ByteArray} {s : ByteArray} (hs : s ∈ NS) (hb : nameL s.data.toList = false) : typB 8 op nn kn NS = false := by
  have : (NS.all fun s => nameL s.data.toList) = false := List.all_eq_false.2 ⟨s, hs, by simp [hb]⟩
  unfold typB
  rw [this]
  simp
theorem typ_tag {op : Bool} {nn kn : Nat} {NS : List ByteArray} {s : ByteArray} (hs : s ∈ NS) (hb : tagL s.data.toList = false) : typB 9 op nn kn NS = false := by
  have : (NS.all fun s => tagL s.data.toList) = false := List.all_eq_false.2 ⟨s, hs, by simp [hb]⟩
  unfold typB
  rw [this]
  simp
theorem head_yes {h : Hd} {n : Int} (h10 : h.kd ≠ 10) (hr : risesB h.NS = true) (hk : ∀ (p : Nat) k, h.KS[p]? = some k → 0 ≤ k ∧ k < n) (ht : typB h.kd h.op h.NS.length h.KS.length h.NS = true) : headB h.kd h.op n h.NS h.KS = true := by
  have : h.KS.all (fun k => decide (0 ≤ k) && decide (k < n)) = true := List.all_eq_true.2 (fun k hk' => by
    obtain ⟨p, hp⟩ := List.getElem?_of_mem hk'
    have := hk p k hp
    simp; omega)
  unfold headB
  rw [hr, this, ht]
  simp [h10]
theorem all_names {NS : List ByteArray} {f : List UInt8 → Bool} (h : ∀ (p : Nat) a, NS[p]? = some a → f a.data.toList = true) : (NS.all fun s => f s.data.toList) = true := List.all_eq_true.2 (fun s hs => by
  obtain ⟨p, hp⟩ := List.getElem?_of_mem hs
  exact h p s hp)
set_option maxRecDepth 20000 in
set_option maxHeartbeats 4000000 in
theorem right_bad (w : World) (la : Option Addr) (ln lc : Nat) (root : Int) (HS : List Hd) (hH : ln = HS.length) (hln : (ln : Int) ≤ 100000) (hbad : ln = 0 ∨ (0 < ln ∧ 4096 < ln) ∨ ((0 < ln ∧ ln ≤ 4096) ∧ (root < 0 ∨ (0 ≤ root ∧ (ln : Int) ≤ root)))) :
    Calls Tryz.prog 33 #[.agg #[.slice la ln lc, .int .i64 root]] w (BoolPost w (graphB root HS)) := by
  have hf : graphB root HS = false := by
    unfold graphB
    rw [← hH]
    rcases hbad with h | ⟨_, h⟩ | ⟨⟨h0, h1⟩, h | ⟨h2, h⟩⟩
    · simp [h]
    · rw [show decide (ln ≤ 4096) = false from by simp; omega]; simp
    · rw [show decide (0 ≤ root) = false from by simp; omega]; simp
    · rw [show decide (root < (ln : Int)) = false from by simp; omega]; simp
  have HF := Lib.hid hf
  have hb0 : Below w.heap.size w (w.alloc (.cells #[.slice la ln lc, .int .i64 root] 36)) := (Below.refl _ _).alloc (Nat.le_refl _) _
  have HB := Lib.hid hb0
  clear hf hH hb0
  rcases hbad with rfl | ⟨h0, h1⟩ | ⟨⟨h0, h1⟩, h2 | ⟨h2, h3⟩⟩
  · go_enter Tryz.func33, Tryz.ntmps33
    go_wp2
    go_ret
    exact ⟨by rw [HF.out]; rfl, HB.out⟩
  · have hi : ¬ (ln : Int) = 0 := by omega
    have hi2 : (4096 : Int) < ln := by omega
    have hi3 : ((ln : Int) == 0) = false := by simpa using hi
    go_enter Tryz.func33, Tryz.ntmps33
    go_wp2
    go_ret
    exact ⟨by rw [HF.out]; rfl, HB.out⟩
  · have hi : ¬ (ln : Int) = 0 := by omega
    have hi2 : ¬ (4096 : Int) < ln := by omega
    have hi3 : ((ln : Int) == 0) = false := by simpa using hi
    go_enter Tryz.func33, Tryz.ntmps33
    go_wp2
    go_ret
    exact ⟨by rw [HF.out]; rfl, HB.out⟩
  · have hi : ¬ (ln : Int) = 0 := by omega
    have hi2 : ¬ (4096 : Int) < ln := by omega
    have hi3 : ((ln : Int) == 0) = false := by simpa using hi
    have hi4 : ¬ root < 0 := by omega
    go_enter Tryz.func33, Tryz.ntmps33
    go_wp2
    go_ret
    exact ⟨by rw [HF.out]; rfl, HB.out⟩
set_option maxRecDepth 20000 in
set_option maxHeartbeats 8000000 in
theorem right_h (w : World) (la : Option Addr) (ln lc : Nat) (root : Int) (HS : List Hd) (hH : HeadsIn w la ln HS) (hln : (ln : Int) ≤ 100000) :
    Calls Tryz.prog 33 #[.agg #[.slice la ln lc, .int .i64 root]] w (BoolPost w (graphB root HS)) := by
  by_cases hbad : ln = 0 ∨ (0 < ln ∧ 4096 < ln) ∨ ((0 < ln ∧ ln ≤ 4096) ∧ (root < 0 ∨ (0 ≤ root ∧ (ln : Int) ≤ root)))
  · exact right_bad w la ln lc root HS hH.1 hln hbad
  have h0 : ¬ (ln : Int) = 0 := by omega
  have h1 : ¬ (4096 : Int) < ln := by omega
  have h2 : ¬ root < 0 := by omega
  have h3 : ¬ (ln : Int) ≤ root := by omega
  have h4 : ((ln : Int) == 0) = false := by simpa using h0
  have hf : graphB root HS = HS.all (fun h => headB h.kd h.op HS.length h.NS h.KS) := by
    unfold graphB
    rw [← hH.1, show (decide (ln ≠ 0) && decide (ln ≤ 4096) && decide (0 ≤ root) && decide (root < (ln : Int))) = true from by simp; omega]
    simp
  obtain ⟨g, o, rfl, hg, hc⟩ := hH.2.resolve_left (by omega)
  have HC := Lib.hid hc
  have HG := Lib.hid hg
  have HL := Lib.hid hH.1
  have HF := Lib.hid hf
  have hxb : (w.alloc (.cells #[.slice (some ⟨g, o, none⟩) ln lc, .int .i64 root] 36)).heap[w.heap.size]? = some (.cells #[.slice (some ⟨g, o, none⟩) ln lc, .int .i64 root] 36 (0, 0)) := heap_alloc_new w _
  have HXB := Lib.hid hxb
  have HBA : Hid (Below w.heap.size w (w.alloc (.cells #[.slice (some ⟨g, o, none⟩) ln lc, .int .i64 root] 36))) := Lib.hid ((Below.refl _ _).alloc (Nat.le_refl _) _)
  clear hbad hf hc hg hH hxb
  go_enter Tryz.func33, Tryz.ntmps33
  go_upto_region 1 with (fail)
  generalize (w.alloc (.cells #[.slice (some ⟨g, o, none⟩) ln lc, .int .i64 root] 36)) = w1 at *
  have a0 : w1.cell? ⟨w.heap.size, 0, none⟩ = some (.slice (some ⟨g, o, none⟩) ln lc) := (by rw [cell_of_row _ _ 0 _ 36 _ HXB.out]; rfl)
  have a1 : w1.cell? ⟨w.heap.size, 1, none⟩ = some (.int .i64 root) := (by rw [cell_of_row _ _ 1 _ 36 _ HXB.out]; rfl)
  go_wp2
  clear a0 a1
  have HXL : Hid (w.heap.size < w1.heap.size) := Lib.hid (Array.getElem?_eq_some_iff.1 HXB.out).1
  go_loopw [36] (fun s36 wr => ∃ j : Nat, s36 = .int .i64 (j : Int) ∧ j ≤ ln ∧ Hid (Below w1.heap.size w1 wr) ∧ Hid (∀ i h, i < j → HS[i]? = some h → headB h.kd h.op HS.length h.NS h.KS = true)) (fun s36 _ => ln - (intOf s36).toNat)
  case atStart => exact ⟨0, rfl, Nat.zero_le _, Lib.hid (Below.refl _ _), Lib.hid (fun i h hi => by omega)⟩
  case round =>
    obtain ⟨j, rfl, hj, HBR, HA⟩ := hrel
    obtain ⟨wq, rfl⟩ : ∃ wq : World, wq = wr := ⟨_, rfl⟩
    have HJ := Lib.hid hj
    have hwj : IntKind.i64.wrap ((j : Int) + 1) = (j : Int) + 1 := by rw [IntKind.wrap_i64]; omega
    by_cases hjk : j < ln
    · have hjk2 : (j : Int) < ln := by omega
      obtain ⟨h, hh⟩ : ∃ h, HS[j]? = some h := ⟨_, List.getElem?_eq_getElem (by rw [← HL.out]; exact hjk)⟩
      have HH := Lib.hid hh
      have hin := HC.out j h hh
      have HIN := Lib.hid hin
      have hbr : Below w.heap.size w wq := HBA.out.trans (HBR.out.mono HBA.out.size)
      have HBW := Lib.hid hbr
      have b0 : wq.cell? ⟨g, o + j * 4, none⟩ = some (.int .i64 h.kd) := (by rw [← hin.c0]; exact hbr.cell (p := ⟨g, o + j * 4, none⟩) HG.out)
      have b1 : wq.cell? ⟨g, o + j * 4 + 1, none⟩ = some (.slice h.na h.nn h.nc) := (by rw [← hin.c1]; exact hbr.cell (p := ⟨g, o + j * 4 + 1, none⟩) HG.out)
      have b2 : wq.cell? ⟨g, o + j * 4 + 2, none⟩ = some (.slice h.ka h.kn h.kc) := (by rw [← hin.c2]; exact hbr.cell (p := ⟨g, o + j * 4 + 2, none⟩) HG.out)
      have b3 : wq.cell? ⟨g, o + j * 4 + 3, none⟩ = some (.bool h.op) := (by rw [← hin.c3]; exact hbr.cell (p := ⟨g, o + j * 4 + 3, none⟩) HG.out)
      clear hin hbr hh
      have hy : (wq.alloc (.cells #[.int .i64 h.kd, .slice h.na h.nn h.nc, .slice h.ka h.kn h.kc, .bool h.op] 33)).heap[wq.heap.size]? = some (.cells #[.int .i64 h.kd, .slice h.na h.nn h.nc, .slice h.ka h.kn h.kc, .bool h.op] 33 (0, 0)) := heap_alloc_new wq _
      have HY := Lib.hid hy
      have HBY : Hid (Below w1.heap.size w1 (wq.alloc (.cells #[.int .i64 h.kd, .slice h.na h.nn h.nc, .slice h.ka h.kn h.kc, .bool h.op] 33))) := Lib.hid (HBR.out.alloc HBR.out.size _)
      clear hy
      go_upto_region 6 with (fail)
      clear b0 b1 b2 b3
      generalize (wq.alloc (.cells #[.int .i64 h.kd, .slice h.na h.nn h.nc, .slice h.ka h.kn h.kc, .bool h.op] 33)) = w2 at *
      have a0 : w2.cell? ⟨w.heap.size, 0, none⟩ = some (.slice (some ⟨g, o, none⟩) ln lc) := (by rw [cell_of_row _ _ 0 _ 36 _ ((HBY.out.block _ HXL.out).trans HXB.out)]; rfl)
      have b0 : w2.cell? ⟨wq.heap.size, 0, none⟩ = some (.int .i64 h.kd) := (by rw [cell_of_row _ _ 0 _ 33 _ HY.out]; rfl)
      have b1 : w2.cell? ⟨wq.heap.size, 1, none⟩ = some (.slice h.na h.nn h.nc) := (by rw [cell_of_row _ _ 1 _ 33 _ HY.out]; rfl)
      have b2 : w2.cell? ⟨wq.heap.size, 2, none⟩ = some (.slice h.ka h.kn h.kc) := (by rw [cell_of_row _ _ 2 _ 33 _ HY.out]; rfl)
      have b3 : w2.cell? ⟨wq.heap.size, 3, none⟩ = some (.bool h.op) := (by rw [cell_of_row _ _ 3 _ 33 _ HY.out]; rfl)
      have HYL : Hid (wq.heap.size < w2.heap.size) := Lib.hid (Array.getElem?_eq_some_iff.1 HY.out).1
      have HBZ : Hid (Below w.heap.size w w2) := Lib.hid (HBA.out.trans (HBY.out.mono HBA.out.size))
      have HFALSE : Hid (headB h.kd h.op HS.length h.NS h.KS = false → graphB root HS = false) := Lib.hid (fun e => by
        rw [HF.out]
        exact List.all_eq_false.2 ⟨h, List.mem_of_getElem? HH.out, by rw [e]; simp⟩)
      have HNM := Lib.hid (HIN.out.ok.on HBZ.out).names
      have HKD := Lib.hid (HIN.out.ok.on HBZ.out).kids
      have HNL := Lib.hid HIN.out.ok.names.1
      have HKL := Lib.hid HIN.out.ok.kids.1
      have hnb : (h.nn : Int) ≤ 100000 := (by have := HIN.out.ok.nnb; omega)
      have hkb : (h.kn : Int) ≤ 1000 := (by have := HIN.out.ok.knb; omega)
      go_wp2
      go_loop [43] (fun s43 => ∃ i : Nat, s43 = .int .i64 (i : Int) ∧ i ≤ h.kn ∧ Hid (∀ p k, p < i → h.KS[p]? = some k → (0 ≤ k ∧ k < (HS.length : Int))) ∧ Hid (h.nn = 0 ∨ i ≤ h.nn)) (fun s43 => h.kn - (intOf s43).toNat)
      case atStart => exact ⟨0, rfl, Nat.zero_le _, Lib.hid (fun p k hp => by omega), Lib.hid (Or.inr (Nat.zero_le _))⟩
      case round =>
        obtain ⟨i, rfl, hi, HKA, HKN⟩ := hrel
        have hwi : IntKind.i64.wrap ((i : Int) + 1) = (i : Int) + 1 := by rw [IntKind.wrap_i64]; omega
        by_cases hik : i < h.kn
        · have hik2 : (i : Int) < h.kn := by omega
          obtain ⟨k, hk⟩ : ∃ k, h.KS[i]? = some k := ⟨_, List.getElem?_eq_getElem (by rw [← HKL.out]; exact hik)⟩
          obtain ⟨gk, ok, ek, hgk, hck⟩ := HKD.out.2.resolve_left (by omega)
          have ck := hck i k hk
          have HKK := Lib.hid hk
          clear hk hck hgk
          generalize h.ka = ka at *
          subst ek
          rcases (by omega : k < 0 ∨ (0 ≤ k ∧ (ln : Int) ≤ k) ∨ ((0 ≤ k ∧ k < ln) ∧ h.nn = 0) ∨ ((0 ≤ k ∧ k < ln) ∧ 0 < h.nn ∧ i < h.nn) ∨ ((0 ≤ k ∧ k < ln) ∧ 0 < h.nn ∧ h.nn ≤ i)) with k1 | ⟨k1, k2⟩ | ⟨⟨k1, k2⟩, k3⟩ | ⟨⟨k1, k2⟩, k3, k4⟩ | ⟨⟨k1, k2⟩, k3, k4⟩
          · have HFF := Lib.hid (HFALSE.out (head_kid HKK.out (Or.inl k1)))
            go_wp2
            go_ret
            exact ⟨by rw [HFF.out]; rfl, HBZ.out⟩
          · have k3 : ¬ k < 0 := by omega
            have HFF := Lib.hid (HFALSE.out (head_kid HKK.out (Or.inr (by rw [← HL.out]; exact k2))))
            go_wp2
            go_ret
            exact ⟨by rw [HFF.out]; rfl, HBZ.out⟩
          · have k5 : ¬ k < 0 := by omega
            have k6 : ¬ (ln : Int) ≤ k := by omega
            have k7 : ¬ (0 : Int) < h.nn := by omega
            have HK0 := Lib.hid k3
            clear k3
            go_wp2
            go_round
            case rel => exact ⟨i + 1, by go_num, by omega, Lib.hid (fun p k' hp hk' => by
              by_cases he : p = i
              · subst he
                have := hk'.symm.trans HKK.out
                cases this
                exact ⟨by omega, by rw [← HL.out]; omega⟩
              · exact HKA.out p k' (by omega) hk'), Lib.hid (Or.inl HK0.out)⟩
            case measure => simp [intOf]; omega
          · have k5 : ¬ k < 0 := by omega
            have k6 : ¬ (ln : Int) ≤ k := by omega
            have k7 : (0 : Int) < h.nn := by omega
            have k8 : ¬ (h.nn : Int) ≤ i := by omega
            have HK0 := Lib.hid k4
            go_wp2
            go_round
            case rel => exact ⟨i + 1, by go_num, by omega, Lib.hid (fun p k' hp hk' => by
              by_cases he : p = i
              · subst he
                have := hk'.symm.trans HKK.out
                cases this
                exact ⟨by omega, by rw [← HL.out]; omega⟩
              · exact HKA.out p k' (by omega) hk'), Lib.hid (Or.inr HK0.out)⟩
            case measure => simp [intOf]; omega
          · have k5 : ¬ k < 0 := by omega
            have k6 : ¬ (ln : Int) ≤ k := by omega
            have k7 : (0 : Int) < h.nn := by omega
            have k8 : (h.nn : Int) ≤ i := by omega
            have HFF := Lib.hid (HFALSE.out (head_many (by rw [← HNL.out]; exact k3) (by rw [← HNL.out, ← HKL.out]; omega)))
            go_wp2
            go_ret
            exact ⟨by rw [HFF.out]; rfl, HBZ.out⟩
        · have hik2 : ¬ (i : Int) < h.kn := by omega
          have HKALL : Hid (∀ p k, h.KS[p]? = some k → (0 ≤ k ∧ k < (HS.length : Int))) := Lib.hid (fun p k hp => HKA.out p k (by
            have := (List.getElem?_eq_some_iff.1 hp).1
            rw [← HKL.out] at this
            omega) hp)
          go_wp2
          have HE8 : Hid (∃ c : Bool, (h.kd == 8) = c) := Lib.hid ⟨_, rfl⟩
          have HE9 : Hid (∃ c : Bool, (h.kd == 9) = c) := Lib.hid ⟨_, rfl⟩
          obtain ⟨c8, hc8⟩ := HE8.out
          obtain ⟨c9, hc9⟩ := HE9.out
          have HC8 := Lib.hid hc8
          have HC9 := Lib.hid hc9
          clear hc8 hc9
          go_loopw [74] (fun s74 wr => ∃ i : Nat, s74 = .int .i64 (i : Int) ∧ i ≤ h.nn ∧ Hid (Below w2.heap.size w2 wr) ∧ Hid (∀ p a b, p + 1 < i → h.NS[p]? = some a → h.NS[p + 1]? = some b → bl a b = true) ∧ Hid (∀ p a, p < i → h.NS[p]? = some a → nmOk c8 c9 a)) (fun s74 _ => h.nn - (intOf s74).toNat)
          case atStart => exact ⟨0, rfl, Nat.zero_le _, Lib.hid (Below.refl _ _), Lib.hid (fun p a b hp => by omega), Lib.hid (fun p a hp => by omega)⟩
          case round =>
            obtain ⟨m, rfl, hm, HBM, HRI, HNO⟩ := hrel
            have hwm : IntKind.i64.wrap ((m : Int) + 1) = (m : Int) + 1 := by rw [IntKind.wrap_i64]; omega
            have HYM := Lib.hid ((HBM.out.block _ HYL.out).trans HY.out)
            have b0' : wr.cell? ⟨wq.heap.size, 0, none⟩ = some (.int .i64 h.kd) := (by rw [cell_of_row _ _ 0 _ 33 _ HYM.out]; rfl)
            have b1' : wr.cell? ⟨wq.heap.size, 1, none⟩ = some (.slice h.na h.nn h.nc) := (by rw [cell_of_row _ _ 1 _ 33 _ HYM.out]; rfl)
            have b2' : wr.cell? ⟨wq.heap.size, 2, none⟩ = some (.slice h.ka h.kn h.kc) := (by rw [cell_of_row _ _ 2 _ 33 _ HYM.out]; rfl)
            have b3' : wr.cell? ⟨wq.heap.size, 3, none⟩ = some (.bool h.op) := (by rw [cell_of_row _ _ 3 _ 33 _ HYM.out]; rfl)
            have HBQ : Hid (Below w.heap.size w wr) := Lib.hid (HBZ.out.trans (HBM.out.mono HBZ.out.size))
            have HB1Q : Hid (Below w1.heap.size w1 wr) := Lib.hid (HBY.out.trans (HBM.out.mono HBY.out.size))
            by_cases hmn : m < h.nn
            · have hmn2 : (m : Int) < h.nn := by omega
              obtain ⟨s, hs⟩ : ∃ s, h.NS[m]? = some s := ⟨_, List.getElem?_eq_getElem (by rw [← HNL.out]; exact hmn)⟩
              obtain ⟨gn, on, en, hgn, hcn⟩ := HNM.out.2.resolve_left (by omega)
              have cs : wr.cell? ⟨gn, on + m, none⟩ = some (.string s) := (by rw [← hcn m s hs]; exact HBM.out.cell (p := ⟨gn, on + m, none⟩) hgn)
              have HSM := Lib.hid (HIN.out.ok.small s (List.mem_of_getElem? hs))
              have HSS := Lib.hid hs
              have HCN := Lib.hid hcn
              have HGN := Lib.hid hgn
              clear hs hcn hgn
              generalize h.na = na at *
              subst en
              by_cases hm0 : m = 0
              · have hd0 : decide ((0 : Int) < (m : Int)) = false := by simp; omega
                have hd1 : ¬ (0 : Int) < (m : Int) := by omega
                have hd2 : decide (0 < m) = false := by simp; omega
                have HRN : Hid (∀ p a b, p + 1 < m + 1 → h.NS[p]? = some a → h.NS[p + 1]? = some b → bl a b = true) := Lib.hid (fun p a b hp => by omega)
                clear hm0
                go_wp2
                go_quiet (fail)
                have HNMS : Hid (∃ c : Bool, nameL s.data.toList = c) := Lib.hid ⟨_, rfl⟩
                have HTGS : Hid (∃ c : Bool, tagL s.data.toList = c) := Lib.hid ⟨_, rfl⟩
                obtain ⟨cn, hcn⟩ := HNMS.out
                obtain ⟨ct', hct⟩ := HTGS.out
                have HCNN := Lib.hid hcn
                have HCTT := Lib.hid hct
                clear hcn hct
                have e8 := HC8.out
                have e9 := HC9.out
                rcases (by cases c8 <;> cases c9 <;> simp : (c8 = true ∧ c9 = true) ∨ (c8 = true ∧ c9 = false) ∨ (c8 = false ∧ c9 = true) ∨ (c8 = false ∧ c9 = false)) with ⟨rfl, rfl⟩ | ⟨rfl, rfl⟩ | ⟨rfl, rfl⟩ | ⟨rfl, rfl⟩
                · exact absurd (show h.kd = 8 from (by simpa using e8)) (by have h99 : h.kd = 9 := (by simpa using e9); omega)
                · have HKD8 : Hid (h.kd = 8) := Lib.hid (by simpa using e8)
                  cases cn with
                  | true =>
                    go_wp2_with (go_at_call 68; ((with_reducible refine (rname_any _ HSM.out _).mono ?_); rintro e w' ⟨rfl, rfl⟩; rw [HCNN.out]))
                    go_roundw
                    case rel => exact ⟨m + 1, by go_num, by omega, Lib.hid (below_drewN HBM.out), HRN, Lib.hid (fun p a hp ha => by
                      by_cases he : p = m
                      · subst he
                        have := ha.symm.trans HSS.out
                        cases this
                        exact ⟨fun _ => HCNN.out, (fun hh => by cases hh)⟩
                      · exact HNO.out p a (by omega) ha)⟩
                    case measure => simp [intOf]; omega
                  | false =>
                    have HFF := Lib.hid (HFALSE.out (head_typ (by rw [HKD8.out]; exact typ_name (List.mem_of_getElem? HSS.out) HCNN.out)))
                    go_wp2_with (go_at_call 68; ((with_reducible refine (rname_any _ HSM.out _).mono ?_); rintro e w' ⟨rfl, rfl⟩; rw [HCNN.out]))
                    go_ret
                    exact ⟨by rw [HFF.out]; rfl, below_drewN HBQ.out⟩
                · have HKD9 : Hid (h.kd = 9) := Lib.hid (by simpa using e9)
                  cases ct' with
                  | true =>
                    go_wp2_with (go_at_call 69; ((with_reducible refine (rtag_any _ HSM.out _).mono ?_); rintro e w' ⟨rfl, rfl⟩; rw [HCTT.out]))
                    go_roundw
                    case rel => exact ⟨m + 1, by go_num, by omega, Lib.hid (below_drewN HBM.out), HRN, Lib.hid (fun p a hp ha => by
                      by_cases he : p = m
                      · subst he
                        have := ha.symm.trans HSS.out
                        cases this
                        exact ⟨(fun hh => by cases hh), fun _ => HCTT.out⟩
                      · exact HNO.out p a (by omega) ha)⟩
                    case measure => simp [intOf]; omega
                  | false =>
                    have HFF := Lib.hid (HFALSE.out (head_typ (by rw [HKD9.out]; exact typ_tag (List.mem_of_getElem? HSS.out) HCTT.out)))
                    go_wp2_with (go_at_call 69; ((with_reducible refine (rtag_any _ HSM.out _).mono ?_); rintro e w' ⟨rfl, rfl⟩; rw [HCTT.out]))
                    go_ret
                    exact ⟨by rw [HFF.out]; rfl, below_drewN HBQ.out⟩
                · go_wp2
                  go_roundw
                  case rel => exact ⟨m + 1, by go_num, by omega, Lib.hid (below_drewN HBM.out), HRN, Lib.hid (fun p a hp ha => by
                    by_cases he : p = m
                    · subst he
                      have := ha.symm.trans HSS.out
                      cases this
                      exact ⟨(fun hh => by cases hh), (fun hh => by cases hh)⟩
                    · exact HNO.out p a (by omega) ha)⟩
                  case measure => simp [intOf]; omega
              · obtain ⟨m', hm'⟩ : ∃ m', m = m' + 1 := ⟨m - 1, by omega⟩
                have hd0 : decide ((0 : Int) < (m : Int)) = true := by simp; omega
                have hd1 : (0 : Int) < (m : Int) := by omega
                have hd2 : decide (0 < m) = true := by simp; omega
                have hwm1 : IntKind.i64.wrap ((m : Int) - 1) = (m' : Int) := by rw [IntKind.wrap_i64]; omega
                have hwm2 : (m : Int) - 1 = (m' : Int) := by omega
                have hm'2 : (m' : Int) < h.nn := by omega
                obtain ⟨t, ht⟩ : ∃ t, h.NS[m']? = some t := ⟨_, List.getElem?_eq_getElem (by rw [← HNL.out]; omega)⟩
                have ct : wr.cell? ⟨gn, on + m', none⟩ = some (.string t) := (by rw [← HCN.out m' t ht]; exact HBM.out.cell (p := ⟨gn, on + m', none⟩) HGN.out)
                have HTT := Lib.hid ht
                have HMM := Lib.hid hm'
                clear ht hm' hm0
                cases hbl : bl t s with
                | false =>
                  have hb2 : Op.bytesLess t.toList s.toList = false := hbl
                  have HFF := Lib.hid (HFALSE.out (head_rise (rises_not h.NS m' t s HTT.out (by rw [← HMM.out]; exact HSS.out) hbl)))
                  clear hbl
                  go_wp2
                  go_quiet (fail)
                  go_wp2
                  go_ret
                  exact ⟨by rw [HFF.out]; rfl, below_drewN HBQ.out⟩
                | true =>
                  have hb2 : Op.bytesLess t.toList s.toList = true := hbl
                  have HRN : Hid (∀ p a b, p + 1 < m + 1 → h.NS[p]? = some a → h.NS[p + 1]? = some b → bl a b = true) := Lib.hid (fun p a b hp ha hb => by
                    by_cases he : p = m'
                    · subst he
                      have e1 := ha.symm.trans HTT.out
                      rw [← HMM.out] at hb
                      have e2 := hb.symm.trans HSS.out
                      cases e1; cases e2
                      exact hbl
                    · exact HRI.out p a b (by have := HMM.out; omega) ha hb)
                  clear hbl
                  go_wp2
                  go_quiet (fail)
                  have HNMS : Hid (∃ c : Bool, nameL s.data.toList = c) := Lib.hid ⟨_, rfl⟩
                  have HTGS : Hid (∃ c : Bool, tagL s.data.toList = c) := Lib.hid ⟨_, rfl⟩
                  obtain ⟨cn, hcn⟩ := HNMS.out
                  obtain ⟨ct', hct⟩ := HTGS.out
                  have HCNN := Lib.hid hcn
                  have HCTT := Lib.hid hct
                  clear hcn hct
                  have e8 := HC8.out
                  have e9 := HC9.out
                  rcases (by cases c8 <;> cases c9 <;> simp : (c8 = true ∧ c9 = true) ∨ (c8 = true ∧ c9 = false) ∨ (c8 = false ∧ c9 = true) ∨ (c8 = false ∧ c9 = false)) with ⟨rfl, rfl⟩ | ⟨rfl, rfl⟩ | ⟨rfl, rfl⟩ | ⟨rfl, rfl⟩
                  · exact absurd (show h.kd = 8 from (by simpa using e8)) (by have h99 : h.kd = 9 := (by simpa using e9); omega)
                  · have HKD8 : Hid (h.kd = 8) := Lib.hid (by simpa using e8)
                    cases cn with
                    | true =>
                      go_wp2_with (go_at_call 68; ((with_reducible refine (rname_any _ HSM.out _).mono ?_); rintro e w' ⟨rfl, rfl⟩; rw [HCNN.out]))
                      go_roundw
                      case rel => exact ⟨m + 1, by go_num, by omega, Lib.hid (below_drewN HBM.out), HRN, Lib.hid (fun p a hp ha => by
                        by_cases he : p = m
                        · subst he
                          have := ha.symm.trans HSS.out
                          cases this
                          exact ⟨fun _ => HCNN.out, (fun hh => by cases hh)⟩
                        · exact HNO.out p a (by omega) ha)⟩
                      case measure => simp [intOf]; omega
                    | false =>
                      have HFF := Lib.hid (HFALSE.out (head_typ (by rw [HKD8.out]; exact typ_name (List.mem_of_getElem? HSS.out) HCNN.out)))
                      go_wp2_with (go_at_call 68; ((with_reducible refine (rname_any _ HSM.out _).mono ?_); rintro e w' ⟨rfl, rfl⟩; rw [HCNN.out]))
                      go_ret
                      exact ⟨by rw [HFF.out]; rfl, below_drewN HBQ.out⟩
                  · have HKD9 : Hid (h.kd = 9) := Lib.hid (by simpa using e9)
                    cases ct' with
                    | true =>
                      go_wp2_with (go_at_call 69; ((with_reducible refine (rtag_any _ HSM.out _).mono ?_); rintro e w' ⟨rfl, rfl⟩; rw [HCTT.out]))
                      go_roundw
                      case rel => exact ⟨m + 1, by go_num, by omega, Lib.hid (below_drewN HBM.out), HRN, Lib.hid (fun p a hp ha => by
                        by_cases he : p = m
                        · subst he
                          have := ha.symm.trans HSS.out
                          cases this
                          exact ⟨(fun hh => by cases hh), fun _ => HCTT.out⟩
                        · exact HNO.out p a (by omega) ha)⟩
                      case measure => simp [intOf]; omega
                    | false =>
                      have HFF := Lib.hid (HFALSE.out (head_typ (by rw [HKD9.out]; exact typ_tag (List.mem_of_getElem? HSS.out) HCTT.out)))
                      go_wp2_with (go_at_call 69; ((with_reducible refine (rtag_any _ HSM.out _).mono ?_); rintro e w' ⟨rfl, rfl⟩; rw [HCTT.out]))
                      go_ret
                      exact ⟨by rw [HFF.out]; rfl, below_drewN HBQ.out⟩
                  · go_wp2
                    go_roundw
                    case rel => exact ⟨m + 1, by go_num, by omega, Lib.hid (below_drewN HBM.out), HRN, Lib.hid (fun p a hp ha => by
                      by_cases he : p = m
                      · subst he
                        have := ha.symm.trans HSS.out
                        cases this
                        exact ⟨(fun hh => by cases hh), (fun hh => by cases hh)⟩
                      · exact HNO.out p a (by omega) ha)⟩
                    case measure => simp [intOf]; omega
            · have hmn2 : ¬ (m : Int) < h.nn := by omega
              have hrs : risesB h.NS = true := rises_step h.NS (fun p a b ha hb => HRI.out p a b (by
                have := (List.getElem?_eq_some_iff.1 hb).1
                rw [← HNL.out] at this
                omega) ha hb)
              have HRS := Lib.hid hrs
              have hnall : ∀ (p : Nat) a, h.NS[p]? = some a → nmOk c8 c9 a := fun p a ha => HNO.out p a (by
                have := (List.getElem?_eq_some_iff.1 ha).1
                rw [← HNL.out] at this
                omega) ha
              have HNALL := Lib.hid hnall
              clear hrs hnall
              have HHY : Hid (typB h.kd h.op h.nn h.kn h.NS = true → h.kd ≠ 10 → headB h.kd h.op HS.length h.NS h.KS = true) := Lib.hid (fun ht h10 => head_yes h10 HRS.out HKALL.out (by rw [← HNL.out, ← HKL.out]; exact ht))
              have HHN : Hid (typB h.kd h.op h.nn h.kn h.NS = false → graphB root HS = false) := Lib.hid (fun ht => HFALSE.out (head_typ (by rw [← HNL.out, ← HKL.out]; exact ht)))
              have e8 := HC8.out
              have e9 := HC9.out
              rcases (by cases c8 <;> cases c9 <;> simp : (c8 = true ∧ c9 = true) ∨ (c8 = true ∧ c9 = false) ∨ (c8 = false ∧ c9 = true) ∨ (c8 = false ∧ c9 = false)) with ⟨rfl, rfl⟩ | ⟨rfl, rfl⟩ | ⟨rfl, rfl⟩ | ⟨rfl, rfl⟩
              · exact absurd (show h.kd = 8 from (by simpa using e8)) (by have h99 : h.kd = 9 := (by simpa using e9); omega)
              · have hkd : h.kd = 8 := by simpa using e8
                have e7 : (h.kd == 7) = false := by simp; omega
                have HAN : Hid ((h.NS.all fun s => nameL s.data.toList) = true) := Lib.hid (all_names (fun p a ha => (HNALL.out p a ha).1 rfl))
                have HKDD := Lib.hid hkd
                clear hkd
                by_cases hnk : h.nn = h.kn
                · have ek1 : ((h.kn : Int) == (h.nn : Int)) = true := by simp; omega
                  have ek2 : ((h.kn : Int) != (h.nn : Int)) = false := by simp; omega
                  have ek3 : ((h.nn : Int) != (h.nn : Int)) = false := by simp
                  have HNK := Lib.hid hnk
                  clear hnk
                  have hne9 : (h.kd != 9) = true := by rw [HKDD.out]; rfl
                  cases hop : h.op with
                  | false =>
                    have HYES := Lib.hid (HHY.out (by rw [HKDD.out, hop]; unfold typB; rw [HAN.out]; simp [HNK.out]) (by rw [HKDD.out]; decide))
                    have HOP := Lib.hid hop
                    rw [hop] at b3'
                    clear hop
                    go_wp2
                    go_quiet (fail)
                    go_wp2
                    go_roundw
                    case rel => exact ⟨j + 1, by go_num, by omega, Lib.hid (below_drewN HB1Q.out), Lib.hid (fun i' h' hi' hh' => by
                      by_cases he : i' = j
                      · subst he
                        have := hh'.symm.trans HH.out
                        cases this
                        exact HYES.out
                      · exact HA.out i' h' (by omega) hh')⟩
                    case measure => simp [intOf]; omega
                  | true =>
                    have HFF := Lib.hid (HHN.out (by rw [HKDD.out, hop]; rfl))
                    rw [hop] at b3'
                    clear hop
                    go_wp2
                    go_quiet (fail)
                    go_wp2
                    go_ret
                    exact ⟨by rw [HFF.out]; rfl, below_drewN HBQ.out⟩
                · have ek1 : ((h.kn : Int) == (h.nn : Int)) = false := by simp; omega
                  have ek2 : ((h.kn : Int) != (h.nn : Int)) = true := by simp; omega
                  have HFF := Lib.hid (HHN.out (by rw [HKDD.out]; unfold typB; rw [show decide (h.nn = h.kn) = false from by simp; exact hnk]; simp))
                  clear hnk
                  go_wp2
                  go_quiet (fail)
                  go_wp2
                  go_ret
                  exact ⟨by rw [HFF.out]; rfl, below_drewN HBQ.out⟩
              · have hkd : h.kd = 9 := by simpa using e9
                have e7 : (h.kd == 7) = false := by simp; omega
                have HAN : Hid ((h.NS.all fun s => tagL s.data.toList) = true) := Lib.hid (all_names (fun p a ha => (HNALL.out p a ha).2 rfl))
                have HKDD := Lib.hid hkd
                clear hkd
                by_cases hnk : h.nn = h.kn
                · have ek1 : ((h.kn : Int) == (h.nn : Int)) = true := by simp; omega
                  have ek2 : ((h.kn : Int) != (h.nn : Int)) = false := by simp; omega
                  have ek3 : ((h.nn : Int) != (h.nn : Int)) = false := by simp
                  have HNK := Lib.hid hnk
                  clear hnk
                  have HYES := Lib.hid (HHY.out (by rw [HKDD.out]; unfold typB; rw [HAN.out]; simp [HNK.out]) (by rw [HKDD.out]; decide))
                  have hne9 : (h.kd != 9) = false := by rw [HKDD.out]; rfl
                  cases hop : h.op
                  all_goals
                    rw [hop] at b3'
                    clear hop
                    go_wp2
                    go_quiet (fail)
                    go_wp2
                    go_roundw
                    case rel => exact ⟨j + 1, by go_num, by omega, Lib.hid (below_drewN HB1Q.out), Lib.hid (fun i' h' hi' hh' => by
                      by_cases he : i' = j
                      · subst he
                        have := hh'.symm.trans HH.out
                        cases this
                        exact HYES.out
                      · exact HA.out i' h' (by omega) hh')⟩
                    case measure => simp [intOf]; omega
                · have ek1 : ((h.kn : Int) == (h.nn : Int)) = false := by simp; omega
                  have ek2 : ((h.kn : Int) != (h.nn : Int)) = true := by simp; omega
                  have HFF := Lib.hid (HHN.out (by rw [HKDD.out]; unfold typB; rw [show decide (h.nn = h.kn) = false from by simp; exact hnk]; simp))
                  clear hnk
                  go_wp2
                  go_quiet (fail)
                  go_wp2
                  go_ret
                  exact ⟨by rw [HFF.out]; rfl, below_drewN HBQ.out⟩
              · have hk8 : h.kd ≠ 8 := by simpa using e8
                have hk9 : h.kd ≠ 9 := by simpa using e9
                have hne9 : (h.kd != 9) = true := by simpa using hk9
                by_cases hk7 : h.kd = 7
                · have e7 : (h.kd == 7) = true := by simp [hk7]
                  have HKDD := Lib.hid hk7
                  clear hk7 hk8 hk9
                  rcases (by omega : h.kn ≠ 2 ∨ (h.kn = 2 ∧ h.nn ≠ 0) ∨ (h.kn = 2 ∧ h.nn = 0)) with k1 | ⟨k1, k2⟩ | ⟨k1, k2⟩
                  · have ek : ((h.kn : Int) != 2) = true := by simp; omega
                    have ek' : ((h.kn : Int) == 2) = false := by simp; omega
                    have HFF := Lib.hid (HHN.out (by rw [HKDD.out]; unfold typB; rw [show decide (h.kn = 2) = false from by simp; exact k1]; simp))
                    clear k1
                    go_wp2
                    go_ret
                    exact ⟨by rw [HFF.out]; rfl, HBQ.out⟩
                  · have ek : ((h.kn : Int) != 2) = false := by simp; omega
                    have ek' : ((h.kn : Int) == 2) = true := by simp; omega
                    have en : ((h.nn : Int) != 0) = true := by simp; omega
                    have en' : ((h.nn : Int) == 0) = false := by simp; omega
                    have HFF := Lib.hid (HHN.out (by rw [HKDD.out]; unfold typB; rw [show decide (h.nn = 0) = false from by simp; exact k2]; simp))
                    clear k1 k2
                    go_wp2
                    go_ret
                    exact ⟨by rw [HFF.out]; rfl, HBQ.out⟩
                  · have ek : ((h.kn : Int) != 2) = false := by simp; omega
                    have ek' : ((h.kn : Int) == 2) = true := by simp; omega
                    have en : ((h.nn : Int) != 0) = false := by simp; omega
                    have en' : ((h.nn : Int) == 0) = true := by simp; omega
                    cases hop : h.op with
                    | false =>
                      have HYES := Lib.hid (HHY.out (by rw [HKDD.out, hop, k1, k2]; rfl) (by rw [HKDD.out]; decide))
                      rw [hop] at b3'
                      clear hop k1 k2
                      go_wp2
                      go_roundw
                      case rel => exact ⟨j + 1, by go_num, by omega, Lib.hid (HB1Q.out), Lib.hid (fun i' h' hi' hh' => by
                        by_cases he : i' = j
                        · subst he
                          have := hh'.symm.trans HH.out
                          cases this
                          exact HYES.out
                        · exact HA.out i' h' (by omega) hh')⟩
                      case measure => simp [intOf]; omega
                    | true =>
                      have HFF := Lib.hid (HHN.out (by rw [HKDD.out, hop]; rfl))
                      rw [hop] at b3'
                      clear hop k1 k2
                      go_wp2
                      go_ret
                      exact ⟨by rw [HFF.out]; rfl, HBQ.out⟩
                · have e7 : (h.kd == 7) = false := by simpa using hk7
                  by_cases hlo : h.kd < 0
                  · have HFF := Lib.hid (HHN.out (by unfold typB; rw [if_neg hk7, if_neg hk8, if_neg hk9, show decide (0 ≤ h.kd) = false from by simp; omega]; simp))
                    clear hk7 hk8 hk9
                    go_wp2
                    go_ret
                    exact ⟨by rw [HFF.out]; rfl, HBQ.out⟩
                  · by_cases hhi : 6 < h.kd
                    · have HFF := Lib.hid (HHN.out (by unfold typB; rw [if_neg hk7, if_neg hk8, if_neg hk9, show decide (h.kd ≤ 6) = false from by simp; omega]; simp))
                      clear hk7 hk8 hk9
                      go_wp2
                      go_ret
                      exact ⟨by rw [HFF.out]; rfl, HBQ.out⟩
                    · have HKT : Hid (typB h.kd h.op h.nn h.kn h.NS = if h.op = true then false else decide (h.nn = 0) && decide (h.kn = 0)) := Lib.hid (by
                        unfold typB
                        rw [if_neg hk7, if_neg hk8, if_neg hk9, show decide (0 ≤ h.kd) = true from by simp; omega, show decide (h.kd ≤ 6) = true from by simp; omega]
                        simp [hk9])
                      have HK10 : Hid (h.kd ≠ 10) := Lib.hid (by omega)
                      clear hk7 hk8 hk9
                      rcases (by omega : h.kn ≠ 0 ∨ (h.kn = 0 ∧ h.nn ≠ 0) ∨ (h.kn = 0 ∧ h.nn = 0)) with k1 | ⟨k1, k2⟩ | ⟨k1, k2⟩
                      · have ek : ((h.kn : Int) != 0) = true := by simp; omega
                        have ek' : ((h.kn : Int) == 0) = false := by simp; omega
                        have HFF := Lib.hid (HHN.out (by rw [HKT.out, show decide (h.kn = 0) = false from by simp; exact k1]; simp))
                        clear k1
                        go_wp2
                        go_ret
                        exact ⟨by rw [HFF.out]; rfl, HBQ.out⟩
                      · have ek : ((h.kn : Int) != 0) = false := by simp; omega
                        have ek' : ((h.kn : Int) == 0) = true := by simp; omega
                        have en : ((h.nn : Int) != 0) = true := by simp; omega
                        have en' : ((h.nn : Int) == 0) = false := by simp; omega
                        have HFF := Lib.hid (HHN.out (by rw [HKT.out, show decide (h.nn = 0) = false from by simp; exact k2]; simp))
                        clear k1 k2
                        go_wp2
                        go_ret
                        exact ⟨by rw [HFF.out]; rfl, HBQ.out⟩
                      · have ek : ((h.kn : Int) != 0) = false := by simp; omega
                        have ek' : ((h.kn : Int) == 0) = true := by simp; omega
                        have en : ((h.nn : Int) != 0) = false := by simp; omega
                        have en' : ((h.nn : Int) == 0) = true := by simp; omega
                        cases hop : h.op with
                        | false =>
                          have HYES := Lib.hid (HHY.out (by rw [HKT.out, hop, k1, k2]; rfl) HK10.out)
                          rw [hop] at b3'
                          clear hop k1 k2
                          go_wp2
                          go_roundw
                          case rel => exact ⟨j + 1, by go_num, by omega, Lib.hid (HB1Q.out), Lib.hid (fun i' h' hi' hh' => by
                            by_cases he : i' = j
                            · subst he
                              have := hh'.symm.trans HH.out
                              cases this
                              exact HYES.out
                            · exact HA.out i' h' (by omega) hh')⟩
                          case measure => simp [intOf]; omega
                        | true =>
                          have HFF := Lib.hid (HHN.out (by rw [HKT.out, hop]; rfl))
                          rw [hop] at b3'
                          clear hop k1 k2
                          go_wp2
                          go_ret
                          exact ⟨by rw [HFF.out]; rfl, HBQ.out⟩
    · have hjk2 : ¬ (j : Int) < ln := by omega
      obtain rfl : ln = j := by omega
      have hf : graphB root HS = true := by
        rw [HF.out]
        exact List.all_eq_true.2 (fun h hm => by
          obtain ⟨i, hi⟩ := List.getElem?_of_mem hm
          exact HA.out i h (by rw [HL.out]; exact (List.getElem?_eq_some_iff.1 hi).1) hi)
      have HFF := Lib.hid hf
      clear hf
      go_wp2
      go_ret
      exact ⟨by rw [HFF.out]; rfl, HBA.out.trans (HBR.out.mono HBA.out.size)⟩
end Go.Proofs.YtifilhkkgkihpaaGreatDoor
