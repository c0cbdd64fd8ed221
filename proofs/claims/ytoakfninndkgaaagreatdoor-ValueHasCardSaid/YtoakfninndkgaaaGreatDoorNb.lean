/- Walks: names, tags, words. -/
import Derived.Test.YtoakfninndkgaaaGreatDoorNa
import Derived.Lib.Strings
set_option linter.unusedVariables false
namespace Go.Proofs.YtoakfninndkgaaaGreatDoor
open Go.RowKit
theorem lowB_eq (c : UInt8) : lowB c = (decide (97 ≤ (c.toNat : Int)) && decide ((c.toNat : Int) ≤ 122) || ((c.toNat : Int) == 95)) := by
  unfold lowB
  rw [Bool.eq_iff_iff]
  simp [UInt8.le_iff_toNat_le, ← UInt8.toNat_inj]
  omega
theorem digB_eq (c : UInt8) : digB c = (decide (48 ≤ (c.toNat : Int)) && decide ((c.toNat : Int) ≤ 57)) := by
  unfold digB
  rw [Bool.eq_iff_iff]
  simp [UInt8.le_iff_toNat_le]
  omega
theorem ret_bool {a b : Bool} (h : a = b) : Ending.returned (.bool a) = Ending.returned (.bool b) := by rw [h]
theorem ret_int {k : IntKind} {a b : Int} (h : a = b) : Ending.returned (.int k a) = Ending.returned (.int k b) := by rw [h]
theorem low_any (c : UInt8) (w : World) : Calls Tryz.prog 121 #[.int .u8 (c.toNat : Int)] w fun e w' => e = .returned (.bool (lowB c)) ∧ w = w' := by
  go_enter Tryz.func121, Tryz.ntmps121
  go_wp2
  all_goals
    go_ret
    refine ⟨ret_bool ?_, rfl⟩
    rw [lowB_eq, Bool.eq_iff_iff]
    simp
    try omega
theorem dig_any (c : UInt8) (w : World) : Calls Tryz.prog 138 #[.int .u8 (c.toNat : Int)] w fun e w' => e = .returned (.bool (digB c)) ∧ w = w' := by
  go_enter Tryz.func138, Tryz.ntmps138
  go_wp2
  all_goals
    go_ret
    refine ⟨ret_bool ?_, rfl⟩
    rw [digB_eq, Bool.eq_iff_iff]
    simp
    try omega
theorem in_any (c : UInt8) (w : World) : Calls Tryz.prog 123 #[.int .u8 (c.toNat : Int)] w fun e w' => e = .returned (.bool (inB c)) ∧ w = w' := by
  unfold inB
  cases hl : lowB c
  · cases hd : digB c
    all_goals
      have HL := Lib.hid hl
      have HD := Lib.hid hd
      clear hl hd
      go_enter Tryz.func123, Tryz.ntmps123
      go_wp2_with (first | (go_at_call 121; ((with_reducible refine (low_any _ _).mono ?_); rintro e w' ⟨rfl, rfl⟩; rw [HL.out])) | (go_at_call 138; ((with_reducible refine (dig_any _ _).mono ?_); rintro e w' ⟨rfl, rfl⟩; rw [HD.out])))
      go_ret
      exact ⟨by simp, rfl⟩
  · have HL := Lib.hid hl
    clear hl
    go_enter Tryz.func123, Tryz.ntmps123
    go_wp2_with (first | (go_at_call 121; ((with_reducible refine (low_any _ _).mono ?_); rintro e w' ⟨rfl, rfl⟩; rw [HL.out])))
    go_ret
    exact ⟨by simp, rfl⟩
/-- how many of the first bytes may be. -/
def runL (l : List UInt8) : Nat := (l.takeWhile inB).length
theorem run_snoc (l : List UInt8) (k : Nat) (hk : k < l.length) (h : ∀ i (hi : i < k), inB (l[i]'(by omega)) = true) (hb : inB l[k] = false) : runL l = k := by
  induction l generalizing k with
  | nil => simp at hk
  | cons c l ih =>
    cases k with
    | zero =>
      simp at hb
      simp [runL, List.takeWhile_cons, hb]
    | succ k =>
      have h0 : inB c = true := h 0 (by omega)
      have := ih k (by simpa using hk) (fun i hi => by have := h (i + 1) (by omega); simpa using this) (by simpa using hb)
      unfold runL at *
      rw [List.takeWhile_cons, if_pos h0, List.length_cons, this]
theorem run_all (l : List UInt8) (h : ∀ i (hi : i < l.length), inB l[i] = true) : runL l = l.length := by
  induction l with
  | nil => rfl
  | cons c l ih =>
    have h0 : inB c = true := h 0 (by simp)
    have := ih (fun i hi => by have := h (i + 1) (by simpa using hi); simpa using this)
    unfold runL at *
    rw [List.takeWhile_cons, if_pos h0, List.length_cons, List.length_cons, this]
theorem run_any (s : ByteArray) (hs : s.size ≤ 100000) (w : World) : Calls Tryz.prog 122 #[.string s, .func (.func 123) #[] #[]] w fun e w' => e = .returned (.int .i64 (runL s.data.toList : Nat)) ∧ w = w' := by
  go_enter Tryz.func122, Tryz.ntmps122
  go_wp2
  go_loop [5] (fun s5 => ∃ k : Nat, k ≤ s.size ∧ s5 = .int .i64 (k : Int) ∧ Hid (∀ i (hi : i < s.size), i < k → inB s[i] = true)) (fun s5 => s.size - (intOf s5).toNat)
  case atStart => exact ⟨0, Nat.zero_le _, rfl, Lib.hid (fun i _ h => by omega)⟩
  case round =>
    obtain ⟨k, hk, rfl, HP⟩ := hrel
    have hwk : IntKind.i64.wrap ((k : Int) + 1) = (k : Int) + 1 := by rw [IntKind.wrap_i64]; omega
    by_cases hlt : k < s.size
    · have hlt2 : (k : Int) < s.size := by omega
      cases hb : inB s[k] with
      | true =>
        have HB := Lib.hid hb
        clear hb
        go_wp2_with (go_at_call 123; ((with_reducible refine (in_any _ _).mono ?_); rintro e w' ⟨rfl, rfl⟩; rw [HB.out]))
        go_round
        case rel => exact ⟨k + 1, by omega, by go_num, Lib.hid (fun i hi h => by
          by_cases he : i = k
          · subst he; exact HB.out
          · exact HP.out i hi (by omega))⟩
        case measure => simp [intOf]; omega
      | false =>
        have HB := Lib.hid hb
        clear hb
        go_wp2_with (go_at_call 123; ((with_reducible refine (in_any _ _).mono ?_); rintro e w' ⟨rfl, rfl⟩; rw [HB.out]))
        go_ret
        refine ⟨ret_int ?_, rfl⟩
        rw [run_snoc s.data.toList k (by simpa using hlt) (fun i hi => HP.out i (by omega) hi) HB.out]
    · have hlt2 : ¬ (k : Int) < s.size := by omega
      go_wp2
      go_ret
      refine ⟨ret_int ?_, rfl⟩
      rw [run_all s.data.toList (fun i hi => HP.out i (by simpa using hi) (Nat.lt_of_lt_of_le (show i < s.size from by simpa using hi) (by omega)))]
      simp
      omega
def wordB : List ByteArray := [⟨#[102, 117, 110]⟩, ⟨#[108, 101, 116]⟩, ⟨#[114, 101, 99]⟩, ⟨#[105, 110]⟩, ⟨#[105, 102]⟩, ⟨#[116, 104, 101, 110]⟩, ⟨#[101, 108, 115, 101]⟩, ⟨#[99, 97, 115, 101]⟩, ⟨#[111, 102]⟩, ⟨#[101, 110, 100]⟩, ⟨#[116, 114, 117, 101]⟩, ⟨#[102, 97, 108, 115, 101]⟩, ⟨#[105, 110, 116]⟩, ⟨#[98, 111, 111, 108]⟩, ⟨#[115, 116, 114]⟩, ⟨#[102, 108, 111, 97, 116]⟩, ⟨#[100, 121, 110]⟩, ⟨#[97, 110, 121]⟩, ⟨#[110, 111, 110, 101]⟩, ⟨#[116, 121, 112, 101]⟩]
/-- is it among them? -/
def memB (S : List ByteArray) (x : ByteArray) : Bool := (S.map fun b => b.data.toList).contains x.data.toList
theorem memB_iff (S : List ByteArray) (x : ByteArray) : memB S x = true ↔ x ∈ S := by
  unfold memB
  simp only [List.contains_iff_mem, List.mem_map]
  constructor
  · rintro ⟨b, hb, e⟩
    have : b = x := ByteArray.ext (Array.toList_inj.1 e)
    rw [← this]; exact hb
  · intro h
    exact ⟨x, h, rfl⟩
theorem word_contains (s : ByteArray) : isWordL s.data.toList = memB wordB s := rfl
theorem toList_inj {a b : ByteArray} (h : a.toList = b.toList) : a = b := by
  rw [Lib.toList_data, Lib.toList_data] at h
  exact ByteArray.ext (Array.toList_inj.1 h)
theorem idx_none (w : World) (b off n c : Nat) (S : List ByteArray) (x : ByteArray) (hS : S.length = n) (hn : n ≤ 100000) (hc : Hid (∀ k s, S[k]? = some s → w.cell? ⟨b, off + k, none⟩ = some (.string s))) (hx : Hid (∀ (k : Nat) (s : ByteArray), S[k]? = some s → s ≠ x)) :
    Calls Tryz.prog 134 #[.slice (some ⟨b, off, none⟩) n c, .string x] w fun e w' => e = .returned (.int .i64 (-1)) ∧ w = w' := by
  have HS := Lib.hid hS
  clear hS
  go_enter Tryz.func134, Tryz.ntmps134
  go_wp2
  go_loop [8] (fun s8 => ∃ k : Nat, k ≤ n ∧ s8 = .int .i64 (k : Int)) (fun s8 => n - (intOf s8).toNat)
  case atStart => exact ⟨0, Nat.zero_le _, rfl⟩
  case round =>
    obtain ⟨k, hk, rfl⟩ := hrel
    have hwk : IntKind.i64.wrap ((k : Int) + 1) = (k : Int) + 1 := by rw [IntKind.wrap_i64]; omega
    by_cases hlt : k < n
    · have hlt2 : (k : Int) < n := by omega
      obtain ⟨s, hs⟩ : ∃ s, S[k]? = some s := ⟨_, List.getElem?_eq_getElem (by rw [HS.out]; exact hlt)⟩
      have ac := hc.out k s hs
      have hne : (x.toList == s.toList) = false := by
        cases hh : (x.toList == s.toList) with
        | false => rfl
        | true => exact absurd (toList_inj (by simpa using hh)).symm (hx.out k s hs)
      clear hs
      go_wp2
      go_round
      case rel => exact ⟨k + 1, by omega, by go_num⟩
      case measure => simp [intOf]; omega
    · have hlt2 : ¬ (k : Int) < n := by omega
      go_wp2
      go_ret
      exact ⟨rfl, rfl⟩
theorem idx_some (w : World) (b off n c p : Nat) (S : List ByteArray) (x : ByteArray) (hS : S.length = n) (hn : n ≤ 100000) (hc : Hid (∀ k s, S[k]? = some s → w.cell? ⟨b, off + k, none⟩ = some (.string s))) (hp : S[p]? = some x) (hx : Hid (∀ (k : Nat) (s : ByteArray), k < p → S[k]? = some s → s ≠ x)) :
    Calls Tryz.prog 134 #[.slice (some ⟨b, off, none⟩) n c, .string x] w fun e w' => e = .returned (.int .i64 (p : Int)) ∧ w = w' := by
  have HS := Lib.hid hS
  have hpn : p < n := by rw [← hS]; exact (List.getElem?_eq_some_iff.1 hp).1
  have HP := Lib.hid hp
  clear hS hp
  go_enter Tryz.func134, Tryz.ntmps134
  go_wp2
  go_loop [8] (fun s8 => ∃ k : Nat, k ≤ p ∧ s8 = .int .i64 (k : Int)) (fun s8 => n - (intOf s8).toNat)
  case atStart => exact ⟨0, Nat.zero_le _, rfl⟩
  case round =>
    obtain ⟨k, hk, rfl⟩ := hrel
    have hwk : IntKind.i64.wrap ((k : Int) + 1) = (k : Int) + 1 := by rw [IntKind.wrap_i64]; omega
    have hlt2 : (k : Int) < n := by omega
    by_cases hlt : k < p
    · obtain ⟨s, hs⟩ : ∃ s, S[k]? = some s := ⟨_, List.getElem?_eq_getElem (by rw [HS.out]; omega)⟩
      have ac := hc.out k s hs
      have hne : (x.toList == s.toList) = false := by
        cases hh : (x.toList == s.toList) with
        | false => rfl
        | true => exact absurd (toList_inj (by simpa using hh)).symm (hx.out k s hlt hs)
      clear hs
      go_wp2
      go_round
      case rel => exact ⟨k + 1, by omega, by go_num⟩
      case measure => simp [intOf]; omega
    · obtain rfl : p = k := by omega
      have ac := hc.out p x HP.out
      go_wp2
      go_ret
      exact ⟨rfl, rfl⟩
/-- is it among them? -/
theorem contains_any (w : World) (b off n c : Nat) (S : List ByteArray) (x : ByteArray) (hS : S.length = n) (hn : n ≤ 100000) (hc : Hid (∀ k s, S[k]? = some s → w.cell? ⟨b, off + k, none⟩ = some (.string s))) :
    Calls Tryz.prog 116 #[.slice (some ⟨b, off, none⟩) n c, .string x] w fun e w' => e = .returned (.bool (memB S x)) ∧ w = w' := by
  by_cases hcx : x ∈ S
  · have hm := hcx
    rw [(memB_iff S x).2 hcx]
    obtain ⟨p, hp, hf⟩ : ∃ p, S[p]? = some x ∧ ∀ (k : Nat) (s : ByteArray), k < p → S[k]? = some s → s ≠ x := by
      clear hc hS hcx
      induction S with
      | nil => cases hm
      | cons y l ih =>
        by_cases he : y = x
        · exact ⟨0, by simp [he], fun k s hk => by omega⟩
        · obtain ⟨p, h1, h2⟩ := ih ((List.mem_cons.1 hm).resolve_left (fun e => he e.symm))
          refine ⟨p + 1, by simpa using h1, fun k s hk hs => ?_⟩
          cases k with
          | zero => simp at hs; rw [← hs]; exact he
          | succ k => exact h2 k s (by omega) (by simpa using hs)
    have HI := Lib.hid (idx_some w b off n c p S x hS hn hc hp (Lib.hid hf))
    clear hp hf hm hS hcx
    go_enter Tryz.func116, Tryz.ntmps116
    go_wp2_with (go_at_call 134; refine HI.out.mono ?_; rintro e w' ⟨rfl, rfl⟩)
    go_ret
    exact ⟨by simp, rfl⟩
  · rw [show memB S x = false from by cases hh : memB S x with
      | false => rfl
      | true => exact absurd ((memB_iff S x).1 hh) hcx]
    have hno : ∀ (k : Nat) (s : ByteArray), S[k]? = some s → s ≠ x := fun k s hk e => hcx (by rw [← e]; exact List.mem_of_getElem? hk)
    have HI := Lib.hid (idx_none w b off n c S x hS hn hc (Lib.hid hno))
    clear hno hS hcx
    go_enter Tryz.func116, Tryz.ntmps116
    go_wp2_with (go_at_call 134; refine HI.out.mono ?_; rintro e w' ⟨rfl, rfl⟩)
    go_ret
    exact ⟨by simp, rfl⟩
theorem words_any (w : World) : Calls Tryz.prog 139 #[] w fun e w' => e = .returned (.slice (some ⟨w.heap.size, 0, none⟩) 20 20) ∧ (∀ k s, wordB[k]? = some s → w'.cell? ⟨w.heap.size, 0 + k, none⟩ = some (.string s)) ∧ Below w.heap.size w w' := by
  have hn := heap_alloc_new w (.cells #[.string ⟨#[102, 117, 110]⟩, .string ⟨#[108, 101, 116]⟩, .string ⟨#[114, 101, 99]⟩, .string ⟨#[105, 110]⟩, .string ⟨#[105, 102]⟩, .string ⟨#[116, 104, 101, 110]⟩, .string ⟨#[101, 108, 115, 101]⟩, .string ⟨#[99, 97, 115, 101]⟩, .string ⟨#[111, 102]⟩, .string ⟨#[101, 110, 100]⟩, .string ⟨#[116, 114, 117, 101]⟩, .string ⟨#[102, 97, 108, 115, 101]⟩, .string ⟨#[105, 110, 116]⟩, .string ⟨#[98, 111, 111, 108]⟩, .string ⟨#[115, 116, 114]⟩, .string ⟨#[102, 108, 111, 97, 116]⟩, .string ⟨#[100, 121, 110]⟩, .string ⟨#[97, 110, 121]⟩, .string ⟨#[110, 111, 110, 101]⟩, .string ⟨#[116, 121, 112, 101]⟩] 9)
  have HN := Lib.hid hn
  have HB : Hid (Below w.heap.size w (w.alloc (.cells #[.string ⟨#[102, 117, 110]⟩, .string ⟨#[108, 101, 116]⟩, .string ⟨#[114, 101, 99]⟩, .string ⟨#[105, 110]⟩, .string ⟨#[105, 102]⟩, .string ⟨#[116, 104, 101, 110]⟩, .string ⟨#[101, 108, 115, 101]⟩, .string ⟨#[99, 97, 115, 101]⟩, .string ⟨#[111, 102]⟩, .string ⟨#[101, 110, 100]⟩, .string ⟨#[116, 114, 117, 101]⟩, .string ⟨#[102, 97, 108, 115, 101]⟩, .string ⟨#[105, 110, 116]⟩, .string ⟨#[98, 111, 111, 108]⟩, .string ⟨#[115, 116, 114]⟩, .string ⟨#[102, 108, 111, 97, 116]⟩, .string ⟨#[100, 121, 110]⟩, .string ⟨#[97, 110, 121]⟩, .string ⟨#[110, 111, 110, 101]⟩, .string ⟨#[116, 121, 112, 101]⟩] 9))) := Lib.hid ((Below.refl _ _).alloc (Nat.le_refl _) _)
  clear hn
  go_enter Tryz.func139, Tryz.ntmps139
  go_wp2
  go_ret
  refine ⟨rfl, fun k s hs => ?_, HB.out⟩
  rw [cell_of_row _ _ _ _ 9 _ HN.out]
  have : (#[.string ⟨#[102, 117, 110]⟩, .string ⟨#[108, 101, 116]⟩, .string ⟨#[114, 101, 99]⟩, .string ⟨#[105, 110]⟩, .string ⟨#[105, 102]⟩, .string ⟨#[116, 104, 101, 110]⟩, .string ⟨#[101, 108, 115, 101]⟩, .string ⟨#[99, 97, 115, 101]⟩, .string ⟨#[111, 102]⟩, .string ⟨#[101, 110, 100]⟩, .string ⟨#[116, 114, 117, 101]⟩, .string ⟨#[102, 97, 108, 115, 101]⟩, .string ⟨#[105, 110, 116]⟩, .string ⟨#[98, 111, 111, 108]⟩, .string ⟨#[115, 116, 114]⟩, .string ⟨#[102, 108, 111, 97, 116]⟩, .string ⟨#[100, 121, 110]⟩, .string ⟨#[97, 110, 121]⟩, .string ⟨#[110, 111, 110, 101]⟩, .string ⟨#[116, 121, 112, 101]⟩] : Array Value) = (wordB.map Value.string).toArray := rfl
  rw [this]
  simp [hs]
theorem isword_any (s : ByteArray) (w : World) : Calls Tryz.prog 124 #[.string s] w fun e w' => e = .returned (.bool (isWordL s.data.toList)) ∧ Below w.heap.size w w' := by
  rw [word_contains]
  go_enter Tryz.func124, Tryz.ntmps124
  go_wp2_with fail
  refine (words_any w).mono ?_
  rintro e w1 ⟨rfl, hc, hb⟩
  have HC := Lib.hid hc
  have HB := Lib.hid hb
  clear hc hb
  go_wp2_with (go_at_call 116; refine (contains_any w1 w.heap.size 0 20 20 wordB s rfl (by omega) HC).mono ?_; rintro e w' ⟨rfl, rfl⟩)
  go_ret
  exact ⟨rfl, HB.out⟩
end Go.Proofs.YtoakfninndkgaaaGreatDoor
