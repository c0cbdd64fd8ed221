/- Plain: names, tags, words. Walks: names, tags, words. Walks: IsName, tag, all, once. Walks: all, once, rising. Walks: once, rising. Walks: typ. -/
import Derived.Test.YtifilhkkgkihpaaGreatDoorProg
import Derived.KernelRfl
import Derived.WalkKit
import Derived.WalkSpells
import Derived.WalkLawsBesides
import Derived.Lib.Hide
import Derived.Laws.OwnMore
import Derived.Laws.MakeOwn
import Derived.Laws.CopyRow
import Derived.Lib.AppendZerosOnto
import Derived.Lib.Overlaps
import Derived.OwnWalk
import Derived.Carry
import Derived.OneCell
import Derived.BigRegion
import Derived.BigQuiet
import Derived.Deep.QuietTactic
import Derived.Deep.LoopGhost
import Derived.Deep.DeepCutAuto
import Derived.Deep.CutBlock
import Derived.Deep.RegionHeld3
import Derived.Deep.AppendLies
import Derived.Laws.ResultCell
import Derived.Maps.OwnSet
import Derived.Maps.OwnOps
import Derived.Maps.AppendAt
import Derived.Lib.Strings
set_option linter.unusedSimpArgs false
set_option linter.unusedVariables false
set_option linter.unusedSimpArgs false
set_option linter.unusedVariables false
namespace Go.Proofs.YtifilhkkgkihpaaGreatDoor
def lowB (c : UInt8) : Bool := (97 ≤ c && c ≤ 122) || c == 95
def digB (c : UInt8) : Bool := 48 ≤ c && c ≤ 57
def inB (c : UInt8) : Bool := lowB c || digB c
/-- is it a tag: a name, or a word? -/
def tagL : List UInt8 → Bool
  | [] => false
  | c :: l => lowB c && l.all inB
def wordL : List (List UInt8) := [[102, 117, 110], [108, 101, 116], [114, 101, 99], [105, 110], [105, 102], [116, 104, 101, 110], [101, 108, 115, 101], [99, 97, 115, 101], [111, 102], [101, 110, 100], [116, 114, 117, 101], [102, 97, 108, 115, 101], [105, 110, 116], [98, 111, 111, 108], [115, 116, 114], [102, 108, 111, 97, 116], [100, 121, 110], [97, 110, 121], [110, 111, 110, 101], [116, 121, 112, 101]]
def isWordL (l : List UInt8) : Bool := wordL.contains l
def nameL (l : List UInt8) : Bool := tagL l && !isWordL l
/-- all the words, with a blank ahead of each, and behind the last one. -/
def textW : List UInt8 := [32, 102, 117, 110, 32, 108, 101, 116, 32, 114, 101, 99, 32, 105, 110, 32, 105, 102, 32, 116, 104, 101, 110, 32, 101, 108, 115, 101, 32, 99, 97, 115, 101, 32, 111, 102, 32, 101, 110, 100, 32, 116, 114, 117, 101, 32, 102, 97, 108, 115, 101, 32, 105, 110, 116, 32, 98, 111, 111, 108, 32, 115, 116, 114, 32, 102, 108, 111, 97, 116, 32, 100, 121, 110, 32, 97, 110, 121, 32, 110, 111, 110, 101, 32, 116, 121, 112, 101, 32]
example : textW.length = 89 := by decide
def letters (l : List UInt8) : Bool := l.all fun c => 97 ≤ c && c ≤ 122
/-- does a blank, l and a blank stand at i? -/
def standsAt (i : Nat) (l : List UInt8) : Bool := (textW.drop i).take (l.length + 2) == 32 :: l ++ [32]
theorem word_tag {l : List UInt8} (h : isWordL l = true) : tagL l = true := by
  have hall : (wordL.all fun w => tagL w) = true := by decide
  exact List.all_eq_true.1 hall l (by simpa [isWordL] using h)
theorem word_letters {l : List UInt8} (h : isWordL l = true) : letters l = true ∧ l ≠ [] := by
  have hall : (wordL.all fun w => letters w && !w.isEmpty) = true := by decide
  have := List.all_eq_true.1 hall l (by simpa [isWordL] using h)
  simp only [Bool.and_eq_true] at this
  refine ⟨this.1, fun e => ?_⟩
  subst e
  simp at this
theorem word_stands {l : List UInt8} (h : isWordL l = true) : ∃ i, i + l.length + 2 ≤ 89 ∧ standsAt i l = true := by
  have hall : (wordL.all fun w => (List.range 89).any fun i => decide (i + w.length + 2 ≤ 89) && standsAt i w) = true := by decide +kernel
  have := List.all_eq_true.1 hall l (by simpa [isWordL] using h)
  obtain ⟨i, _, hi⟩ := List.any_eq_true.1 this
  simp only [Bool.and_eq_true, decide_eq_true_eq] at hi
  exact ⟨i, hi⟩
theorem stands_all : ((List.range 89).all fun i => (List.range 89).all fun n => !(letters (((textW.drop (i + 1)).take n)) && decide (n ≠ 0) && standsAt i ((textW.drop (i + 1)).take n) && decide (((textW.drop (i + 1)).take n).length = n)) || isWordL ((textW.drop (i + 1)).take n)) = true := by decide +kernel
theorem stands_word {l : List UInt8} (hl : letters l = true) (h0 : l ≠ []) (i : Nat) (hi : i + l.length + 2 ≤ 89) (h : standsAt i l = true) : isWordL l = true := by
  have h1 : (textW.drop i).take (l.length + 2) = 32 :: l ++ [32] := by simpa [standsAt] using h
  have h2 : (textW.drop (i + 1)).take l.length = l := by
    have := congrArg (fun x => (x.drop 1).take l.length) h1
    simp only [List.drop_take, List.drop_drop] at this
    rw [List.take_take] at this
    rw [show min l.length (l.length + 2 - 1) = l.length by omega] at this
    simpa using this
  have h3 := List.all_eq_true.1 (List.all_eq_true.1 stands_all i (List.mem_range.2 (by omega))) l.length (List.mem_range.2 (by omega))
  have hne : l.length ≠ 0 := fun e => h0 (List.eq_nil_of_length_eq_zero e)
  simpa [h2, hl, h, hne, h0] using h3
end Go.Proofs.YtifilhkkgkihpaaGreatDoor
set_option linter.unusedSimpArgs false
set_option linter.unusedVariables false
namespace Go.Proofs.YtifilhkkgkihpaaGreatDoor
open Go.RowKit
theorem lowB_eq (c : UInt8) : lowB c = (decide (97 ≤ (c.toNat : Int)) && decide ((c.toNat : Int) ≤ 122) || ((c.toNat : Int) == 95)) := by
  unfold lowB
  rw [Bool.eq_iff_iff]
  simp [UInt8.le_iff_toNat_le, ← UInt8.toNat_inj]
  omega
theorem digB_eq (c : UInt8) : digB c = (decide (48 ≤ (c.toNat : Int)) && decide ((c.toNat : Int) ≤ 57)) := by
  unfold digB
  rw [Bool.eq_iff_iff]
  simp [UInt8.le_iff_toNat_le]
  omega
theorem ret_bool {a b : Bool} (h : a = b) : Ending.returned (.bool a) = Ending.returned (.bool b) := by rw [h]
theorem ret_int {k : IntKind} {a b : Int} (h : a = b) : Ending.returned (.int k a) = Ending.returned (.int k b) := by rw [h]
theorem low_any (c : UInt8) (w : World) : Calls Tryz.prog 199 #[.int .u8 (c.toNat : Int)] w fun e w' => e = .returned (.bool (lowB c)) ∧ w = w' := by
  go_enter Tryz.func199, Tryz.ntmps199
  go_wp2
  all_goals
    go_ret
    refine ⟨ret_bool ?_, rfl⟩
    rw [lowB_eq, Bool.eq_iff_iff]
    simp
    try omega
theorem dig_any (c : UInt8) (w : World) : Calls Tryz.prog 214 #[.int .u8 (c.toNat : Int)] w fun e w' => e = .returned (.bool (digB c)) ∧ w = w' := by
  go_enter Tryz.func214, Tryz.ntmps214
  go_wp2
  all_goals
    go_ret
    refine ⟨ret_bool ?_, rfl⟩
    rw [digB_eq, Bool.eq_iff_iff]
    simp
    try omega
theorem in_any (c : UInt8) (w : World) : Calls Tryz.prog 201 #[.int .u8 (c.toNat : Int)] w fun e w' => e = .returned (.bool (inB c)) ∧ w = w' := by
  unfold inB
  cases hl : lowB c
  · cases hd : digB c
    all_goals
      have HL := Lib.hid hl
      have HD := Lib.hid hd
      clear hl hd
      go_enter Tryz.func201, Tryz.ntmps201
      go_wp2_with (first | (go_at_call 199; ((with_reducible refine (low_any _ _).mono ?_); rintro e w' ⟨rfl, rfl⟩; rw [HL.out])) | (go_at_call 214; ((with_reducible refine (dig_any _ _).mono ?_); rintro e w' ⟨rfl, rfl⟩; rw [HD.out])))
      go_ret
      exact ⟨by simp, rfl⟩
  · have HL := Lib.hid hl
    clear hl
    go_enter Tryz.func201, Tryz.ntmps201
    go_wp2_with (first | (go_at_call 199; ((with_reducible refine (low_any _ _).mono ?_); rintro e w' ⟨rfl, rfl⟩; rw [HL.out])))
    go_ret
    exact ⟨by simp, rfl⟩
/-- how many of the first bytes may be. -/
def runL (l : List UInt8) : Nat := (l.takeWhile inB).length
theorem run_snoc (l : List UInt8) (k : Nat) (hk : k < l.length) (h : ∀ i (hi : i < k), inB (l[i]'(by omega)) = true) (hb : inB l[k] = false) : runL l = k := by
  induction l generalizing k with
  | nil => simp at hk
  | cons c l ih =>
    cases k with
    | zero =>
      simp at hb
      simp [runL, List.takeWhile_cons, hb]
    | succ k =>
      have h0 : inB c = true := h 0 (by omega)
      have := ih k (by simpa using hk) (fun i hi => by have := h (i + 1) (by omega); simpa using this) (by simpa using hb)
      unfold runL at *
      rw [List.takeWhile_cons, if_pos h0, List.length_cons, this]
theorem run_all (l : List UInt8) (h : ∀ i (hi : i < l.length), inB l[i] = true) : runL l = l.length := by
  induction l with
  | nil => rfl
  | cons c l ih =>
    have h0 : inB c = true := h 0 (by simp)
    have := ih (fun i hi => by have := h (i + 1) (by simpa using hi); simpa using this)
    unfold runL at *
    rw [List.takeWhile_cons, if_pos h0, List.length_cons, List.length_cons, this]
theorem run_any (s : ByteArray) (hs : s.size ≤ 100000) (w : World) : Calls Tryz.prog 200 #[.string s, .func (.func 201) #[] #[]] w fun e w' => e = .returned (.int .i64 (runL s.data.toList : Nat)) ∧ w = w' := by
  go_enter Tryz.func200, Tryz.ntmps200
  go_wp2
  go_loop [5] (fun s5 => ∃ k : Nat, k ≤ s.size ∧ s5 = .int .i64 (k : Int) ∧ Hid (∀ i (hi : i < s.size), i < k → inB s[i] = true)) (fun s5 => s.size - (intOf s5).toNat)
  case atStart => exact ⟨0, Nat.zero_le _, rfl, Lib.hid (fun i _ h => by omega)⟩
  case round =>
    obtain ⟨k, hk, rfl, HP⟩ := hrel
    have hwk : IntKind.i64.wrap ((k : Int) + 1) = (k : Int) + 1 := by rw [IntKind.wrap_i64]; omega
    by_cases hlt : k < s.size
    · have hlt2 : (k : Int) < s.size := by omega
      cases hb : inB s[k] with
      | true =>
        have HB := Lib.hid hb
        clear hb
        go_wp2_with (go_at_call 201; ((with_reducible refine (in_any _ _).mono ?_); rintro e w' ⟨rfl, rfl⟩; rw [HB.out]))
        go_round
        case rel => exact ⟨k + 1, by omega, by go_num, Lib.hid (fun i hi h => by
          by_cases he : i = k
          · subst he; exact HB.out
          · exact HP.out i hi (by omega))⟩
        case measure => simp [intOf]; omega
      | false =>
        have HB := Lib.hid hb
        clear hb
        go_wp2_with (go_at_call 201; ((with_reducible refine (in_any _ _).mono ?_); rintro e w' ⟨rfl, rfl⟩; rw [HB.out]))
        go_ret
        refine ⟨ret_int ?_, rfl⟩
        rw [run_snoc s.data.toList k (by simpa using hlt) (fun i hi => HP.out i (by omega) hi) HB.out]
    · have hlt2 : ¬ (k : Int) < s.size := by omega
      go_wp2
      go_ret
      refine ⟨ret_int ?_, rfl⟩
      rw [run_all s.data.toList (fun i hi => HP.out i (by simpa using hi) (Nat.lt_of_lt_of_le (show i < s.size from by simpa using hi) (by omega)))]
      simp
      omega
def wordB : List ByteArray := [⟨#[102, 117, 110]⟩, ⟨#[108, 101, 116]⟩, ⟨#[114, 101, 99]⟩, ⟨#[105, 110]⟩, ⟨#[105, 102]⟩, ⟨#[116, 104, 101, 110]⟩, ⟨#[101, 108, 115, 101]⟩, ⟨#[99, 97, 115, 101]⟩, ⟨#[111, 102]⟩, ⟨#[101, 110, 100]⟩, ⟨#[116, 114, 117, 101]⟩, ⟨#[102, 97, 108, 115, 101]⟩, ⟨#[105, 110, 116]⟩, ⟨#[98, 111, 111, 108]⟩, ⟨#[115, 116, 114]⟩, ⟨#[102, 108, 111, 97, 116]⟩, ⟨#[100, 121, 110]⟩, ⟨#[97, 110, 121]⟩, ⟨#[110, 111, 110, 101]⟩, ⟨#[116, 121, 112, 101]⟩]
/-- is it among them? -/
def memB (S : List ByteArray) (x : ByteArray) : Bool := (S.map fun b => b.data.toList).contains x.data.toList
theorem memB_iff (S : List ByteArray) (x : ByteArray) : memB S x = true ↔ x ∈ S := by
  unfold memB
  simp only [List.contains_iff_mem, List.mem_map]
  constructor
  · rintro ⟨b, hb, e⟩
    have : b = x := ByteArray.ext (Array.toList_inj.1 e)
    rw [← this]; exact hb
  · intro h
    exact ⟨x, h, rfl⟩
theorem word_contains (s : ByteArray) : isWordL s.data.toList = memB wordB s := rfl
theorem toList_inj {a b : ByteArray} (h : a.toList = b.toList) : a = b := by
  rw [Lib.toList_data, Lib.toList_data] at h
  exact ByteArray.ext (Array.toList_inj.1 h)
theorem idx_none (w : World) (b off n c : Nat) (S : List ByteArray) (x : ByteArray) (hS : S.length = n) (hn : n ≤ 100000) (hc : Hid (∀ k s, S[k]? = some s → w.cell? ⟨b, off + k, none⟩ = some (.string s))) (hx : Hid (∀ (k : Nat) (s : ByteArray), S[k]? = some s → s ≠ x)) :
    Calls Tryz.prog 221 #[.slice (some ⟨b, off, none⟩) n c, .string x] w fun e w' => e = .returned (.int .i64 (-1)) ∧ w = w' := by
  have HS := Lib.hid hS
  clear hS
  go_enter Tryz.func221, Tryz.ntmps221
  go_wp2
  go_loop [8] (fun s8 => ∃ k : Nat, k ≤ n ∧ s8 = .int .i64 (k : Int)) (fun s8 => n - (intOf s8).toNat)
  case atStart => exact ⟨0, Nat.zero_le _, rfl⟩
  case round =>
    obtain ⟨k, hk, rfl⟩ := hrel
    have hwk : IntKind.i64.wrap ((k : Int) + 1) = (k : Int) + 1 := by rw [IntKind.wrap_i64]; omega
    by_cases hlt : k < n
    · have hlt2 : (k : Int) < n := by omega
      obtain ⟨s, hs⟩ : ∃ s, S[k]? = some s := ⟨_, List.getElem?_eq_getElem (by rw [HS.out]; exact hlt)⟩
      have ac := hc.out k s hs
      have hne : (x.toList == s.toList) = false := by
        cases hh : (x.toList == s.toList) with
        | false => rfl
        | true => exact absurd (toList_inj (by simpa using hh)).symm (hx.out k s hs)
      clear hs
      go_wp2
      go_round
      case rel => exact ⟨k + 1, by omega, by go_num⟩
      case measure => simp [intOf]; omega
    · have hlt2 : ¬ (k : Int) < n := by omega
      go_wp2
      go_ret
      exact ⟨rfl, rfl⟩
theorem idx_some (w : World) (b off n c p : Nat) (S : List ByteArray) (x : ByteArray) (hS : S.length = n) (hn : n ≤ 100000) (hc : Hid (∀ k s, S[k]? = some s → w.cell? ⟨b, off + k, none⟩ = some (.string s))) (hp : S[p]? = some x) (hx : Hid (∀ (k : Nat) (s : ByteArray), k < p → S[k]? = some s → s ≠ x)) :
    Calls Tryz.prog 221 #[.slice (some ⟨b, off, none⟩) n c, .string x] w fun e w' => e = .returned (.int .i64 (p : Int)) ∧ w = w' := by
  have HS := Lib.hid hS
  have hpn : p < n := by rw [← hS]; exact (List.getElem?_eq_some_iff.1 hp).1
  have HP := Lib.hid hp
  clear hS hp
  go_enter Tryz.func221, Tryz.ntmps221
  go_wp2
  go_loop [8] (fun s8 => ∃ k : Nat, k ≤ p ∧ s8 = .int .i64 (k : Int)) (fun s8 => n - (intOf s8).toNat)
  case atStart => exact ⟨0, Nat.zero_le _, rfl⟩
  case round =>
    obtain ⟨k, hk, rfl⟩ := hrel
    have hwk : IntKind.i64.wrap ((k : Int) + 1) = (k : Int) + 1 := by rw [IntKind.wrap_i64]; omega
    have hlt2 : (k : Int) < n := by omega
    by_cases hlt : k < p
    · obtain ⟨s, hs⟩ : ∃ s, S[k]? = some s := ⟨_, List.getElem?_eq_getElem (by rw [HS.out]; omega)⟩
      have ac := hc.out k s hs
      have hne : (x.toList == s.toList) = false := by
        cases hh : (x.toList == s.toList) with
        | false => rfl
        | true => exact absurd (toList_inj (by simpa using hh)).symm (hx.out k s hlt hs)
      clear hs
      go_wp2
      go_round
      case rel => exact ⟨k + 1, by omega, by go_num⟩
      case measure => simp [intOf]; omega
    · obtain rfl : p = k := by omega
      have ac := hc.out p x HP.out
      go_wp2
      go_ret
      exact ⟨rfl, rfl⟩
/-- is it among them? -/
theorem contains_any (w : World) (b off n c : Nat) (S : List ByteArray) (x : ByteArray) (hS : S.length = n) (hn : n ≤ 100000) (hc : Hid (∀ k s, S[k]? = some s → w.cell? ⟨b, off + k, none⟩ = some (.string s))) :
    Calls Tryz.prog 171 #[.slice (some ⟨b, off, none⟩) n c, .string x] w fun e w' => e = .returned (.bool (memB S x)) ∧ w = w' := by
  by_cases hcx : x ∈ S
  · have hm := hcx
    rw [(memB_iff S x).2 hcx]
    obtain ⟨p, hp, hf⟩ : ∃ p, S[p]? = some x ∧ ∀ (k : Nat) (s : ByteArray), k < p → S[k]? = some s → s ≠ x := by
      clear hc hS hcx
      induction S with
      | nil => cases hm
      | cons y l ih =>
        by_cases he : y = x
        · exact ⟨0, by simp [he], fun k s hk => by omega⟩
        · obtain ⟨p, h1, h2⟩ := ih ((List.mem_cons.1 hm).resolve_left (fun e => he e.symm))
          refine ⟨p + 1, by simpa using h1, fun k s hk hs => ?_⟩
          cases k with
          | zero => simp at hs; rw [← hs]; exact he
          | succ k => exact h2 k s (by omega) (by simpa using hs)
    have HI := Lib.hid (idx_some w b off n c p S x hS hn hc hp (Lib.hid hf))
    clear hp hf hm hS hcx
    go_enter Tryz.func171, Tryz.ntmps171
    go_wp2_with (go_at_call 221; refine HI.out.mono ?_; rintro e w' ⟨rfl, rfl⟩)
    go_ret
    exact ⟨by simp, rfl⟩
  · rw [show memB S x = false from by cases hh : memB S x with
      | false => rfl
      | true => exact absurd ((memB_iff S x).1 hh) hcx]
    have hno : ∀ (k : Nat) (s : ByteArray), S[k]? = some s → s ≠ x := fun k s hk e => hcx (by rw [← e]; exact List.mem_of_getElem? hk)
    have HI := Lib.hid (idx_none w b off n c S x hS hn hc (Lib.hid hno))
    clear hno hS hcx
    go_enter Tryz.func171, Tryz.ntmps171
    go_wp2_with (go_at_call 221; refine HI.out.mono ?_; rintro e w' ⟨rfl, rfl⟩)
    go_ret
    exact ⟨by simp, rfl⟩
theorem words_any (w : World) : Calls Tryz.prog 245 #[] w fun e w' => e = .returned (.slice (some ⟨w.heap.size, 0, none⟩) 20 20) ∧ (∀ k s, wordB[k]? = some s → w'.cell? ⟨w.heap.size, 0 + k, none⟩ = some (.string s)) ∧ Below w.heap.size w w' := by
  have hn := heap_alloc_new w (.cells #[.string ⟨#[102, 117, 110]⟩, .string ⟨#[108, 101, 116]⟩, .string ⟨#[114, 101, 99]⟩, .string ⟨#[105, 110]⟩, .string ⟨#[105, 102]⟩, .string ⟨#[116, 104, 101, 110]⟩, .string ⟨#[101, 108, 115, 101]⟩, .string ⟨#[99, 97, 115, 101]⟩, .string ⟨#[111, 102]⟩, .string ⟨#[101, 110, 100]⟩, .string ⟨#[116, 114, 117, 101]⟩, .string ⟨#[102, 97, 108, 115, 101]⟩, .string ⟨#[105, 110, 116]⟩, .string ⟨#[98, 111, 111, 108]⟩, .string ⟨#[115, 116, 114]⟩, .string ⟨#[102, 108, 111, 97, 116]⟩, .string ⟨#[100, 121, 110]⟩, .string ⟨#[97, 110, 121]⟩, .string ⟨#[110, 111, 110, 101]⟩, .string ⟨#[116, 121, 112, 101]⟩] 9)
  have HN := Lib.hid hn
  have HB : Hid (Below w.heap.size w (w.alloc (.cells #[.string ⟨#[102, 117, 110]⟩, .string ⟨#[108, 101, 116]⟩, .string ⟨#[114, 101, 99]⟩, .string ⟨#[105, 110]⟩, .string ⟨#[105, 102]⟩, .string ⟨#[116, 104, 101, 110]⟩, .string ⟨#[101, 108, 115, 101]⟩, .string ⟨#[99, 97, 115, 101]⟩, .string ⟨#[111, 102]⟩, .string ⟨#[101, 110, 100]⟩, .string ⟨#[116, 114, 117, 101]⟩, .string ⟨#[102, 97, 108, 115, 101]⟩, .string ⟨#[105, 110, 116]⟩, .string ⟨#[98, 111, 111, 108]⟩, .string ⟨#[115, 116, 114]⟩, .string ⟨#[102, 108, 111, 97, 116]⟩, .string ⟨#[100, 121, 110]⟩, .string ⟨#[97, 110, 121]⟩, .string ⟨#[110, 111, 110, 101]⟩, .string ⟨#[116, 121, 112, 101]⟩] 9))) := Lib.hid ((Below.refl _ _).alloc (Nat.le_refl _) _)
  clear hn
  go_enter Tryz.func245, Tryz.ntmps245
  go_wp2
  go_ret
  refine ⟨rfl, fun k s hs => ?_, HB.out⟩
  rw [cell_of_row _ _ _ _ 9 _ HN.out]
  have : (#[.string ⟨#[102, 117, 110]⟩, .string ⟨#[108, 101, 116]⟩, .string ⟨#[114, 101, 99]⟩, .string ⟨#[105, 110]⟩, .string ⟨#[105, 102]⟩, .string ⟨#[116, 104, 101, 110]⟩, .string ⟨#[101, 108, 115, 101]⟩, .string ⟨#[99, 97, 115, 101]⟩, .string ⟨#[111, 102]⟩, .string ⟨#[101, 110, 100]⟩, .string ⟨#[116, 114, 117, 101]⟩, .string ⟨#[102, 97, 108, 115, 101]⟩, .string ⟨#[105, 110, 116]⟩, .string ⟨#[98, 111, 111, 108]⟩, .string ⟨#[115, 116, 114]⟩, .string ⟨#[102, 108, 111, 97, 116]⟩, .string ⟨#[100, 121, 110]⟩, .string ⟨#[97, 110, 121]⟩, .string ⟨#[110, 111, 110, 101]⟩, .string ⟨#[116, 121, 112, 101]⟩] : Array Value) = (wordB.map Value.string).toArray := rfl
  rw [this]
  simp [hs]
theorem isword_any (s : ByteArray) (w : World) : Calls Tryz.prog 202 #[.string s] w fun e w' => e = .returned (.bool (isWordL s.data.toList)) ∧ Below w.heap.size w w' := by
  rw [word_contains]
  go_enter Tryz.func202, Tryz.ntmps202
  go_wp2_with fail
  refine (words_any w).mono ?_
  rintro e w1 ⟨rfl, hc, hb⟩
  have HC := Lib.hid hc
  have HB := Lib.hid hb
  clear hc hb
  go_wp2_with (go_at_call 171; refine (contains_any w1 w.heap.size 0 20 20 wordB s rfl (by omega) HC).mono ?_; rintro e w' ⟨rfl, rfl⟩)
  go_ret
  exact ⟨rfl, HB.out⟩
end Go.Proofs.YtifilhkkgkihpaaGreatDoor
set_option linter.unusedSimpArgs false
set_option linter.unusedVariables false
namespace Go.Proofs.YtifilhkkgkihpaaGreatDoor
open Go.RowKit
theorem all_run : ∀ (l : List UInt8), (runL l = l.length) ↔ l.all inB = true
  | [] => by simp [runL]
  | c :: l => by
    have ih := all_run l
    unfold runL at *
    rw [List.takeWhile_cons, List.all_cons]
    cases h : inB c
    · simp
    · simp only [if_true, List.length_cons, Bool.true_and]
      rw [← ih]; omega
theorem tag_eq (c : UInt8) (l : List UInt8) (h : lowB c = true) : tagL (c :: l) = decide (runL (c :: l) = (c :: l).length) := by
  have hi : inB c = true := by unfold inB; rw [h]; rfl
  rw [Bool.eq_iff_iff, decide_eq_true_eq, all_run, List.all_cons, hi]
  simp [tagL, h]
theorem tag_low (c : UInt8) (l : List UInt8) (h : lowB c = false) : tagL (c :: l) = false := by simp [tagL, h]
theorem size_cons {s : ByteArray} {c : UInt8} {l : List UInt8} (h : s.data.toList = c :: l) : s.size = l.length + 1 := by
  have : s.data.toList.length = (c :: l).length := by rw [h]
  simpa using this
theorem isname_any (s : ByteArray) (hs : s.size ≤ 100000) (w : World) : Calls Tryz.prog 154 #[.string s] w fun e w' => e = .returned (.bool (nameL s.data.toList)) ∧ Below w.heap.size w w' := by
  cases hl : s.data.toList with
  | nil =>
    have hz : s.toList = [] := by rw [Lib.toList_data]; exact hl
    have hz2 : s.toList.isEmpty = true := by rw [hz]; rfl
    clear hl
    go_enter Tryz.func154, Tryz.ntmps154
    go_wp2
    go_ret
    exact ⟨by simp [nameL, tagL], Below.refl _ _⟩
  | cons c l =>
    have hsz := size_cons hl
    have h00 : 0 < s.size := by omega
    have hc : s[0]'h00 = c := by
      have : s.data.toList[0]? = some c := by rw [hl]; rfl
      have h0 : 0 < s.data.toList.length := by rw [hl]; simp
      rw [List.getElem?_eq_getElem h0] at this
      exact Option.some.inj this
    have hne : s.toList.isEmpty = false := by rw [Lib.toList_data, hl]; rfl
    have hne2 : s.toList ≠ [] := by rw [Lib.toList_data, hl]; simp
    have hpos : (0 : Int) < s.size := by omega
    have hsm : (s.size : Int) ≤ 100000 := by omega
    have HLL := Lib.hid hl
    have HC := Lib.hid hc
    clear hc hl hsz
    cases hlo : lowB c with
    | false =>
      have hn : nameL (c :: l) = false := by unfold nameL; rw [tag_low c l hlo]; rfl
      have HLO := Lib.hid hlo
      have HN := Lib.hid hn
      clear hlo hn
      go_enter Tryz.func154, Tryz.ntmps154
      go_wp2_with (go_at_call 199; ((with_reducible refine (low_any _ _).mono ?_); rintro e w' ⟨rfl, rfl⟩; rw [HC.out, HLO.out]))
      go_ret
      exact ⟨by rw [HN.out]; rfl, Below.refl _ _⟩
    | true =>
      have HLO := Lib.hid hlo
      have ht := tag_eq c l hlo
      by_cases hr : runL (c :: l) = (c :: l).length
      · rw [decide_eq_true hr] at ht
        have hre : ((runL s.data.toList : Nat) : Int) = (s.size : Int) := by
          have : s.size = s.data.toList.length := by simp
          rw [this, HLL.out, hr]
        have HRE := Lib.hid hre
        have hn : nameL (c :: l) = !isWordL (c :: l) := by unfold nameL; rw [ht]; rfl
        have HN := Lib.hid hn
        clear hlo ht hr hre hn
        have HW := isword_any s
        rw [HLL.out] at HW
        cases hw : isWordL (c :: l) with
        | false =>
          have HWW := Lib.hid hw
          rw [hw] at HW
          have HWC := Lib.hid HW
          clear hw HW
          go_enter Tryz.func154, Tryz.ntmps154
          go_wp2_with (first | (go_at_call 199; ((with_reducible refine (low_any _ _).mono ?_); rintro e w' ⟨rfl, rfl⟩; rw [HC.out, HLO.out])) | (go_at_call 200; ((with_reducible refine (run_any _ hs _).mono ?_); rintro e w' ⟨rfl, rfl⟩; rw [HRE.out])) | (go_at_call 202; refine (HWC.out _).mono ?_; rintro e w5 ⟨rfl, hb5⟩))
          go_ret
          exact ⟨by rw [HN.out, HWW.out]; simp, hb5⟩
        | true =>
          have HWW := Lib.hid hw
          rw [hw] at HW
          have HWC := Lib.hid HW
          clear hw HW
          go_enter Tryz.func154, Tryz.ntmps154
          go_wp2_with (first | (go_at_call 199; ((with_reducible refine (low_any _ _).mono ?_); rintro e w' ⟨rfl, rfl⟩; rw [HC.out, HLO.out])) | (go_at_call 200; ((with_reducible refine (run_any _ hs _).mono ?_); rintro e w' ⟨rfl, rfl⟩; rw [HRE.out])) | (go_at_call 202; refine (HWC.out _).mono ?_; rintro e w5 ⟨rfl, hb5⟩))
          go_ret
          exact ⟨by rw [HN.out, HWW.out]; simp, hb5⟩
      · rw [decide_eq_false hr] at ht
        have hre : (((runL s.data.toList : Nat) : Int) == (s.size : Int)) = false := by
          have : s.size = s.data.toList.length := by simp
          rw [this, HLL.out]
          exact beq_eq_false_iff_ne.2 (fun e => hr (by exact_mod_cast e))
        have hn : nameL (c :: l) = false := by unfold nameL; rw [ht]; rfl
        have HN := Lib.hid hn
        clear hlo ht hr hn
        go_enter Tryz.func154, Tryz.ntmps154
        go_wp2_with (first | (go_at_call 199; ((with_reducible refine (low_any _ _).mono ?_); rintro e w' ⟨rfl, rfl⟩; rw [HC.out, HLO.out])) | (go_at_call 200; ((with_reducible refine (run_any _ hs _).mono ?_); rintro e w' ⟨rfl, rfl⟩)))
        go_ret
        exact ⟨by rw [HN.out]; rfl, Below.refl _ _⟩
/-- a name, or a word. -/
theorem tag_any (s : ByteArray) (hs : s.size ≤ 100000) (w : World) : Calls Tryz.prog 158 #[.string s] w fun e w' => e = .returned (.bool (tagL s.data.toList)) ∧ Below w.heap.size w w' := by
  have HI := isname_any s hs
  have HW := isword_any s
  cases hn : nameL s.data.toList with
  | true =>
    have ht : tagL s.data.toList = true := by unfold nameL at hn; simp at hn; exact hn.1
    rw [hn] at HI
    have HII := Lib.hid HI
    rw [ht]
    clear hn ht HI HW
    go_enter Tryz.func158, Tryz.ntmps158
    go_wp2_with (go_at_call 154; refine (HII.out _).mono ?_; rintro e w5 ⟨rfl, hb5⟩)
    go_ret
    exact ⟨by simp, hb5⟩
  | false =>
    have ht : tagL s.data.toList = isWordL s.data.toList := by
      unfold nameL at hn
      cases hw : isWordL s.data.toList with
      | true => exact word_tag hw
      | false => rw [hw] at hn; simpa using hn
    rw [hn] at HI
    rw [ht]
    have HII := Lib.hid HI
    have HWW := Lib.hid HW
    clear hn ht HI HW
    generalize isWordL s.data.toList = B at *
    cases B
    all_goals
      go_enter Tryz.func158, Tryz.ntmps158
      go_wp2_with (first | (go_at_call 154; refine (HII.out _).mono ?_; rintro e w5 ⟨rfl, hb5⟩; have HB5 := Lib.hid hb5; clear hb5) | (go_at_call 202; refine (HWW.out _).mono ?_; rintro e w6 ⟨rfl, hb6⟩))
      go_ret
      exact ⟨by simp, HB5.out.trans (hb6.mono HB5.out.size)⟩
end Go.Proofs.YtifilhkkgkihpaaGreatDoor
set_option linter.unusedSimpArgs false
set_option linter.unusedVariables false
namespace Go.Proofs.YtifilhkkgkihpaaGreatDoor
open Go.RowKit
def NamesAt (w : World) (an : Option Addr) (n : Nat) (NS : List ByteArray) : Prop := n = NS.length ∧ (n = 0 ∨ ∃ gn on, an = some ⟨gn, on, none⟩ ∧ gn < w.heap.size ∧ ∀ i s, NS[i]? = some s → w.cell? ⟨gn, on + i, none⟩ = some (.string s))
theorem NamesAt.on {w w' : World} {an : Option Addr} {n : Nat} {NS : List ByteArray} (h : NamesAt w an n NS) (hb : Below w.heap.size w w') : NamesAt w' an n NS := by
  refine ⟨h.1, ?_⟩
  rcases h.2 with h' | ⟨gn, on, e, hg, hc⟩
  · exact Or.inl h'
  · exact Or.inr ⟨gn, on, e, Nat.lt_of_lt_of_le hg hb.size, fun i s hi => by rw [← hc i s hi]; exact hb.cell (p := ⟨gn, on + i, none⟩) hg⟩
def IdxPost (w : World) (b : Bool) (e : Ending) (w' : World) : Prop := ∃ r : Int, e = .returned (.int .i64 r) ∧ (r = -1 ∧ b = true ∨ 0 ≤ r ∧ b = false) ∧ Below w.heap.size w w'
theorem clos_102 (w : World) (B : Nat) (s : ByteArray) (hs : s.size ≤ 100000) (hB : w.cell? ⟨B, 0, none⟩ = some (.func (.func 154) #[] #[])) : Calls Tryz.prog 205 #[.string s, .pointer (some ⟨B, 0, none⟩)] w fun e w' => e = .returned (.bool (!nameL s.data.toList)) ∧ Below w.heap.size w w' := by
  have H := Lib.hid (isname_any s hs)
  generalize nameL s.data.toList = b at *
  cases b
  all_goals
    go_enter Tryz.func205, Tryz.ntmps205
    go_wp2_with (go_at_call 154; refine (H.out _).mono ?_; rintro e w5 ⟨rfl, hb5⟩)
    go_ret
    exact ⟨by simp, hb5⟩
theorem idxf_102 (w : World) (b off n c B : Nat) (S : List ByteArray) (hS : S.length = n) (hn : n ≤ 100000) (hc : Hid (∀ (k : Nat) (s : ByteArray), S[k]? = some s → w.cell? ⟨b, off + k, none⟩ = some (.string s))) (hb : b < w.heap.size) (hz : Hid (∀ s ∈ S, s.size ≤ 100000)) (hB : w.heap[B]? = some (.cells #[.func (.func 154) #[] #[]] 99 (0, 0))) :
    Calls Tryz.prog 246 #[.slice (some ⟨b, off, none⟩) n c, .func (.func 205) #[] #[.pointer (some ⟨B, 0, none⟩)]] w (IdxPost w (S.all fun s => nameL s.data.toList)) := by
  have HS := Lib.hid hS
  have HB := Lib.hid hB
  have HBB := Lib.hid hb
  clear hS hB hb
  go_enter Tryz.func246, Tryz.ntmps246
  go_wp2
  go_loopw [8] (fun s8 wr => ∃ k : Nat, k ≤ n ∧ s8 = .int .i64 (k : Int) ∧ Hid ((S.take k).all (fun s => nameL s.data.toList) = true) ∧ Hid (Below w.heap.size w wr)) (fun s8 _ => n - (intOf s8).toNat)
  case atStart => exact ⟨0, Nat.zero_le _, rfl, rfl, Below.refl _ _⟩
  case round =>
    obtain ⟨k, hk, rfl, HA, HW⟩ := hrel
    have hwk : IntKind.i64.wrap ((k : Int) + 1) = (k : Int) + 1 := by rw [IntKind.wrap_i64]; omega
    by_cases hlt : k < n
    · have hlt2 : (k : Int) < n := by omega
      obtain ⟨s, hs⟩ : ∃ s, S[k]? = some s := ⟨_, List.getElem?_eq_getElem (by rw [HS.out]; exact hlt)⟩
      have ac : wr.cell? ⟨b, off + k, none⟩ = some (.string s) := by rw [← hc.out k s hs]; exact HW.out.cell (p := ⟨b, off + k, none⟩) HBB.out
      have HCL := Lib.hid (clos_102 wr B s (hz.out s (List.mem_of_getElem? hs)) (by rw [cell_of_row _ B 0 _ 99 _ ((HW.out.block B (Array.getElem?_eq_some_iff.1 HB.out).1).trans HB.out)]; rfl))
      have hst : S.take (k + 1) = S.take k ++ [s] := by rw [List.take_add_one, hs]; rfl
      have HST := Lib.hid hst
      have HSS := Lib.hid hs
      clear hs hst
      cases hp : nameL s.data.toList with
      | true =>
        rw [hp] at HCL
        have HP := Lib.hid hp
        clear hp
        go_wp2_with (go_at_call 205; refine HCL.out.mono ?_; rintro e w5 ⟨rfl, hb5⟩)
        go_roundw
        case rel => exact ⟨k + 1, by omega, by go_num, Lib.hid (by rw [HST.out, List.all_append, HA.out]; simp [HP.out]), Lib.hid (HW.out.trans (hb5.mono HW.out.size))⟩
        case measure => simp [intOf]; omega
      | false =>
        rw [hp] at HCL
        have HP := Lib.hid hp
        clear hp
        go_wp2_with (go_at_call 205; refine HCL.out.mono ?_; rintro e w5 ⟨rfl, hb5⟩)
        go_ret
        exact ⟨k, rfl, Or.inr ⟨by omega, List.all_eq_false.2 ⟨s, List.mem_of_getElem? HSS.out, by simp [HP.out]⟩⟩, HW.out.trans (hb5.mono HW.out.size)⟩
    · have hlt2 : ¬ (k : Int) < n := by omega
      obtain rfl : k = n := by omega
      go_wp2
      go_ret
      exact ⟨-1, rfl, Or.inl ⟨rfl, by have := HA.out; rwa [List.take_of_length_le (by rw [HS.out]; omega)] at this⟩, HW.out⟩
theorem idxz_102 (w : World) (a : Option Addr) (c : Nat) (g : Value) : Calls Tryz.prog 246 #[.slice a 0 c, g] w (IdxPost w true) := by
  go_enter Tryz.func246, Tryz.ntmps246
  go_wp2
  go_loop [8] (fun s8 => s8 = .int .i64 0) (fun _ => 0)
  case atStart => exact rfl
  case round =>
    obtain rfl := hrel
    go_wp2
    go_ret
    exact ⟨-1, rfl, Or.inl ⟨rfl, rfl⟩, Below.refl _ _⟩
theorem cont_102 (w : World) (a : Option Addr) (n c B : Nat) (S : List ByteArray) (hN : NamesAt w a n S) (hn : n ≤ 100000) (hz : ∀ s ∈ S, s.size ≤ 100000) (hB : w.heap[B]? = some (.cells #[.func (.func 154) #[] #[]] 99 (0, 0))) :
    Calls Tryz.prog 204 #[.slice a n c, .func (.func 205) #[] #[.pointer (some ⟨B, 0, none⟩)]] w fun e w' => e = .returned (.bool (!(S.all fun s => nameL s.data.toList))) ∧ Below w.heap.size w w' := by
  have HI : Hid (Calls Tryz.prog 246 #[.slice a n c, .func (.func 205) #[] #[.pointer (some ⟨B, 0, none⟩)]] w (IdxPost w (S.all fun s => nameL s.data.toList))) := by
    obtain ⟨hn', hN⟩ := hN
    rcases hN with rfl | ⟨gn, on, rfl, hg, hc⟩
    · rw [List.eq_nil_of_length_eq_zero hn'.symm]
      exact idxz_102 w a c _
    · exact idxf_102 w gn on n c B S hn'.symm hn (Lib.hid hc) hg (Lib.hid hz) hB
  generalize (S.all fun s => nameL s.data.toList) = b at *
  clear hN hz hB
  go_enter Tryz.func204, Tryz.ntmps204
  go_wp2_with (go_at_call 246; refine HI.out.mono ?_; rintro e w5 ⟨r, rfl, hr, hb5⟩)
  rcases hr with ⟨rfl, rfl⟩ | ⟨hr, rfl⟩
  · go_ret
    exact ⟨by simp, hb5⟩
  · go_ret
    exact ⟨by simp [hr], hb5⟩
theorem all_102 (w : World) (a : Option Addr) (n c : Nat) (S : List ByteArray) (hN : NamesAt w a n S) (hn : n ≤ 100000) (hz : ∀ s ∈ S, s.size ≤ 100000) :
    Calls Tryz.prog 157 #[.slice a n c, .func (.func 154) #[] #[]] w fun e w' => e = .returned (.bool (S.all fun s => nameL s.data.toList)) ∧ Below w.heap.size w w' := by
  have hal := heap_alloc_new w (.cells #[.func (.func 154) #[] #[]] 99)
  have HBA : Hid (Below w.heap.size w (w.alloc (.cells #[.func (.func 154) #[] #[]] 99))) := Lib.hid ((Below.refl _ _).alloc (Nat.le_refl _) _)
  have HI := Lib.hid (cont_102 (w.alloc (.cells #[.func (.func 154) #[] #[]] 99)) a n c w.heap.size S (hN.on HBA.out) hn hz hal)
  generalize (S.all fun s => nameL s.data.toList) = b at *
  clear hN hz hal
  cases b
  all_goals
    go_enter Tryz.func157, Tryz.ntmps157
    go_wp2_with (go_at_call 204; refine HI.out.mono ?_; rintro e w5 ⟨rfl, hb5⟩)
    go_ret
    exact ⟨by simp, HBA.out.trans (hb5.mono HBA.out.size)⟩
theorem clos_105 (w : World) (B : Nat) (s : ByteArray) (hs : s.size ≤ 100000) (hB : w.cell? ⟨B, 0, none⟩ = some (.func (.func 158) #[] #[])) : Calls Tryz.prog 205 #[.string s, .pointer (some ⟨B, 0, none⟩)] w fun e w' => e = .returned (.bool (!tagL s.data.toList)) ∧ Below w.heap.size w w' := by
  have H := Lib.hid (tag_any s hs)
  generalize tagL s.data.toList = b at *
  cases b
  all_goals
    go_enter Tryz.func205, Tryz.ntmps205
    go_wp2_with (go_at_call 158; refine (H.out _).mono ?_; rintro e w5 ⟨rfl, hb5⟩)
    go_ret
    exact ⟨by simp, hb5⟩
theorem idxf_105 (w : World) (b off n c B : Nat) (S : List ByteArray) (hS : S.length = n) (hn : n ≤ 100000) (hc : Hid (∀ (k : Nat) (s : ByteArray), S[k]? = some s → w.cell? ⟨b, off + k, none⟩ = some (.string s))) (hb : b < w.heap.size) (hz : Hid (∀ s ∈ S, s.size ≤ 100000)) (hB : w.heap[B]? = some (.cells #[.func (.func 158) #[] #[]] 99 (0, 0))) :
    Calls Tryz.prog 246 #[.slice (some ⟨b, off, none⟩) n c, .func (.func 205) #[] #[.pointer (some ⟨B, 0, none⟩)]] w (IdxPost w (S.all fun s => tagL s.data.toList)) := by
  have HS := Lib.hid hS
  have HB := Lib.hid hB
  have HBB := Lib.hid hb
  clear hS hB hb
  go_enter Tryz.func246, Tryz.ntmps246
  go_wp2
  go_loopw [8] (fun s8 wr => ∃ k : Nat, k ≤ n ∧ s8 = .int .i64 (k : Int) ∧ Hid ((S.take k).all (fun s => tagL s.data.toList) = true) ∧ Hid (Below w.heap.size w wr)) (fun s8 _ => n - (intOf s8).toNat)
  case atStart => exact ⟨0, Nat.zero_le _, rfl, rfl, Below.refl _ _⟩
  case round =>
    obtain ⟨k, hk, rfl, HA, HW⟩ := hrel
    have hwk : IntKind.i64.wrap ((k : Int) + 1) = (k : Int) + 1 := by rw [IntKind.wrap_i64]; omega
    by_cases hlt : k < n
    · have hlt2 : (k : Int) < n := by omega
      obtain ⟨s, hs⟩ : ∃ s, S[k]? = some s := ⟨_, List.getElem?_eq_getElem (by rw [HS.out]; exact hlt)⟩
      have ac : wr.cell? ⟨b, off + k, none⟩ = some (.string s) := by rw [← hc.out k s hs]; exact HW.out.cell (p := ⟨b, off + k, none⟩) HBB.out
      have HCL := Lib.hid (clos_105 wr B s (hz.out s (List.mem_of_getElem? hs)) (by rw [cell_of_row _ B 0 _ 99 _ ((HW.out.block B (Array.getElem?_eq_some_iff.1 HB.out).1).trans HB.out)]; rfl))
      have hst : S.take (k + 1) = S.take k ++ [s] := by rw [List.take_add_one, hs]; rfl
      have HST := Lib.hid hst
      have HSS := Lib.hid hs
      clear hs hst
      cases hp : tagL s.data.toList with
      | true =>
        rw [hp] at HCL
        have HP := Lib.hid hp
        clear hp
        go_wp2_with (go_at_call 205; refine HCL.out.mono ?_; rintro e w5 ⟨rfl, hb5⟩)
        go_roundw
        case rel => exact ⟨k + 1, by omega, by go_num, Lib.hid (by rw [HST.out, List.all_append, HA.out]; simp [HP.out]), Lib.hid (HW.out.trans (hb5.mono HW.out.size))⟩
        case measure => simp [intOf]; omega
      | false =>
        rw [hp] at HCL
        have HP := Lib.hid hp
        clear hp
        go_wp2_with (go_at_call 205; refine HCL.out.mono ?_; rintro e w5 ⟨rfl, hb5⟩)
        go_ret
        exact ⟨k, rfl, Or.inr ⟨by omega, List.all_eq_false.2 ⟨s, List.mem_of_getElem? HSS.out, by simp [HP.out]⟩⟩, HW.out.trans (hb5.mono HW.out.size)⟩
    · have hlt2 : ¬ (k : Int) < n := by omega
      obtain rfl : k = n := by omega
      go_wp2
      go_ret
      exact ⟨-1, rfl, Or.inl ⟨rfl, by have := HA.out; rwa [List.take_of_length_le (by rw [HS.out]; omega)] at this⟩, HW.out⟩
theorem idxz_105 (w : World) (a : Option Addr) (c : Nat) (g : Value) : Calls Tryz.prog 246 #[.slice a 0 c, g] w (IdxPost w true) := by
  go_enter Tryz.func246, Tryz.ntmps246
  go_wp2
  go_loop [8] (fun s8 => s8 = .int .i64 0) (fun _ => 0)
  case atStart => exact rfl
  case round =>
    obtain rfl := hrel
    go_wp2
    go_ret
    exact ⟨-1, rfl, Or.inl ⟨rfl, rfl⟩, Below.refl _ _⟩
theorem cont_105 (w : World) (a : Option Addr) (n c B : Nat) (S : List ByteArray) (hN : NamesAt w a n S) (hn : n ≤ 100000) (hz : ∀ s ∈ S, s.size ≤ 100000) (hB : w.heap[B]? = some (.cells #[.func (.func 158) #[] #[]] 99 (0, 0))) :
    Calls Tryz.prog 204 #[.slice a n c, .func (.func 205) #[] #[.pointer (some ⟨B, 0, none⟩)]] w fun e w' => e = .returned (.bool (!(S.all fun s => tagL s.data.toList))) ∧ Below w.heap.size w w' := by
  have HI : Hid (Calls Tryz.prog 246 #[.slice a n c, .func (.func 205) #[] #[.pointer (some ⟨B, 0, none⟩)]] w (IdxPost w (S.all fun s => tagL s.data.toList))) := by
    obtain ⟨hn', hN⟩ := hN
    rcases hN with rfl | ⟨gn, on, rfl, hg, hc⟩
    · rw [List.eq_nil_of_length_eq_zero hn'.symm]
      exact idxz_105 w a c _
    · exact idxf_105 w gn on n c B S hn'.symm hn (Lib.hid hc) hg (Lib.hid hz) hB
  generalize (S.all fun s => tagL s.data.toList) = b at *
  clear hN hz hB
  go_enter Tryz.func204, Tryz.ntmps204
  go_wp2_with (go_at_call 246; refine HI.out.mono ?_; rintro e w5 ⟨r, rfl, hr, hb5⟩)
  rcases hr with ⟨rfl, rfl⟩ | ⟨hr, rfl⟩
  · go_ret
    exact ⟨by simp, hb5⟩
  · go_ret
    exact ⟨by simp [hr], hb5⟩
theorem all_105 (w : World) (a : Option Addr) (n c : Nat) (S : List ByteArray) (hN : NamesAt w a n S) (hn : n ≤ 100000) (hz : ∀ s ∈ S, s.size ≤ 100000) :
    Calls Tryz.prog 157 #[.slice a n c, .func (.func 158) #[] #[]] w fun e w' => e = .returned (.bool (S.all fun s => tagL s.data.toList)) ∧ Below w.heap.size w w' := by
  have hal := heap_alloc_new w (.cells #[.func (.func 158) #[] #[]] 99)
  have HBA : Hid (Below w.heap.size w (w.alloc (.cells #[.func (.func 158) #[] #[]] 99))) := Lib.hid ((Below.refl _ _).alloc (Nat.le_refl _) _)
  have HI := Lib.hid (cont_105 (w.alloc (.cells #[.func (.func 158) #[] #[]] 99)) a n c w.heap.size S (hN.on HBA.out) hn hz hal)
  generalize (S.all fun s => tagL s.data.toList) = b at *
  clear hN hz hal
  cases b
  all_goals
    go_enter Tryz.func157, Tryz.ntmps157
    go_wp2_with (go_at_call 204; refine HI.out.mono ?_; rintro e w5 ⟨rfl, hb5⟩)
    go_ret
    exact ⟨by simp, HBA.out.trans (hb5.mono HBA.out.size)⟩
end Go.Proofs.YtifilhkkgkihpaaGreatDoor
set_option linter.unusedSimpArgs false
set_option linter.unusedVariables false
namespace Go.Proofs.YtifilhkkgkihpaaGreatDoor
open Go.RowKit
def bl (a b : ByteArray) : Bool := Op.bytesLess a.toList b.toList
theorem less_lex : ∀ (x y : List UInt8), Op.bytesLess x y = decide (x < y)
  | [], [] => by simp [Op.bytesLess]
  | _ :: _, [] => by simp [Op.bytesLess]
  | [], _ :: _ => by simp [Op.bytesLess]
  | a :: x, b :: y => by
    rw [Op.bytesLess, less_lex x y]
    simp only [List.cons_lt_cons_iff]
    by_cases h1 : a < b <;> by_cases h2 : a = b <;> by_cases h3 : x < y <;> simp [h1, h2, h3]
theorem bl_irrefl (a : ByteArray) : bl a a = false := by
  unfold bl; rw [less_lex]; exact decide_eq_false (List.lt_irrefl _)
theorem bl_trans {a b c : ByteArray} (h : bl a b = true) (h2 : bl b c = true) : bl a c = true := by
  unfold bl at *; rw [less_lex] at *
  exact decide_eq_true (List.lt_trans (of_decide_eq_true h) (of_decide_eq_true h2))
/-- do names rise? -/
def risesB : List ByteArray → Bool
  | [] => true
  | [_] => true
  | a :: b :: l => bl a b && risesB (b :: l)
theorem rises_pair : ∀ (S : List ByteArray), risesB S = true → S.Pairwise (fun a b => bl a b = true)
  | [], _ => .nil
  | [a], _ => by simp
  | a :: b :: l, h => by
    simp only [risesB, Bool.and_eq_true] at h
    have ih := rises_pair (b :: l) h.2
    refine .cons (fun x hx => ?_) ih
    rcases List.mem_cons.1 hx with rfl | hx
    · exact h.1
    · exact bl_trans h.1 ((List.pairwise_cons.1 ih).1 x hx)
theorem rises_at (S : List ByteArray) (h : risesB S = true) (i j : Nat) (a b : ByteArray) (hij : i < j) (ha : S[i]? = some a) (hb : S[j]? = some b) : bl a b = true := by
  have hp := List.pairwise_iff_getElem.1 (rises_pair S h)
  obtain ⟨hi, rfl⟩ := List.getElem?_eq_some_iff.1 ha
  obtain ⟨hj, rfl⟩ := List.getElem?_eq_some_iff.1 hb
  exact hp i j hi hj hij
theorem rises_ne (S : List ByteArray) (h : risesB S = true) (i j : Nat) (a b : ByteArray) (hij : i ≠ j) (ha : S[i]? = some a) (hb : S[j]? = some b) : a ≠ b := by
  intro e
  subst e
  rcases Nat.lt_or_gt_of_ne hij with h' | h'
  · have := rises_at S h i j a a h' ha hb; rw [bl_irrefl] at this; cases this
  · have := rises_at S h j i a a h' hb ha; rw [bl_irrefl] at this; cases this
theorem rises_step (S : List ByteArray) (h : ∀ i a b, S[i]? = some a → S[i + 1]? = some b → bl a b = true) : risesB S = true := by
  induction S with
  | nil => rfl
  | cons a l ih =>
    cases l with
    | nil => rfl
    | cons b l =>
      rw [risesB, h 0 a b rfl rfl, ih (fun i x y hx hy => h (i + 1) x y (by simpa using hx) (by simpa using hy))]
      rfl
theorem rises_not (S : List ByteArray) (i : Nat) (a b : ByteArray) (ha : S[i]? = some a) (hb : S[i + 1]? = some b) (h : bl a b = false) : risesB S = false := by
  cases hr : risesB S with
  | false => rfl
  | true => have := rises_at S hr i (i + 1) a b (by omega) ha hb; rw [h] at this; cases this
abbrev keyS (x : ByteArray) : Lit := .string x.data.toList
theorem keyS_inj {x y : ByteArray} (h : keyS x = keyS y) : x = y := ByteArray.ext (Array.toList_inj.1 (Lit.string.inj h))
theorem keyS_is (x : ByteArray) : WideAt.IsKeyLit (keyS x) := by simp [WideAt.IsKeyLit]
theorem keyOf9 (x : ByteArray) (h : x.size ≤ 100000) : keyOf Tryz.prog 9 (.string x) = some (keyS x) := WideMaps.keyOf_string_mk Tryz.underlying9 (by unfold maxLen; omega)
theorem plainElem_bool_inv {H : Type} {P : Program} {e : TypeId} (he : P.underlying e = some .bool) {v : Value} {z : DataW H × List MemPlace} (h : plainElem P e v = some z) : ∃ x, v = .bool x ∧ z = (.lit (.bool x), []) := by
  unfold plainElem at h
  rw [he] at h
  cases v <;> simp at h
  exact ⟨_, rfl, h.symm⟩
theorem wpList_lookup_own_bool {H : Type} {P : Program} (w : World) {ops : Array Oper} {rest : List Oper} {o : Oper} {a : Act} {Q : Exit → Act → World → Prop}
    (hg : o.guard = none) (m x : Operand) (t : TypeId) (hop : o.op = Op.lookup t m x false)
    (k e : TypeId) (K : Maps.Keyed P k) (ht : P.underlying t = some (.map k e)) (he : P.underlying e = some .bool) (hz : (zeroValue e).run P w = .ok (.bool false) w) (b n : Nat) (D : DataW H)
    (hm : a.eval m = .map (some b)) (hown : w.ownsMap P k (plainElem P e) b n D) (key : Value) (kl : Lit) (hx : a.eval x = key) (hkey : keyOf P k key = some kl)
    (hK : ∀ c : Bool, D.atKey kl (.lit (.bool false)) = .lit (.bool c) → wpList P ops Q rest (a.put o.dst (.bool c)) w) :
    wpList P ops Q (o :: rest) a w := by
  refine wpList_plain hg fun K' hK' => ?_
  obtain ⟨v, ps, hrun, hv⟩ := hown.lookup K ht hz (plainElem_bool he false) hkey
  obtain ⟨c, rfl, hc⟩ := plainElem_bool_inv he hv
  unfold Oper.wp
  simp [execOp, hop, hm, hx, hrun, Result.andThen]
  exact hK' _ _ (hK c (congrArg Prod.fst hc))
theorem zero4 (w : World) : (zeroValue 4).run Tryz.prog w = .ok (.bool false) w := by kernel_rfl
set_option maxRecDepth 20000 in
theorem once_some (w : World) (b off n c : Nat) (S : List ByteArray) (hS : S.length = n) (hn : n ≤ 100000) (hc : Hid (∀ (k : Nat) (s : ByteArray), S[k]? = some s → w.cell? ⟨b, off + k, none⟩ = some (.string s))) (hb : b < w.heap.size) (hz : Hid (∀ s ∈ S, s.size ≤ 100000)) (hr : Hid (risesB S = true)) :
    Calls Tryz.prog 156 #[.slice (some ⟨b, off, none⟩) n c] w fun e w' => e = .returned (.bool true) ∧ Below w.heap.size w w' := by
  have HS := Lib.hid hS
  have HBB := Lib.hid hb
  have hmm := @run_makeMap Tryz.prog
  have HM0 := Lib.hid (World.ownsMap_made (H := Unit) w Tryz.prog 9 (plainElem Tryz.prog 4))
  have HB0 : Hid (Below w.heap.size w (w.alloc (.map #[] 0))) := Lib.hid ((Below.refl _ _).alloc (Nat.le_refl _) _)
  clear hS hb
  go_enter Tryz.func156, Tryz.ntmps156
  go_wp2
  generalize (w.alloc (.map #[] 0)) = w1 at *
  go_loopw [9] (fun s9 wr => ∃ k : Nat, k ≤ n ∧ s9 = .int .i64 (k : Int) ∧ Hid (∃ D : DataW Unit, wr.ownsMap Tryz.prog 9 (plainElem Tryz.prog 4) w.heap.size k D ∧ ∀ j s, S[j]? = some s → k ≤ j → Maps.has D (keyS s) = false) ∧ Hid (Below w.heap.size w wr)) (fun s9 _ => n - (intOf s9).toNat)
  case atStart => exact ⟨0, Nat.zero_le _, rfl, Lib.hid ⟨_, HM0.out, fun _ _ _ _ => rfl⟩, HB0⟩
  case round =>
    obtain ⟨k, hk, rfl, HMM, HW⟩ := hrel
    have hwk : IntKind.i64.wrap ((k : Int) + 1) = (k : Int) + 1 := by rw [IntKind.wrap_i64]; omega
    by_cases hlt : k < n
    · have hlt2 : (k : Int) < n := by omega
      obtain ⟨s, hs⟩ : ∃ s, S[k]? = some s := ⟨_, List.getElem?_eq_getElem (by rw [HS.out]; exact hlt)⟩
      have ac : wr.cell? ⟨b, off + k, none⟩ = some (.string s) := by rw [← hc.out k s hs]; exact HW.out.cell (p := ⟨b, off + k, none⟩) HBB.out
      have HSS := Lib.hid hs
      have HKX := Lib.hid (keyOf9 s (hz.out s (List.mem_of_getElem? hs)))
      obtain ⟨D, hM, hno⟩ := HMM.out
      have HM := Lib.hid hM
      have HNO := Lib.hid hno
      have HAT : Hid (D.atKey (keyS s) (.lit (.bool false)) = .lit (.bool false)) := Lib.hid (Maps.atKey_of_not_has (hno k s hs (Nat.le_refl _)) _)
      clear hs hM hno
      go_wp2_with (first | (at_lookup; refine wpList_lookup_own_bool _ rfl _ _ 268 rfl 9 4 (Maps.string_keyed Tryz.underlying9) Tryz.underlying268 Tryz.underlying4 (zero4 _) w.heap.size k D rfl HM.out _ (keyS s) rfl HKX.out ?_; intro c0 hat; obtain rfl : c0 = false := (by rw [HAT.out] at hat; injection hat with hat; injection hat with hat; exact hat.symm); clear hat) | (at_mapUpdate; refine wpList_mapUpdate_own _ rfl _ _ _ 268 rfl 9 4 (Maps.string_keyed Tryz.underlying9) Tryz.underlying268 _ w.heap.size k D rfl HM.out (by unfold maxLen; omega) _ _ _ rfl rfl HKX.out _ [] (plainElem_bool Tryz.underlying4 true) ?_; intro w5 hown5 hgrow5))
      have HO5 := Lib.hid hown5
      have HG5 : Hid (Below w.heap.size w w5) := Lib.hid (HW.out.grown hgrow5 HW.out.size (fun q hq => by cases hq; exact Nat.le_refl _))
      clear hown5 hgrow5
      go_wp2
      go_roundw
      case rel => exact ⟨k + 1, by omega, by go_num, Lib.hid ⟨_, HO5.out, fun j s' hj hkj => by
        rw [Maps.has_put_other (fun e => rises_ne S hr.out j k s' s (by omega) hj HSS.out (keyS_inj e))]
        exact HNO.out j s' hj (by omega)⟩, HG5⟩
      case measure => simp [intOf]; omega
    · have hlt2 : ¬ (k : Int) < n := by omega
      go_wp2
      go_ret
      exact ⟨rfl, HW.out⟩
theorem once_zero (w : World) (a : Option Addr) (c : Nat) : Calls Tryz.prog 156 #[.slice a 0 c] w fun e w' => e = .returned (.bool true) ∧ Below w.heap.size w w' := by
  have hmm := @run_makeMap Tryz.prog
  have HB0 : Hid (Below w.heap.size w (w.alloc (.map #[] 0))) := Lib.hid ((Below.refl _ _).alloc (Nat.le_refl _) _)
  go_enter Tryz.func156, Tryz.ntmps156
  go_wp2
  go_loop [9] (fun s9 => s9 = .int .i64 0) (fun _ => 0)
  case atStart => exact rfl
  case round =>
    obtain rfl := hrel
    go_wp2
    go_ret
    exact ⟨rfl, HB0.out⟩
theorem once_any (w : World) (a : Option Addr) (n c : Nat) (S : List ByteArray) (hN : NamesAt w a n S) (hn : n ≤ 100000) (hz : ∀ s ∈ S, s.size ≤ 100000) (hr : risesB S = true) : Calls Tryz.prog 156 #[.slice a n c] w fun e w' => e = .returned (.bool true) ∧ Below w.heap.size w w' := by
  obtain ⟨hn', hN⟩ := hN
  rcases hN with rfl | ⟨gn, on, rfl, hg, hc⟩
  · exact once_zero w a c
  · exact once_some w gn on n c S hn'.symm hn (Lib.hid hc) hg (Lib.hid hz) (Lib.hid hr)
theorem below_drewN {B q : Nat} {a w : World} (h : Below B a w) : Below B a (w.drewN q) := ⟨h.os, h.tape, h.output, h.size, h.block⟩
set_option maxRecDepth 20000 in
theorem rising_some (w : World) (b off n c : Nat) (S : List ByteArray) (hS : S.length = n) (hn : n ≤ 100000) (hc : Hid (∀ (k : Nat) (s : ByteArray), S[k]? = some s → w.cell? ⟨b, off + k, none⟩ = some (.string s))) (hb : b < w.heap.size) :
    Calls Tryz.prog 94 #[.slice (some ⟨b, off, none⟩) n c] w fun e w' => e = .returned (.bool (risesB S)) ∧ Below w.heap.size w w' := by
  have HS := Lib.hid hS
  have HBB := Lib.hid hb
  have HR := Lib.hid (Eq.refl (risesB S))
  clear hS hb
  generalize hR : risesB S = R at HR
  have HRR := Lib.hid hR
  clear hR HR
  go_enter Tryz.func94, Tryz.ntmps94
  go_wp2
  go_loopw [3] (fun s3 wr => ∃ k : Nat, (k = 0 ∨ k + 1 ≤ n) ∧ s3 = .int .i64 ((k : Int) + 1) ∧ Hid (∀ i x y, i < k → S[i]? = some x → S[i + 1]? = some y → bl x y = true) ∧ Hid (Below w.heap.size w wr)) (fun s3 _ => n - (intOf s3).toNat)
  case atStart => exact ⟨0, Or.inl rfl, rfl, Lib.hid (fun i _ _ h => by omega), Lib.hid (Below.refl _ _)⟩
  case round =>
    obtain ⟨k, hk, rfl, HA, HW⟩ := hrel
    have hwk : IntKind.i64.wrap ((k : Int) + 1 + 1) = (k : Int) + 1 + 1 := by rw [IntKind.wrap_i64]; omega
    have hwk2 : IntKind.i64.wrap ((k : Int) + 1 - 1) = (k : Int) := by rw [IntKind.wrap_i64]; omega
    have hwk3 : (k : Int) + 1 - 1 = (k : Int) := by omega
    have hk1 : ((k : Int) + 1).toNat = k + 1 := by omega
    by_cases hlt : k + 1 < n
    · have hlt2 : (k : Int) + 1 < n := by omega
      have hlt3 : (k : Int) < n := by omega
      obtain ⟨s, hs⟩ : ∃ s, S[k]? = some s := ⟨_, List.getElem?_eq_getElem (by rw [HS.out]; omega)⟩
      obtain ⟨t, ht⟩ : ∃ t, S[k + 1]? = some t := ⟨_, List.getElem?_eq_getElem (by rw [HS.out]; omega)⟩
      have ac : wr.cell? ⟨b, off + k, none⟩ = some (.string s) := by rw [← hc.out k s hs]; exact HW.out.cell (p := ⟨b, off + k, none⟩) HBB.out
      have ad : wr.cell? ⟨b, off + (k + 1), none⟩ = some (.string t) := by rw [← hc.out (k + 1) t ht]; exact HW.out.cell (p := ⟨b, off + (k + 1), none⟩) HBB.out
      have HSS := Lib.hid hs
      have HTT := Lib.hid ht
      clear hs ht
      cases hbl : bl s t with
      | true =>
        have HBL := Lib.hid hbl
        have hb2 : Op.bytesLess s.toList t.toList = true := hbl
        clear hbl
        go_wp2
        go_quiet (fail)
        go_wp2
        go_roundw
        case rel => exact ⟨k + 1, Or.inr (by omega), by go_num, Lib.hid (fun i x y hi hx hy => by
          by_cases he : i = k
          · subst he
            have e1 := hx.symm.trans HSS.out
            have e2 := hy.symm.trans HTT.out
            cases e1; cases e2
            exact HBL.out
          · exact HA.out i x y (by omega) hx hy), Lib.hid (below_drewN HW.out)⟩
        case measure => simp [intOf]; omega
      | false =>
        have HBL := Lib.hid hbl
        have hb2 : Op.bytesLess s.toList t.toList = false := hbl
        clear hbl
        go_wp2
        go_quiet (fail)
        go_wp2
        go_ret
        exact ⟨by rw [← HRR.out, rises_not S k s t HSS.out HTT.out HBL.out]; rfl, below_drewN HW.out⟩
    · have hlt2 : ¬ (k : Int) + 1 < n := by omega
      go_wp2
      go_ret
      exact ⟨by rw [← HRR.out, rises_step S (fun i x y hx hy => HA.out i x y (by
        have := (List.getElem?_eq_some_iff.1 hy).1
        rw [HS.out] at this
        omega) hx hy)]; rfl, HW.out⟩
theorem rising_zero (w : World) (a : Option Addr) (c : Nat) : Calls Tryz.prog 94 #[.slice a 0 c] w fun e w' => e = .returned (.bool true) ∧ Below w.heap.size w w' := by
  go_enter Tryz.func94, Tryz.ntmps94
  go_wp2
  go_loop [3] (fun s3 => s3 = .int .i64 1) (fun _ => 0)
  case atStart => exact rfl
  case round =>
    obtain rfl := hrel
    go_wp2
    go_ret
    exact ⟨rfl, Below.refl _ _⟩
theorem rising_any (w : World) (a : Option Addr) (n c : Nat) (S : List ByteArray) (hN : NamesAt w a n S) (hn : n ≤ 100000) : Calls Tryz.prog 94 #[.slice a n c] w fun e w' => e = .returned (.bool (risesB S)) ∧ Below w.heap.size w w' := by
  obtain ⟨hn', hN⟩ := hN
  rcases hN with rfl | ⟨gn, on, rfl, hg, hc⟩
  · rw [List.eq_nil_of_length_eq_zero hn'.symm]
    exact rising_zero w a c
  · exact rising_some w gn on n c S hn'.symm hn (Lib.hid hc) hg
end Go.Proofs.YtifilhkkgkihpaaGreatDoor
set_option linter.unusedSimpArgs false
set_option linter.unusedVariables false
namespace Go.Proofs.YtifilhkkgkihpaaGreatDoor
open Go.RowKit
/-- has a type what its kind asks (whose names rise; that is no alias)? -/
def typB (kd : Int) (op : Bool) (nn kn : Nat) (NS : List ByteArray) : Bool :=
  if op = true ∧ kd ≠ 9 then false
  else if kd = 7 then decide (nn = 0) && decide (kn = 2)
  else if kd = 8 then decide (nn = kn) && NS.all fun s => nameL s.data.toList
  else if kd = 9 then decide (nn = kn) && NS.all fun s => tagL s.data.toList
  else decide (0 ≤ kd) && decide (kd ≤ 6) && decide (nn = 0) && decide (kn = 0)
set_option maxRecDepth 20000 in
set_option maxHeartbeats 1000000 in
theorem typ_any (w : World) (kd pos : Int) (na : Option Addr) (nn nc : Nat) (NS : List ByteArray) (ka : Option Addr) (kn kc : Nat) (op : Bool) (hN : NamesAt w na nn NS) (hn : nn ≤ 100000) (hk : kn ≤ 100000) (hz : ∀ s ∈ NS, s.size ≤ 100000) (hr : risesB NS = true) (h10 : kd ≠ 10) :
    Calls Tryz.prog 119 #[.agg #[.int .i64 kd, .int .i64 pos, .string ⟨#[]⟩, .slice na nn nc, .slice ka kn kc, .bool op]] w fun e w' => e = .returned (.bool (typB kd op nn kn NS)) ∧ Below w.heap.size w w' := by
  have HB : Hid (Below w.heap.size w (w.alloc (.cells #[.int .i64 kd, .int .i64 pos, .string ⟨#[]⟩, .slice na nn nc, .slice ka kn kc, .bool op] 152))) := Lib.hid ((Below.refl _ _).alloc (Nat.le_refl _) _)
  have HO := Lib.hid (once_any (w.alloc (.cells #[.int .i64 kd, .int .i64 pos, .string ⟨#[]⟩, .slice na nn nc, .slice ka kn kc, .bool op] 152)) na nn nc NS (hN.on HB.out) hn hz hr)
  have HN := Lib.hid (hN.on HB.out)
  have HX3 : Hid ((w.alloc (.cells #[.int .i64 kd, .int .i64 pos, .string ⟨#[]⟩, .slice na nn nc, .slice ka kn kc, .bool op] 152)).cell? ⟨w.heap.size, 3, none⟩ = some (.slice na nn nc)) := Lib.hid (by rw [cell_of_row _ _ 3 _ 152 _ (heap_alloc_new w _)]; rfl)
  have HZ := Lib.hid hz
  have hnI : (nn : Int) ≤ 100000 := by omega
  have hkI : (kn : Int) ≤ 100000 := by omega
  have q10 : (kd == 10) = false := by simp [h10]
  clear hN hz hr h10
  by_cases h9 : kd = 9
  · subst h9
    have ht : typB 9 op nn kn NS = (decide (nn = kn) && NS.all fun s => tagL s.data.toList) := by simp [typB]
    by_cases he : nn = kn
    · subst he
      rw [decide_eq_true rfl, Bool.true_and] at ht
      have HT := Lib.hid ht
      clear ht
      generalize hb : (NS.all fun s => tagL s.data.toList) = b at HT
      have HBB := Lib.hid hb
      clear hb
      cases op
      all_goals
        cases b
        all_goals
          go_enter Tryz.func119, Tryz.ntmps119
          go_wp2_with (first | (go_at_call 156; refine HO.out.mono ?_; rintro e w5 ⟨rfl, hb5⟩; have HB5 := Lib.hid (HB.out.trans (hb5.mono HB.out.size)); have HAL := Lib.hid (all_105 w5 na nn nc NS (HN.out.on hb5) hn HZ.out); rw [HBB.out] at HAL; have x3 := (hb5.cell (p := ⟨w.heap.size, 3, none⟩) (by simp)).trans HX3.out; clear hb5) | (go_at_call 157; refine HAL.out.mono ?_; rintro e w6 ⟨rfl, hb6⟩))
          go_ret
          exact ⟨by rw [HT.out]; simp, HB5.out.trans (hb6.mono HB5.out.size)⟩
    · rw [decide_eq_false he, Bool.false_and] at ht
      have hne : ((nn : Int) == (kn : Int)) = false := beq_eq_false_iff_ne.2 (fun e => he (by exact_mod_cast e))
      have HT := Lib.hid ht
      clear ht he
      cases op
      all_goals
        go_enter Tryz.func119, Tryz.ntmps119
        go_wp2
        go_ret
        exact ⟨by rw [HT.out]; rfl, HB.out⟩
  · have q9 : (kd == 9) = false := by simp [h9]
    have q9' : (kd != 9) = true := by simp [h9]
    cases op with
    | true =>
      have ht : typB kd true nn kn NS = false := by simp [typB, h9]
      have HT := Lib.hid ht
      clear ht h9
      go_enter Tryz.func119, Tryz.ntmps119
      go_wp2
      go_ret
      exact ⟨by rw [HT.out]; rfl, HB.out⟩
    | false =>
      by_cases h7 : kd = 7
      · subst h7
        have ht : typB 7 false nn kn NS = (decide (nn = 0) && decide (kn = 2)) := by simp [typB]
        clear h9 q9 q9' q10
        by_cases a : nn = 0
        · have a2 : ((nn : Int) == 0) = true := by simp [a]
          rw [decide_eq_true a, Bool.true_and] at ht
          by_cases c : kn = 2
          · have c2 : ((kn : Int) == 2) = true := by simp [c]
            rw [decide_eq_true c] at ht
            have HT := Lib.hid ht
            clear ht a c
            go_enter Tryz.func119, Tryz.ntmps119
            go_wp2
            go_ret
            exact ⟨by rw [HT.out]; rfl, HB.out⟩
          · have c2 : ((kn : Int) == 2) = false := beq_eq_false_iff_ne.2 (fun e => c (by exact_mod_cast e))
            rw [decide_eq_false c] at ht
            have HT := Lib.hid ht
            clear ht a c
            go_enter Tryz.func119, Tryz.ntmps119
            go_wp2
            go_ret
            exact ⟨by rw [HT.out]; rfl, HB.out⟩
        · have a2 : ((nn : Int) == 0) = false := beq_eq_false_iff_ne.2 (fun e => a (by exact_mod_cast e))
          rw [decide_eq_false a, Bool.false_and] at ht
          have HT := Lib.hid ht
          clear ht a
          go_enter Tryz.func119, Tryz.ntmps119
          go_wp2
          go_ret
          exact ⟨by rw [HT.out]; rfl, HB.out⟩
      · have q7 : (kd == 7) = false := by simp [h7]
        by_cases h8 : kd = 8
        · subst h8
          have ht : typB 8 false nn kn NS = (decide (nn = kn) && NS.all fun s => nameL s.data.toList) := by simp [typB]
          clear h9 h7 q9 q9' q7 q10
          by_cases he : nn = kn
          · subst he
            rw [decide_eq_true rfl, Bool.true_and] at ht
            have HT := Lib.hid ht
            clear ht
            generalize hb : (NS.all fun s => nameL s.data.toList) = b at HT
            have HBB := Lib.hid hb
            clear hb
            cases b
            all_goals
              go_enter Tryz.func119, Tryz.ntmps119
              go_wp2_with (first | (go_at_call 156; refine HO.out.mono ?_; rintro e w5 ⟨rfl, hb5⟩; have HB5 := Lib.hid (HB.out.trans (hb5.mono HB.out.size)); have HAL := Lib.hid (all_102 w5 na nn nc NS (HN.out.on hb5) hn HZ.out); rw [HBB.out] at HAL; have x3 := (hb5.cell (p := ⟨w.heap.size, 3, none⟩) (by simp)).trans HX3.out; clear hb5) | (go_at_call 157; refine HAL.out.mono ?_; rintro e w6 ⟨rfl, hb6⟩))
              go_ret
              exact ⟨by rw [HT.out]; simp, HB5.out.trans (hb6.mono HB5.out.size)⟩
          · rw [decide_eq_false he, Bool.false_and] at ht
            have hne : ((nn : Int) == (kn : Int)) = false := beq_eq_false_iff_ne.2 (fun e => he (by exact_mod_cast e))
            have HT := Lib.hid ht
            clear ht he
            go_enter Tryz.func119, Tryz.ntmps119
            go_wp2
            go_ret
            exact ⟨by rw [HT.out]; rfl, HB.out⟩
        · have q8 : (kd == 8) = false := by simp [h8]
          have ht : typB kd false nn kn NS = (decide (0 ≤ kd) && decide (kd ≤ 6) && decide (nn = 0) && decide (kn = 0)) := by simp [typB, h7, h8, h9]
          clear h7 h8 h9
          by_cases a : 0 ≤ kd
          · by_cases b : kd ≤ 6
            · have hs : IntKind.i64.wrap ((nn : Int) + (kn : Int)) = (nn : Int) + (kn : Int) := by rw [IntKind.wrap_i64]; omega
              by_cases c : nn = 0 ∧ kn = 0
              · obtain ⟨c1, c2⟩ := c
                have c3 : ((nn : Int) + (kn : Int) == 0) = true := by simp [c1, c2]
                rw [decide_eq_true a, decide_eq_true b, decide_eq_true c1, decide_eq_true c2] at ht
                have HT := Lib.hid ht
                clear ht c1 c2
                go_enter Tryz.func119, Tryz.ntmps119
                go_wp2
                go_ret
                exact ⟨by rw [HT.out]; rfl, HB.out⟩
              · have c3 : ((nn : Int) + (kn : Int) == 0) = false := beq_eq_false_iff_ne.2 (fun e => c (by omega))
                have c4 : (decide (nn = 0) && decide (kn = 0)) = false := by
                  rw [Bool.eq_false_iff]
                  intro h
                  simp at h
                  exact c h
                rw [Bool.and_assoc, c4, Bool.and_false] at ht
                have HT := Lib.hid ht
                clear ht c c4
                go_enter Tryz.func119, Tryz.ntmps119
                go_wp2
                go_ret
                exact ⟨by rw [HT.out]; rfl, HB.out⟩
            · have b2 : (6 : Int) < kd := by omega
              rw [decide_eq_false b] at ht
              simp only [Bool.and_false, Bool.false_and] at ht
              have HT := Lib.hid ht
              clear ht b
              go_enter Tryz.func119, Tryz.ntmps119
              go_wp2
              go_ret
              exact ⟨by rw [HT.out]; rfl, HB.out⟩
          · have a2 : kd < (0 : Int) := by omega
            rw [decide_eq_false a] at ht
            simp only [Bool.false_and] at ht
            have HT := Lib.hid ht
            clear ht a
            go_enter Tryz.func119, Tryz.ntmps119
            go_wp2
            go_ret
            exact ⟨by rw [HT.out]; rfl, HB.out⟩
end Go.Proofs.YtifilhkkgkihpaaGreatDoor
