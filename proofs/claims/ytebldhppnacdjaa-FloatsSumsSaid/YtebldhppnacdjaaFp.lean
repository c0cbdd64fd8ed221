/- Walks: the float of a text; the chapter's example. -/
import Derived.Test.YtebldhppnacdjaaFt
namespace Go.Proofs.Ytebldhppnacdjaa
open Go.RowKit
set_option maxHeartbeats 400000 in
theorem cut_yes (s : ByteArray) (w : World) (h1 : 2 ≤ s.size) (h2 : ((s.extract 0 2).toList == [102, 39]) = true) :
    Calls Try.prog 31 #[.string s, .string ⟨#[102, 39]⟩] w fun e w' => e = .returned (.tuple #[.string (s.extract 2 s.size), .bool true]) ∧ w = w' := by
  go_enter Try.func31, Try.ntmps31
  go_wp2
  go_ret2
  exact ⟨rfl, rfl⟩
set_option maxHeartbeats 400000 in
theorem cut_short (s : ByteArray) (w : World) (h : s.size < 2) :
    Calls Try.prog 31 #[.string s, .string ⟨#[102, 39]⟩] w fun e w' => e = .returned (.tuple #[.string s, .bool false]) ∧ w = w' := by
  go_enter Try.func31, Try.ntmps31
  go_wp2
  go_ret2
  exact ⟨rfl, rfl⟩
set_option maxHeartbeats 400000 in
theorem cut_other (s : ByteArray) (w : World) (h1 : 2 ≤ s.size) (h2 : ((s.extract 0 2).toList == [102, 39]) = false) :
    Calls Try.prog 31 #[.string s, .string ⟨#[102, 39]⟩] w fun e w' => e = .returned (.tuple #[.string s, .bool false]) ∧ w = w' := by
  go_enter Try.func31, Try.ntmps31
  go_wp2
  go_ret2
  exact ⟨rfl, rfl⟩
def marked (s : ByteArray) : Bool := decide (2 ≤ s.size) && ((s.extract 0 2).toList == [102, 39])
theorem cut_any (s : ByteArray) (w : World) : Calls Try.prog 31 #[.string s, .string ⟨#[102, 39]⟩] w fun e w' => e = .returned (.tuple #[.string (if marked s then s.extract 2 s.size else s), .bool (marked s)]) ∧ w = w' := by
  unfold marked
  by_cases h1 : 2 ≤ s.size
  · cases h2 : ((s.extract 0 2).toList == [102, 39]) with
    | true => simpa [h1, h2] using cut_yes s w h1 h2
    | false => simpa [h1, h2] using cut_other s w h1 h2
  · simpa [h1] using cut_short s w (by omega)
def hv (c : UInt8) : Int := firstIdx ⟨#[48, 49, 50, 51, 52, 53, 54, 55, 56, 57, 97, 98, 99, 100, 101, 102]⟩ c
@[go_sem] theorem run_idx (s : ByteArray) (c : Int) (w : World) : (callFunc 50 #[.string s, .int .u8 c]).run Try.prog w = .ok (.value (.int .i64 (firstIdx s c.toNat.toUInt8))) w := by
  rw [run_callFunc_extern Try.func50 (by kernel_rfl) (by kernel_rfl) (by kernel_rfl) (e := Extern.BytealgIndexByte.indexByte) (by kernel_rfl), run_indexByte_string]
  rfl
set_option maxHeartbeats 400000 in
theorem idx_any (s : ByteArray) (c : UInt8) (w : World) :
    Calls Try.prog 32 #[.string s, .int .u8 (c.toNat : Int)] w fun e w' => e = .returned (.int .i64 (firstIdx s c)) ∧ w = w' := by
  have h : (c.toNat : Int).toNat.toUInt8 = c := by simp
  go_enter Try.func32, Try.ntmps32
  go_wp2
  go_ret
  exact ⟨by simp, rfl⟩
theorem idx_sign (c : UInt8) (w : World) :
    Calls Try.prog 32 #[.string ⟨#[48, 49, 50, 51, 52, 53, 54, 55, 56, 57, 97, 98, 99, 100, 101, 102]⟩, .int .u8 (c.toNat : Int)] w fun e w' => e = .returned (.int .i64 (hv c)) ∧ w = w' := idx_any _ c w
theorem idx_lay (t : ByteArray) (k : Nat) (hk : k < t.size) (W : World) : (Instr.index 9 (.string t) (.int .i64 (k : Int))).run Try.prog W = .ok (.int .u8 ((t.data.toList.getD k 0).toNat : Int)) W := by
  rw [run_index_string _ _ _ _ _ Try.underlying9, dif_pos ⟨by omega, by omega⟩]
  have h : k < t.data.toList.length := by simpa using hk
  have e : t[k] = t.data.toList.getD k 0 := by
    rw [List.getD_eq_getElem?_getD, List.getElem?_eq_getElem h]; rfl
  simp only [Int.toNat_natCast, e]
/-- the value of the first k signs; none: one is no digit. -/
def pv (l : List UInt8) : Nat → Option Nat
  | 0 => some 0
  | k + 1 => match pv l k with
    | some n => if hv (l.getD k 0) < 0 then none else some (n * 16 + (hv (l.getD k 0)).toNat)
    | none => none
def parseF (s : ByteArray) : Nat × Int :=
  if marked s = true ∧ s.size = 18 then match pv (s.extract 2 s.size).data.toList 16 with
    | some n => (Fl.canon n, 0)
    | none => (0, 14)
  else (0, 14)
theorem hv_all : ∀ n : Fin 256, hv (UInt8.ofFin n) = if 48 ≤ n.val ∧ n.val ≤ 57 then (n.val : Int) - 48 else if 97 ≤ n.val ∧ n.val ≤ 102 then (n.val : Int) - 87 else -1 := by decide +kernel
theorem hv_eq (c : UInt8) : hv c = if 48 ≤ c.toNat ∧ c.toNat ≤ 57 then (c.toNat : Int) - 48 else if 97 ≤ c.toNat ∧ c.toNat ≤ 102 then (c.toNat : Int) - 87 else -1 := hv_all c.toFin
theorem hv_lt (c : UInt8) : -1 ≤ hv c ∧ hv c < 16 := by
  rw [hv_eq]; split
  · omega
  · split <;> omega
theorem pv_succ (l : List UInt8) (k n : Nat) (h : pv l k = some n) : pv l (k + 1) = if hv (l.getD k 0) < 0 then none else some (n * 16 + (hv (l.getD k 0)).toNat) := by
  show (match pv l k with | some n => _ | none => _) = _
  rw [h]
theorem pv_lt (l : List UInt8) : ∀ k n, pv l k = some n → n < 16 ^ k := by
  intro k
  induction k with
  | zero => intro n h; simp [pv] at h; omega
  | succ k ih =>
    intro n h
    cases hm : pv l k with
    | none =>
      have : pv l (k + 1) = none := by
        show (match pv l k with | some n => _ | none => _) = _
        rw [hm]
      rw [this] at h; cases h
    | some m =>
      rw [pv_succ l k m hm] at h
      have h1 := ih m hm
      have h2 := (hv_lt (l.getD k 0)).2
      generalize hv (l.getD k 0) = x at *
      split at h
      · cases h
      · have h3 := Option.some.inj h
        rw [Nat.pow_succ]
        omega
theorem pv_none (l : List UInt8) (k j : Nat) (h : pv l k = none) : pv l (k + j) = none := by
  induction j with
  | zero => exact h
  | succ j ih =>
    show (match pv l (k + j) with | some n => _ | none => _) = _
    rw [ih]
theorem or_digit (n d : Nat) (hn : n * 16 + 16 ≤ 18446744073709551616) (hd : d < 16) : bits .or .u64 ((n : Int) * 16) (d : Int) = (n : Int) * 16 + (d : Int) := by
  rw [show (n : Int) * 16 = ((n * 16 : Nat) : Int) by omega, u64_or_nat _ _ (by omega) (by omega)]
  rw [nat_join 4 _ _ (by omega) (by omega)]
  omega
set_option maxHeartbeats 400000 in
theorem parse_any (s : ByteArray) (hs : s.size ≤ maxLen) (w : World) :
    Calls Try.prog 11 #[.string s] w fun e w' => e = .returned (.tuple #[.int .u64 (parseF s).1, .int .i64 (parseF s).2]) ∧ w = w' := by
  unfold maxLen at hs
  cases hm : marked s with
  | false =>
    have hp : parseF s = (0, 14) := by unfold parseF; rw [if_neg (by simp [hm])]
    rw [hp]
    clear hp
    go_enter Try.func11, Try.ntmps11
    go_wp2_with (go_at_call 31; refine (cut_any _ _).mono ?_; rintro e w' ⟨rfl, rfl⟩; rw [hm])
    go_ret2
    exact ⟨rfl, rfl⟩
  | true =>
    have hsz : 2 ≤ s.size := by unfold marked at hm; simp at hm; exact hm.1
    obtain ⟨t, ht⟩ : ∃ t, t = s.extract 2 s.size := ⟨_, rfl⟩
    have hts : t.size = s.size - 2 := by rw [ht]; simp
    by_cases h16 : t.size = 16
    · have hp : parseF s = match pv t.data.toList 16 with | some n => (Fl.canon n, 0) | none => (0, 14) := by unfold parseF; rw [if_pos ⟨hm, by omega⟩, ht]
      have HP := Lib.hid hp
      have HM := Lib.hid hm
      have HT := Lib.hid ht
      clear hp hm ht hts
      go_enter Try.func11, Try.ntmps11
      go_wp2_with (go_at_call 31; refine (cut_any _ _).mono ?_; rintro e w' ⟨rfl, rfl⟩; rw [HM.out]; rw [← HT.out])
      go_loop [5, 22] (fun b i => ∃ k n : Nat, k ≤ 16 ∧ i = .int .i64 k ∧ b = .int .u64 n ∧ Hid (pv t.data.toList k = some n)) (fun _ i => 16 - (intOf i).toNat)
      case atStart => exact ⟨0, 0, by omega, rfl, rfl, Lib.hid rfl⟩
      case round =>
        obtain ⟨k, n, hk, rfl, rfl, hpv⟩ := hrel
        by_cases hlt : k < 16
        · obtain ⟨c, hc⟩ : ∃ c, c = t.data.toList.getD k 0 := ⟨_, rfl⟩
          have hi := idx_lay t k (by omega)
          rw [← hc] at hi
          have hlt' := hv_lt c
          have hn : n < 16 ^ k := pv_lt _ _ _ hpv.out
          have hn2 : n < 16 ^ 15 := Nat.lt_of_lt_of_le hn (Nat.pow_le_pow_right (by decide) (by omega))
          have hp := pv_succ _ _ _ hpv.out
          rw [← hc] at hp
          clear hc hn hpv
          by_cases hneg : hv c < 0
          · rw [if_pos hneg] at hp
            have h16' := pv_none _ _ (16 - (k + 1)) hp
            rw [show k + 1 + (16 - (k + 1)) = 16 by omega] at h16'
            have HN := Lib.hid h16'
            clear hp h16'
            go_wp2_with (go_at_call 32; refine (idx_sign _ _).mono ?_; rintro e w' ⟨rfl, rfl⟩)
            go_ret2
            exact ⟨by rw [HP.out, HN.out]; rfl, rfl⟩
          · rw [if_neg hneg] at hp
            obtain ⟨d, hd⟩ : ∃ d : Nat, (d : Int) = hv c := ⟨(hv c).toNat, by omega⟩
            rw [← hd] at hp hlt'
            have hh : ∀ w, Calls Try.prog 32 #[.string ⟨#[48, 49, 50, 51, 52, 53, 54, 55, 56, 57, 97, 98, 99, 100, 101, 102]⟩, .int .u8 (c.toNat : Int)] w fun e w' => e = .returned (.int .i64 (d : Int)) ∧ w = w' := by
              intro w; rw [hd]; exact idx_sign c w
            have HH := Lib.hid hh
            have HP' := Lib.hid hp
            have hor := or_digit n d (by omega) (by omega)
            clear hp hd hneg hh
            go_wp2_with (go_at_call 32; refine (HH.out _).mono ?_; rintro e w' ⟨rfl, rfl⟩)
            go_round
            case rel => exact ⟨k + 1, n * 16 + d, by omega, by go_num, by go_num, Lib.hid (by rw [HP'.out]; simp)⟩
            case measure => simp [intOf]; omega
        · have hk16 : k = 16 := by omega
          have HPV : Hid (parseF s = (Fl.canon n, 0)) := Lib.hid (by rw [HP.out, ← hk16, hpv.out])
          clear hk16
          go_wp2_with (go_at_call 14; refine (of_any _ _).mono ?_; rintro e w' ⟨rfl, rfl⟩)
          go_ret2
          exact ⟨by rw [HPV.out]; rfl, rfl⟩
    · have hp : parseF s = (0, 14) := by unfold parseF; rw [if_neg (by omega)]
      rw [hp]
      have h17 : ((t.size : Int) != 16) = true := by simp; omega
      have HM := Lib.hid hm
      have HT := Lib.hid ht
      clear hp hm ht hts
      go_enter Try.func11, Try.ntmps11
      go_wp2_with (go_at_call 31; refine (cut_any _ _).mono ?_; rintro e w' ⟨rfl, rfl⟩; rw [HM.out]; rw [← HT.out])
      go_ret2
      exact ⟨rfl, rfl⟩
end Go.Proofs.Ytebldhppnacdjaa
