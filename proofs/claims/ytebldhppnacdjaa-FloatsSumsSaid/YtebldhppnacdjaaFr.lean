/- Walks: the reference's Parts and Text, and 'one'. -/
import Derived.Test.YtebldhppnacdjaaFl
set_option linter.unusedVariables false
namespace Go.Proofs.Ytebldhppnacdjaa
open Go.RowKit
/-- what 'Parts' tells of bits. -/
def partsF (n : Nat) : Bool × Int × Nat × Bool × Bool :=
  if Fl.nan n then (Fl.sgn n, 0, 0, false, true) else if Fl.rung n = Fl.infR then (Fl.sgn n, 0, 0, true, false) else (Fl.sgn n, -1074 + (Fl.plR (Fl.rung n) : Int), Fl.magR (Fl.rung n), false, false)
theorem sgn_eq {n : Nat} (h : n < 2 ^ 64) : (((n : Int) / 9223372036854775808) == 1) = Fl.sgn n := by
  unfold Fl.sgn
  rw [Bool.eq_iff_iff]
  simp only [beq_iff_eq]
  omega
theorem parts_cases {n : Nat} (hn : n < 2 ^ 64) (E M : Nat) (hE : n / 2 ^ 52 % 2048 = E) (hM : n % 2 ^ 52 = M) :
    (E = 2047 ∧ partsF n = (Fl.sgn n, 0, 0, decide (M = 0), decide (M ≠ 0))) ∨ (E = 0 ∧ partsF n = (Fl.sgn n, -1074, M, false, false)) ∨ (E ≠ 2047 ∧ E ≠ 0 ∧ partsF n = (Fl.sgn n, (E : Int) - 1075, M + 4503599627370496, false, false)) := by
  have hr : Fl.rung n = E * 2 ^ 52 + M := by unfold Fl.rung; omega
  have hM' : M < 2 ^ 52 := by omega
  have hE' : E < 2048 := by omega
  unfold partsF Fl.nan Fl.infR
  rw [hr]
  by_cases h1 : E = 2047
  · left
    refine ⟨h1, ?_⟩
    by_cases h0 : M = 0
    · rw [if_neg (by simp; omega), if_pos (by omega)]; simp [h0]
    · rw [if_pos (by simp; omega)]; simp [h0]
  · right
    rw [if_neg (by simp; omega), if_neg (by omega)]
    by_cases h0 : E = 0
    · left
      refine ⟨h0, ?_⟩
      subst h0
      unfold Fl.plR Fl.magR
      rw [if_pos (by omega), if_pos (by omega)]
      simp
    · right
      refine ⟨h1, h0, ?_⟩
      unfold Fl.plR Fl.magR
      rw [if_neg (by omega), if_neg (by omega)]
      refine Prod.ext rfl (Prod.ext ?_ (Prod.ext ?_ rfl))
      · show -1074 + (((E * 2 ^ 52 + M) / 2 ^ 52 - 1 : Nat) : Int) = (E : Int) - 1075; omega
      · show 2 ^ 52 + (E * 2 ^ 52 + M) % 2 ^ 52 = M + 4503599627370496; omega
set_option maxHeartbeats 400000 in
theorem parts_any (n : Nat) (hn : n < 2 ^ 64) (w : World) :
    Calls Try.prog 26 #[.int .u64 n] w fun e w' => e = .returned (.tuple #[.bool (partsF n).1, .int .i64 (partsF n).2.1, .int .u64 ((partsF n).2.2.1 : Int), .bool (partsF n).2.2.2.1, .bool (partsF n).2.2.2.2]) ∧ w = w' := by
  have hs := sgn_eq hn
  obtain ⟨E, hE⟩ : ∃ E, n / 2 ^ 52 % 2048 = E := ⟨_, rfl⟩
  obtain ⟨M, hM⟩ : ∃ M, n % 2 ^ 52 = M := ⟨_, rfl⟩
  have hc := parts_cases hn E M hE hM
  have hE1 : (n : Int) / 4503599627370496 % 2048 = (E : Int) := by omega
  have hM1 : (n : Int) % 4503599627370496 = (M : Int) := by omega
  have bE : E < 2048 := by omega
  have bM : M < 4503599627370496 := by omega
  clear hE hM
  rcases hc with ⟨h1, hp⟩ | ⟨h1, hp⟩ | ⟨h1, h2, hp⟩
  · have hp1 : partsF n = (Fl.sgn n, 0, 0, ((M : Int) == 0), ((M : Int) != 0)) := by
      rw [hp]
      by_cases h0 : M = 0
      · simp [h0]
      · have : ((M : Int) == 0) = false := by simp [h0]
        simp [h0, this, bne]
    rw [hp1]
    have he : ((E : Int) == 2047) = true := by simp [h1]
    clear hp hp1 h1
    go_enter Try.func26, Try.ntmps26
    go_wp2
    exact bodyPost_ret (v := .tuple #[.bool (Fl.sgn n), .int .i64 0, .int .u64 0, .bool ((M : Int) == 0), .bool ((M : Int) != 0)]) (by simp [results, Try.results26, go_sem]) rfl ⟨rfl, rfl⟩
  · rw [hp]
    have he : ((E : Int) == 2047) = false := by simp [h1]
    have he0 : ((E : Int) == 0) = true := by simp [h1]
    clear hp h1
    go_enter Try.func26, Try.ntmps26
    go_wp2
    exact bodyPost_ret (v := .tuple #[.bool (Fl.sgn n), .int .i64 (-1074), .int .u64 M, .bool false, .bool false]) (by simp [results, Try.results26, hM1, go_sem]) rfl ⟨rfl, rfl⟩
  · rw [hp]
    have he : ((E : Int) == 2047) = false := by simp; omega
    have he0 : ((E : Int) == 0) = false := by simp; omega
    clear hp h1 h2
    go_enter Try.func26, Try.ntmps26
    go_wp2
    exact bodyPost_ret (v := .tuple #[.bool (Fl.sgn n), .int .i64 ((E : Int) - 1075), .int .u64 ((M + 4503599627370496 : Nat) : Int), .bool false, .bool false]) (by simp [results, Try.results26, go_sem]) rfl ⟨rfl, rfl⟩
theorem parts_none (n : Nat) : (partsF n).2.2.2.2 = Fl.nan n := by
  unfold partsF
  split
  · rename_i h; rw [h]
  · rename_i h; rw [Bool.not_eq_true] at h; rw [h]; split <;> rfl
set_option maxHeartbeats 400000 in
theorem one_any (n : Nat) (hn : n < 2 ^ 64) (w : World) :
    Calls Try.prog 13 #[.int .u64 n] w fun e w' => e = .returned (.int .u64 (Fl.canon n)) ∧ w = w' := by
  have hp := parts_any n hn
  rw [parts_none] at hp
  cases hnan : Fl.nan n with
  | true =>
    rw [hnan] at hp
    rw [Fl.canon_nan hnan]
    have HP := Lib.hid hp
    clear hp hnan hn
    go_enter Try.func13, Try.ntmps13
    go_wp2_with (go_at_call 26; ((with_reducible refine (HP.out _).mono ?_); rintro e w' ⟨rfl, rfl⟩))
    go_ret
    exact ⟨rfl, rfl⟩
  | false =>
    rw [hnan] at hp
    rw [Fl.canon_num hnan]
    have HP := Lib.hid hp
    clear hp hnan hn
    go_enter Try.func13, Try.ntmps13
    go_wp2_with (go_at_call 26; ((with_reducible refine (HP.out _).mono ?_); rintro e w' ⟨rfl, rfl⟩))
    go_ret
    exact ⟨rfl, rfl⟩

def low (c k : Nat) : List Int := (List.range k).reverse.map fun j => hexc (c / 16 ^ j % 16)
theorem low_succ (c k : Nat) : low c (k + 1) = hexc (c / 16 ^ k % 16) :: low c k := by simp [low, List.range_succ]
theorem low_pre (c : Nat) : [102, 39] ++ low c 16 = pre c 16 := by
  unfold low pre
  simp [List.range_succ]
theorem sign_cut (d : Nat) (hd : d < 16) : (ByteArray.mk #[48, 49, 50, 51, 52, 53, 54, 55, 56, 57, 97, 98, 99, 100, 101, 102]).extract d (d + 1) = strOfNums [hexc d] := by
  have h : d = 0 ∨ d = 1 ∨ d = 2 ∨ d = 3 ∨ d = 4 ∨ d = 5 ∨ d = 6 ∨ d = 7 ∨ d = 8 ∨ d = 9 ∨ d = 10 ∨ d = 11 ∨ d = 12 ∨ d = 13 ∨ d = 14 ∨ d = 15 := by omega
  rcases h with rfl | rfl | rfl | rfl | rfl | rfl | rfl | rfl | rfl | rfl | rfl | rfl | rfl | rfl | rfl | rfl <;> rfl
theorem str_cons (x : Int) (l : List Int) : strOfNums [x] ++ strOfNums l = strOfNums (x :: l) := by
  apply ByteArray.ext
  simp [strOfNums]
set_option maxHeartbeats 400000 in
theorem rtext_any (c : Nat) (hc : c < 2 ^ 64) (w : World) :
    Calls Try.prog 12 #[.int .u64 c] w fun e w' => e = .returned (.string (strOfNums (pre c 16))) ∧ w = w' := by
  go_enter Try.func12, Try.ntmps12
  go_wp2
  go_loop [0, 3, 4] (fun b s i => ∃ k q : Nat, k ≤ 16 ∧ i = .int .i64 k ∧ b = .int .u64 q ∧ Hid (q = c / 16 ^ k) ∧ q < 2 ^ 64 ∧ s = .string (strOfNums (low c k))) (fun _ _ i => 16 - (intOf i).toNat)
  case atStart => exact ⟨0, c, by omega, rfl, rfl, Lib.hid (by simp), hc, rfl⟩
  case round =>
    obtain ⟨k, q, hk, rfl, rfl, HQ, hq, rfl⟩ := hrel
    by_cases hlt : k < 16
    · obtain ⟨d, hd⟩ : ∃ d : Nat, q % 16 = d := ⟨_, rfl⟩
      obtain ⟨p, hp⟩ : ∃ p : Nat, q / 16 = p := ⟨_, rfl⟩
      have hd1 : (q : Int) % 16 = (d : Int) := by omega
      have hp1 : (q : Int) / 16 = (p : Int) := by omega
      have hd2 : d < 16 := by omega
      have hp2 : p < 2 ^ 64 := by omega
      have hcut := sign_cut d hd2
      have HP : Hid (p = c / 16 ^ (k + 1)) := Lib.hid (by rw [← hp, HQ.out, Nat.div_div_eq_div_mul, Nat.pow_succ])
      have HL : Hid (low c (k + 1) = hexc d :: low c k) := Lib.hid (by rw [low_succ, ← HQ.out, hd])
      have sz1 : (strOfNums [hexc d]).size = 1 := strOfNums_size _
      have sz2 : (strOfNums (low c k)).size = k := by rw [strOfNums_size]; simp [low]
      clear hd hp
      go_wp2
      go_round
      case rel => exact ⟨k + 1, p, by omega, by go_num, rfl, HP, hp2, by rw [HL.out]; exact congrArg Value.string (str_cons _ _)⟩
      case measure => simp [intOf]; omega
    · obtain ⟨l, hl⟩ : ∃ l, l = low c k := ⟨_, rfl⟩
      have HL : Hid (strOfNums [102, 39] ++ strOfNums l = strOfNums (pre c 16)) := Lib.hid (by
        rw [hl, show k = 16 by omega, ← low_pre]
        apply ByteArray.ext
        simp [strOfNums])
      have sz : (strOfNums l).size = 16 := by rw [strOfNums_size, hl]; simp [low]; omega
      rw [← hl]
      clear hl
      go_wp2
      go_ret
      exact ⟨by rw [← HL.out]; rfl, rfl⟩
end Go.Proofs.Ytebldhppnacdjaa
