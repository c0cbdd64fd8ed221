/- Plain facts: the reference's rounding is the standard's. -/
import Derived.Test.YtebldhppnacdjaaFk
namespace Fl
theorem dg_len {n : Nat} (h : n ≠ 0) : (dg n).length = n.log2 + 1 := by rw [dg_length, if_neg h]
theorem half_rest (n b : Nat) : n % 2 ^ (b + 1) = n % 2 ^ b + 2 ^ b * (n / 2 ^ b % 2) := mod_succ n b
theorem rest_eq (more : Bool) (n d : Nat) : rrest more n d (dg n).length = (more || decide (n % 2 ^ (d - 1) ≠ 0)) := by
  unfold rrest
  by_cases h : (dg n).length ≤ d - 1
  · rw [Nat.min_eq_left h, Nat.mod_eq_of_lt (dg_lt n), Nat.mod_eq_of_lt (Nat.lt_of_lt_of_le (dg_lt n) (Nat.pow_le_pow_right (by decide) h))]
  · rw [Nat.min_eq_right (by omega)]
theorem half_eq (n d : Nat) : rhalf n d (dg n).length = (decide (1 ≤ d) && (n / 2 ^ (d - 1) % 2 == 1)) := by
  unfold rhalf
  by_cases h : d - 1 < (dg n).length
  · simp [h]
  · rw [Nat.div_eq_of_lt (Nat.lt_of_lt_of_le (dg_lt n) (Nat.pow_le_pow_right (by decide) (by omega)))]
    simp
theorem rne_low (n b : Nat) : rne n (2 ^ (b + 1)) = n / 2 ^ (b + 1) + ((n / 2 ^ b % 2 == 1) && (decide (n % 2 ^ b ≠ 0) || n / 2 ^ (b + 1) % 2 == 1)).toNat := by
  unfold rne
  congr 1
  rw [half_rest]
  have hp : (2 : Nat) ^ (b + 1) = 2 * 2 ^ b := by rw [Nat.pow_succ]; omega
  have hlt : n % 2 ^ b < 2 ^ b := Nat.mod_lt _ (Nat.two_pow_pos b)
  generalize n / 2 ^ (b + 1) = q
  rw [hp]
  have hb : n / 2 ^ b % 2 = 0 ∨ n / 2 ^ b % 2 = 1 := by omega
  generalize n % 2 ^ b = r at *
  generalize 2 ^ b = g at *
  rcases hb with hb | hb
  · rw [hb, if_neg (by omega)]; simp
  · rw [hb]
    by_cases h0 : r = 0
    · subst h0
      by_cases hq : q % 2 = 1
      · rw [if_pos (by omega)]; simp [hq]
      · have hq2 : (q % 2 == 1) = false := by simpa using hq
        rw [if_neg (by omega), hq2]; simp
    · rw [if_pos (by omega)]; simp [h0]
theorem rk1_eq (n : Nat) (e : Int) (h : n ≠ 0) : rk1 false n e = rne (n * 2 ^ rup n e) (2 ^ rdn n e) := by
  unfold rk1 rround
  rw [half_eq, rest_eq]
  unfold rk0
  have hud : rup n e = 0 ∨ rdn n e = 0 := by unfold rup rdn; omega
  cases hd : rdn n e with
  | zero => simp [rne_one]
  | succ b =>
    have hu : rup n e = 0 := by omega
    rw [hu, Nat.pow_zero, Nat.mul_one, rne_low]
    simp
theorem roundF_nearest (s : Bool) (n : Nat) (e : Int) : roundF s n e false = D.nearest s n e := by
  unfold roundF
  by_cases h : n = 0
  · subst h; rw [if_pos rfl, nearest_zero]
  · rw [if_neg h, nearest_eq _ _ _ h, rk1_eq n e h]
    have hl : rlow n e = max (e + (n.log2 : Int) - 52) (-1074) := by unfold rlow; rw [dg_len h]; omega
    unfold rup rdn
    rw [hl]
theorem log2_twice (n : Nat) (h : n ≠ 0) : (2 * n + 1).log2 = n.log2 + 1 := by
  rw [Nat.log2_def (2 * n + 1), if_pos (by omega), show (2 * n + 1) / 2 = n by omega]
/-- with more behind the digits: as one digit more, which is 1. -/
theorem roundF_sticky (s : Bool) (n : Nat) (e : Int) (hl : 55 ≤ (dg n).length) : roundF s n e true = D.nearest s (2 * n + 1) (e - 1) := by
  have h : n ≠ 0 := by rintro rfl; rw [dg_zero] at hl; simp at hl
  unfold roundF
  rw [if_neg h, nearest_eq _ _ _ (by omega), log2_twice n h]
  have hlow : rlow n e = max (e - 1 + ((n.log2 + 1 : Nat) : Int) - 52) (-1074) := by unfold rlow; rw [dg_len h]; omega
  rw [← hlow]
  have hd : 1 ≤ rdn n e := by
    unfold rdn
    have : ((dg n).length : Int) + e - 53 ≤ rlow n e := by unfold rlow; omega
    omega
  have hu : (e - 1 - rlow n e).toNat = 0 := by unfold rdn at hd; omega
  have hd2 : (rlow n e - (e - 1)).toNat = rdn n e + 1 := by unfold rdn at *; omega
  rw [hu, hd2, Nat.pow_zero, Nat.mul_one]
  congr 3
  unfold rk1 rround
  rw [half_eq, rest_eq, rne_low]
  unfold rk0
  have hup : rup n e = 0 := by unfold rup; unfold rdn at hd; omega
  rw [hup, Nat.pow_zero, Nat.mul_one]
  obtain ⟨b, hb⟩ : ∃ b, rdn n e = b + 1 := ⟨rdn n e - 1, by omega⟩
  rw [hb]
  have e1 : (2 * n + 1) / 2 ^ (b + 1 + 1) = n / 2 ^ (b + 1) := by rw [Nat.pow_succ 2 (b + 1), Nat.mul_comm _ 2, ← Nat.div_div_eq_div_mul, show (2 * n + 1) / 2 = n by omega]
  have e2 : (2 * n + 1) / 2 ^ (b + 1) = n / 2 ^ b := by rw [Nat.pow_succ 2 b, Nat.mul_comm _ 2, ← Nat.div_div_eq_div_mul, show (2 * n + 1) / 2 = n by omega]
  have e3 : (2 * n + 1) % 2 ^ (b + 1) ≠ 0 := by
    rw [Nat.pow_succ 2 b, Nat.mul_comm _ 2, Nat.mod_mul]; omega
  rw [e1, e2, decide_eq_true e3]
  simp
/-! ### what is written is no NaN -/
theorem rung_word (s : Bool) {r : Nat} (h : r ≤ infR) : rung (D.word s r) = r := by
  unfold Ieee.Format.word rung
  rw [D_sw]
  unfold infR at h
  cases s <;> simp <;> omega
theorem nan_word (s : Bool) {r : Nat} (h : r ≤ infR) : nan (D.word s r) = false := by
  unfold nan; rw [rung_word s h]; simp; omega
theorem nearest_word (s : Bool) (m : Nat) (p : Int) : ∃ r, r ≤ infR ∧ D.nearest s m p = D.word s r := by
  by_cases h : m = 0
  · subst h; exact ⟨0, Nat.zero_le _, nearest_zero _ _⟩
  · exact ⟨_, Nat.min_le_right _ _, nearest_eq _ _ _ h⟩
theorem canon_nearest (s : Bool) (m : Nat) (p : Int) : canon (D.nearest s m p) = D.nearest s m p := by
  obtain ⟨r, h1, h2⟩ := nearest_word s m p
  rw [h2]
  exact canon_num (nan_word s h1)
theorem word_lt64 (s : Bool) {r : Nat} (h : r ≤ infR) : D.word s r < 2 ^ 64 := by
  unfold Ieee.Format.word
  rw [D_sw]
  unfold infR at h
  cases s <;> simp <;> omega
end Fl
