/- Plain facts on rounding a row of digits, as the reference does it. -/
import Derived.Test.YtebldhppnacdjaaFm
import Derived.Test.YtebldhppnacdjaaFd
namespace Fl
/-- the place of the lowest digit that stays. -/
def rlow (n : Nat) (e : Int) : Int := max (((dg n).length : Int) + e - 53) (-1074)
def rdn (n : Nat) (e : Int) : Nat := (rlow n e - e).toNat
def rup (n : Nat) (e : Int) : Nat := (e - rlow n e).toNat
def rk0 (n : Nat) (e : Int) : Nat := n * 2 ^ rup n e / 2 ^ rdn n e
def rhalf (n d k : Nat) : Bool := decide (1 ≤ d) && (decide (d - 1 < k) && (n / 2 ^ (d - 1) % 2 == 1))
def rrest (more : Bool) (n d k : Nat) : Bool := more || decide (n % 2 ^ (min k (d - 1)) ≠ 0)
def rround (more : Bool) (n : Nat) (e : Int) : Bool := rhalf n (rdn n e) (dg n).length && (rrest more n (rdn n e) (dg n).length || rk0 n e % 2 == 1)
def rk1 (more : Bool) (n : Nat) (e : Int) : Nat := rk0 n e + (rround more n e).toNat
def roundF (s : Bool) (n : Nat) (e : Int) (more : Bool) : Nat :=
  if n = 0 then D.word s 0 else D.word s (min ((rlow n e + 1074).toNat * 2 ^ 52 + rk1 more n e) infR)

theorem drop_dg (n k : Nat) : (dg n).drop k = dg (n / 2 ^ k) := by
  induction k generalizing n with
  | zero => simp
  | succ k ih =>
    by_cases h : n = 0
    · subst h; simp [dg_zero]
    · rw [dg_pos h, List.drop_succ_cons, ih, Nat.div_div_eq_div_mul, Nat.pow_succ, Nat.mul_comm 2]
theorem take_snoc {l : List Int} {k : Nat} (h : k < l.length) : l.take (k + 1) = l.take k ++ [l.getD k 0] := by
  rw [List.take_succ_eq_append_getElem h]
  simp [List.getD, List.getElem?_eq_getElem h]
theorem rhalf_keep {n d k : Nat} (h : d ≤ k) : rhalf n d (k + 1) = rhalf n d k := by
  unfold rhalf
  by_cases h1 : 1 ≤ d
  · rw [show decide (d - 1 < k + 1) = true by simp; omega, show decide (d - 1 < k) = true by simp; omega]
  · rw [show decide (1 ≤ d) = false by simp; omega]; rfl
theorem rrest_keep {more : Bool} {n d k : Nat} (h : d ≤ k + 1) : rrest more n d (k + 1) = rrest more n d k := by
  unfold rrest
  rw [show min (k + 1) (d - 1) = min k (d - 1) by omega]
theorem rhalf_at {n d k : Nat} (h : d = k + 1) : rhalf n d (k + 1) = (n / 2 ^ k % 2 == 1) := by
  unfold rhalf
  subst h
  simp
theorem rhalf_no {n d k : Nat} (h : k + 1 < d) : rhalf n d (k + 1) = false := by
  unfold rhalf
  rw [show decide (d - 1 < k + 1) = false by simp; omega]
  simp
theorem rrest_more {more : Bool} {n d k : Nat} (h : k + 1 < d) : rrest more n d (k + 1) = (rrest more n d k || (n / 2 ^ k % 2 == 1)) := by
  unfold rrest
  rw [show min (k + 1) (d - 1) = k + 1 by omega, show min k (d - 1) = k by omega, Bool.or_assoc]
  congr 1
  rw [mod_succ, Bool.eq_iff_iff]
  have hb : n / 2 ^ k % 2 = 0 ∨ n / 2 ^ k % 2 = 1 := by omega
  have hp := Nat.two_pow_pos k
  rcases hb with hb | hb
  · rw [hb]; simp
  · rw [hb]; simp
theorem rk0_lt {n : Nat} {e : Int} (h : n ≠ 0) : rk0 n e < 2 ^ 53 := by
  unfold rk0
  have hl := dg_lt n
  have h1 : ((dg n).length : Int) + e - 53 ≤ rlow n e := by unfold rlow; omega
  generalize (dg n).length = L at *
  rw [Nat.div_lt_iff_lt_mul (Nat.two_pow_pos _), ← Nat.pow_add]
  refine Nat.lt_of_lt_of_le (Nat.mul_lt_mul_of_pos_right hl (Nat.two_pow_pos _)) ?_
  rw [← Nat.pow_add]
  refine Nat.pow_le_pow_right (by decide) ?_
  unfold rup rdn
  omega
theorem rk0_ge {n : Nat} {e : Int} (h : n ≠ 0) (hl : rlow n e ≠ -1074) : 2 ^ 52 ≤ rk0 n e := by
  unfold rk0
  have hg := dg_ge h
  have hpos : 0 < (dg n).length := by rw [dg_length, if_neg h]; omega
  have h1 : rlow n e = ((dg n).length : Int) + e - 53 := by unfold rlow at *; omega
  generalize (dg n).length = L at *
  rw [Nat.le_div_iff_mul_le (Nat.two_pow_pos _), ← Nat.pow_add]
  refine Nat.le_trans ?_ (Nat.mul_le_mul_right _ hg)
  rw [← Nat.pow_add]
  refine Nat.pow_le_pow_right (by decide) ?_
  unfold rup rdn
  omega
theorem rk1_le {more : Bool} {n : Nat} {e : Int} (h : n ≠ 0) : rk1 more n e ≤ 2 ^ 53 := by
  unfold rk1
  have := rk0_lt (e := e) h
  cases rround more n e <;> simp <;> omega
theorem rlow_ge (n : Nat) (e : Int) : -1074 ≤ rlow n e := by unfold rlow; omega
/-- how the answer is put together. -/
theorem round_small {s : Bool} {n : Nat} {e : Int} {more : Bool} (h : n ≠ 0) (hk : rk1 more n e < 2 ^ 52) : roundF s n e more = (if s then 2 ^ 63 else 0) + rk1 more n e := by
  have hl : rlow n e = -1074 := by
    apply Classical.byContradiction
    intro hl
    have := rk0_ge h hl
    unfold rk1 at hk
    omega
  unfold roundF
  rw [if_neg h, hl]
  unfold Ieee.Format.word
  rw [D_sw]
  have : min ((-1074 + 1074 : Int).toNat * 2 ^ 52 + rk1 more n e) infR = rk1 more n e := by
    rw [show ((-1074 : Int) + 1074).toNat = 0 from rfl, Nat.zero_mul, Nat.zero_add]
    unfold infR
    omega
  rw [this]
  cases s <;> simp
theorem round_inf {s : Bool} {n : Nat} {e : Int} {more : Bool} (h : n ≠ 0) (hk : 2 ^ 52 ≤ rk1 more n e) (hb : 2047 ≤ rlow n e + 1075 ∨ (rk1 more n e = 2 ^ 53 ∧ 2047 ≤ rlow n e + 1 + 1075)) : roundF s n e more = (if s then 2 ^ 63 else 0) + 9218868437227405312 := by
  unfold roundF
  rw [if_neg h]
  unfold Ieee.Format.word
  rw [D_sw]
  have hge : infR ≤ (rlow n e + 1074).toNat * 2 ^ 52 + rk1 more n e := by
    unfold infR
    rcases hb with hb | ⟨hb1, hb2⟩
    · have : 2046 ≤ (rlow n e + 1074).toNat := by omega
      have := Nat.mul_le_mul_right (2 ^ 52) this
      omega
    · have : 2045 ≤ (rlow n e + 1074).toNat := by omega
      have := Nat.mul_le_mul_right (2 ^ 52) this
      omega
  rw [Nat.min_eq_right hge]
  unfold infR
  cases s <;> simp
theorem round_mid {s : Bool} {n : Nat} {e : Int} {more : Bool} (h : n ≠ 0) (l k : Nat) (hk : 2 ^ 52 ≤ k) (hk2 : k < 2 ^ 53) (hl : l < 2047) (h1 : 1 ≤ l)
    (hb : (rlow n e + 1075 = l ∧ rk1 more n e = k) ∨ (rlow n e + 1 + 1075 = l ∧ rk1 more n e = 2 ^ 53 ∧ k = 2 ^ 52)) : roundF s n e more = (if s then 2 ^ 63 else 0) + (l * 2 ^ 52 + k - 2 ^ 52) := by
  unfold roundF
  rw [if_neg h]
  unfold Ieee.Format.word
  rw [D_sw]
  have hlow := rlow_ge n e
  have e1 : (rlow n e + 1074).toNat * 2 ^ 52 + rk1 more n e = l * 2 ^ 52 + k - 2 ^ 52 := by
    rcases hb with ⟨hb1, hb2⟩ | ⟨hb1, hb2, hb3⟩
    · rw [hb2, show (rlow n e + 1074).toNat = l - 1 by omega]; omega
    · rw [hb2, hb3, show (rlow n e + 1074).toNat = l - 2 by omega]; omega
  have hlt : l * 2 ^ 52 + k - 2 ^ 52 ≤ infR := by unfold infR; omega
  rw [e1, Nat.min_eq_left hlt]
  cases s <;> simp
end Fl
