/- Plain facts: what is before a float's point. -/
import Derived.Test.YtebldhppnacdjaaFj
namespace Fl
open Ieee
theorem cut_zero (s : Bool) (n d : Nat) : Toward.zero.cut s n d = n / 2 ^ d := by
  unfold Toward.cut
  simp only [Nat.one_shiftLeft, Bool.toNat_false, Nat.add_zero]
  by_cases h : d ≤ n.log2 + 2
  · rw [Nat.min_eq_left h]
  · rw [Nat.min_eq_right (by omega)]
    have hl : n < 2 ^ (n.log2 + 1) := Nat.lt_log2_self
    rw [Nat.div_eq_of_lt (Nat.lt_trans hl (Nat.pow_lt_pow_right (by decide) (by omega))), Nat.div_eq_of_lt (Nat.lt_trans hl (Nat.pow_lt_pow_right (by decide) (by omega)))]
def X1074 : Nat := 1074
theorem hX : X1074 = 1074 := rfl
/-- what is before the point, of a rung. -/
def trR (r : Nat) : Nat := val r / 2 ^ X1074
theorem cut_rung (s : Bool) (r : Nat) : Toward.zero.cut s (magR r <<< (-1074 + (plR r : Int)).toNat) (-(-1074 + (plR r : Int))).toNat = trR r := by
  rw [cut_zero, Nat.shiftLeft_eq]
  unfold trR val
  by_cases h : 1074 ≤ plR r
  · rw [show (-(-1074 + (plR r : Int))).toNat = 0 by omega, show (-1074 + (plR r : Int)).toNat = plR r - 1074 by omega, Nat.pow_zero, Nat.div_one]
    have : 2 ^ plR r = 2 ^ (plR r - 1074) * 2 ^ X1074 := by rw [← Nat.pow_add]; congr 1; have := hX; omega
    rw [this, ← Nat.mul_assoc, Nat.mul_div_cancel _ (Nat.two_pow_pos _)]
  · rw [show (-1074 + (plR r : Int)).toNat = 0 by omega, show (-(-1074 + (plR r : Int))).toNat = 1074 - plR r by omega, Nat.pow_zero, Nat.mul_one]
    have : 2 ^ X1074 = 2 ^ (1074 - plR r) * 2 ^ plR r := by rw [← Nat.pow_add]; congr 1; have := hX; omega
    rw [this, Nat.mul_div_mul_right _ _ (Nat.two_pow_pos _)]
theorem integral_num (s : Bool) (r : Nat) : (Datum.number s (magR r) (-1074 + (plR r : Int))).integral .zero = .number s (trR r) 0 := by
  show Datum.number s _ 0 = _
  rw [cut_rung]
/-- the rung of 53 digits at a place. -/
theorem rung_of (m p : Nat) (h1 : 2 ^ 52 ≤ m) (h2 : m < 2 ^ 53) : magR (p * 2 ^ 52 + m) = m ∧ plR (p * 2 ^ 52 + m) = p := by
  unfold magR plR
  rw [if_neg (by omega), if_neg (by omega)]
  omega
theorem mag_lt (r : Nat) : magR r < 2 ^ 53 := by unfold magR; split <;> omega
/-- what is before the point is a float's number. -/
theorem trR_rung (r : Nat) (h : r < infR) : ∃ q, q < infR ∧ val q = trR r * 2 ^ X1074 := by
  by_cases hp : 1074 ≤ plR r
  · refine ⟨r, h, ?_⟩
    unfold trR val
    have : 2 ^ plR r = 2 ^ (plR r - 1074) * 2 ^ X1074 := by rw [← Nat.pow_add]; congr 1; have := hX; omega
    rw [this, ← Nat.mul_assoc, Nat.mul_div_cancel _ (Nat.two_pow_pos _)]
  · have hT : trR r < 2 ^ 53 := by
      rw [← cut_rung false r, cut_zero, show (-1074 + (plR r : Int)).toNat = 0 by omega]
      refine Nat.lt_of_le_of_lt (Nat.div_le_self _ _) ?_
      rw [Nat.shiftLeft_eq, Nat.pow_zero, Nat.mul_one]
      exact mag_lt r
    generalize trR r = t at *
    by_cases h0 : t = 0
    · exact ⟨0, by decide, by rw [h0, val_zero, Nat.zero_mul]⟩
    · have hl := Nat.log2_self_le h0
      have hu : t < 2 ^ (t.log2 + 1) := Nat.lt_log2_self
      have hl52 : t.log2 ≤ 52 := by have := (Nat.log2_lt h0).2 hT; omega
      have e1 := rung_of (t * 2 ^ (52 - t.log2)) (1074 - (52 - t.log2)) (by
        refine Nat.le_trans ?_ (Nat.mul_le_mul_right _ hl)
        rw [← Nat.pow_add, show t.log2 + (52 - t.log2) = 52 by omega]; exact Nat.le_refl _) (by
        refine Nat.lt_of_lt_of_le (Nat.mul_lt_mul_of_pos_right hu (Nat.two_pow_pos _)) ?_
        rw [← Nat.pow_add, show t.log2 + 1 + (52 - t.log2) = 53 by omega]; exact Nat.le_refl _)
      refine ⟨(1074 - (52 - t.log2)) * 2 ^ 52 + t * 2 ^ (52 - t.log2), ?_, ?_⟩
      · have h2 : t * 2 ^ (52 - t.log2) < 2 ^ 53 := by
          refine Nat.lt_of_lt_of_le (Nat.mul_lt_mul_of_pos_right hu (Nat.two_pow_pos _)) ?_
          rw [← Nat.pow_add, show t.log2 + 1 + (52 - t.log2) = 53 by omega]; exact Nat.le_refl _
        unfold infR
        have h3 : 1074 - (52 - t.log2) ≤ 1074 := by omega
        generalize t * 2 ^ (52 - t.log2) = y at *
        generalize 1074 - (52 - t.log2) = z at *
        omega
      · unfold val
        rw [e1.1, e1.2, Nat.mul_assoc, ← Nat.pow_add]
        congr 2
        have := hX
        omega
theorem nearest_tr (s : Bool) (r q : Nat) (hq : q < infR) (h : val q = trR r * 2 ^ X1074) : D.nearest s (trR r) 0 = D.word s q := by
  by_cases h0 : trR r = 0
  · have : q = 0 := val_inj (by rw [h, h0, Nat.zero_mul, val_zero])
    rw [h0, nearest_zero, this]
  · have e := nearest_scale s (trR r) X1074 0 h0
    rw [← e, ← h, show (0 : Int) - (X1074 : Int) = -1074 by have := hX; omega]
    refine nearest_val s q ?_ hq
    rintro rfl
    rw [val_zero] at h
    have := Nat.mul_pos (Nat.pos_of_ne_zero h0) (Nat.two_pow_pos X1074)
    omega
/-- a word cut off. -/
def truncW (n : Nat) : Nat := if rung n < infR then D.nearest (sgn n) (trR (rung n)) 0 else n
theorem trunc_datum (n : Nat) (hn : n < 2 ^ 64) (h : nan n = false) : D.write ((D.read n).integral .zero) = truncW n := by
  have hle := rung_le_of h
  unfold truncW
  by_cases hf : rung n < infR
  · rw [if_pos hf, read_fin hf, integral_num]; rfl
  · rw [if_neg hf, read_inf (by omega)]
    show D.word (sgn n) D.infRung = n
    rw [D_inf, ← show rung n = infR by omega, word_of hn]
theorem sgn_word (s : Bool) {r : Nat} (h : r ≤ infR) : sgn (D.word s r) = s := by
  unfold Format.word sgn
  rw [D_sw]
  unfold infR at h
  cases s
  · simp only [Bool.false_eq_true, if_false]; rw [Nat.div_eq_of_lt (by omega)]; rfl
  · simp only [if_true]; rw [show (2 ^ 63 + r) / 2 ^ 63 = 1 by omega]; rfl
theorem trunc_fin {n : Nat} (h : rung n < infR) : rung (truncW n) < infR ∧ ev (truncW n) = sv (sgn n) ((trR (rung n) * 2 ^ X1074 : Nat) : Int) ∧ (D.read (truncW n)).toInt .zero = some (sv (sgn n) (trR (rung n) : Int)) := by
  obtain ⟨q, hq, hv⟩ := trR_rung (rung n) h
  have e : truncW n = D.word (sgn n) q := by unfold truncW; rw [if_pos h]; exact nearest_tr _ _ _ hq hv
  have hr : rung (D.word (sgn n) q) = q := rung_word _ (by omega)
  have hs : sgn (D.word (sgn n) q) = sgn n := sgn_word _ (by omega)
  rw [e]
  refine ⟨by rw [hr]; exact hq, by rw [ev_fin (by rw [hr]; exact hq), hr, hs, hv], ?_⟩
  rw [read_fin (by rw [hr]; exact hq), hr, hs]
  unfold Datum.toInt
  rw [integral_num]
  show some (signed (sgn n) (trR q) 0) = _
  rw [signed_eq, Nat.pow_zero, Nat.mul_one]
  congr 3
  unfold trR
  rw [hv, Nat.mul_div_cancel _ (Nat.two_pow_pos _)]
  rfl
def LOW63 : Nat := 14114281232179134464
def HIGH63 : Nat := 4890909195324358656
theorem ev_low : ev LOW63 = -((2 ^ 63 * 2 ^ X1074 : Nat) : Int) := by
  have h : rung LOW63 < infR := by decide
  rw [ev_fin h]
  have : val (rung LOW63) = 2 ^ 63 * 2 ^ X1074 := by
    unfold val
    rw [show magR (rung LOW63) = 2 ^ 52 by decide, show plR (rung LOW63) = 11 + X1074 by decide, ← Nat.pow_add, ← Nat.pow_add, show 52 + (11 + X1074) = 63 + X1074 by omega]
  rw [this]; rfl
theorem ev_high : ev HIGH63 = ((2 ^ 63 * 2 ^ X1074 : Nat) : Int) := by
  have h : rung HIGH63 < infR := by decide
  rw [ev_fin h]
  have : val (rung HIGH63) = 2 ^ 63 * 2 ^ X1074 := by
    unfold val
    rw [show magR (rung HIGH63) = 2 ^ 52 by decide, show plR (rung HIGH63) = 11 + X1074 by decide, ← Nat.pow_add, ← Nat.pow_add, show 52 + (11 + X1074) = 63 + X1074 by omega]
  rw [this]; rfl
end Fl
