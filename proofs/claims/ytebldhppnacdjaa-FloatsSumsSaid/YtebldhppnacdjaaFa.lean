/- Plain facts: sums, products and quotients, by digits and by the standard. -/
import Derived.Test.YtebldhppnacdjaaFc
namespace Fl
open Ieee
def flip (y : Nat) : Nat := if y < 2 ^ 63 then y + 2 ^ 63 else y - 2 ^ 63
theorem xor_flip (y : Nat) (h : y < 2 ^ 64) : y ^^^ 9223372036854775808 = flip y := by
  have e1 : (y ^^^ 2 ^ 63) % 2 ^ 63 = y % 2 ^ 63 := by rw [Nat.xor_mod_two_pow, Nat.mod_self, Nat.xor_zero]
  have e2 : (y ^^^ 2 ^ 63) / 2 ^ 63 = y / 2 ^ 63 ^^^ 1 := by rw [Nat.xor_div_two_pow, Nat.div_self (by decide)]
  rw [show (9223372036854775808 : Nat) = 2 ^ 63 from rfl]
  have hy : y / 2 ^ 63 = 0 ∨ y / 2 ^ 63 = 1 := by omega
  unfold flip
  rcases hy with hy | hy
  · rw [hy] at e2
    rw [if_pos (by omega)]
    have : (0 ^^^ 1 : Nat) = 1 := by decide
    rw [this] at e2
    omega
  · rw [hy] at e2
    rw [if_neg (by omega)]
    have : (1 ^^^ 1 : Nat) = 0 := by decide
    rw [this] at e2
    omega
theorem flip_lt {y : Nat} (h : y < 2 ^ 64) : flip y < 2 ^ 64 := by unfold flip; split <;> omega
theorem rung_flip (y : Nat) (h : y < 2 ^ 64) : rung (flip y) = rung y := by unfold flip rung; split <;> omega
theorem sgn_flip (y : Nat) (h : y < 2 ^ 64) : sgn (flip y) = !sgn y := by
  unfold flip sgn
  by_cases h1 : y < 2 ^ 63
  · rw [if_pos h1, Nat.div_eq_of_lt h1, show (y + 2 ^ 63) / 2 ^ 63 = 1 by omega]; rfl
  · rw [if_neg h1, Nat.div_eq_of_lt (by omega), show y / 2 ^ 63 = 1 by omega]; rfl
theorem sub_flip (x y : Nat) (h : y < 2 ^ 64) : D.sub x y = D.add x (flip y) := by
  unfold Format.sub Format.add
  congr 2
  rw [read_eq (flip y), read_eq y, rung_flip y h, sgn_flip y h]
  split
  · rfl
  · split <;> rfl
theorem add_nan {x y : Nat} (h : infR < rung x ∨ infR < rung y) : D.add x y = none := by
  unfold Format.add
  rcases h with h | h
  · rw [read_nan h]; rfl
  · rw [read_nan h]; cases D.read x <;> rfl
theorem add_infs {x y : Nat} (hx : rung x = infR) (hy : rung y = infR) (h : sgn x ≠ sgn y) : D.add x y = none := by
  unfold Format.add; rw [read_inf hx, read_inf hy]; simp only [Datum.sum, if_neg h]; rfl
theorem write_inf {x : Nat} (hl : x < 2 ^ 64) (hx : rung x = infR) : D.write (.infinity (sgn x)) = x := by
  show D.word (sgn x) D.infRung = x
  rw [D_inf, ← hx, word_of hl]
theorem add_inf_left {x y : Nat} (hl : x < 2 ^ 64) (hx : rung x = infR) (hy : rung y ≤ infR) (h : rung y = infR → sgn x = sgn y) : D.add x y = some x := by
  unfold Format.add
  rw [read_inf hx]
  by_cases hi : rung y = infR
  · rw [read_inf hi]; simp only [Datum.sum, if_pos (h hi), Option.map_some]; rw [write_inf hl hx]
  · rw [read_fin (by omega)]; simp only [Datum.sum, Option.map_some]; rw [write_inf hl hx]
theorem add_inf_right {x y : Nat} (hl : y < 2 ^ 64) (hx : rung x < infR) (hy : rung y = infR) : D.add x y = some y := by
  unfold Format.add
  rw [read_inf hy, read_fin hx]; simp only [Datum.sum, Option.map_some]; rw [write_inf hl hy]
theorem add_fin {x y : Nat} (hx : rung x < infR) (hy : rung y < infR) (e f : Nat) (he : e = plR (rung x)) (hf : f = plR (rung y)) (A B : Nat) (hA : A = magR (rung x) * 2 ^ (e - min e f)) (hB : B = magR (rung y) * 2 ^ (f - min e f)) :
    D.add x y = some (D.write (.number (if sv (sgn x) A + sv (sgn y) B = 0 then sgn x && sgn y else decide (sv (sgn x) A + sv (sgn y) B < 0)) (sv (sgn x) A + sv (sgn y) B).natAbs (-1074 + (min e f : Nat)))) := by
  unfold Format.add
  rw [read_fin hx, read_fin hy, ← he, ← hf]
  simp only [Datum.sum, Option.map_some, signed_eq]
  rw [show min (-1074 + (e : Int)) (-1074 + (f : Int)) = -1074 + ((min e f : Nat) : Int) by omega]
  rw [show (-1074 + (e : Int) - (-1074 + ((min e f : Nat) : Int))).toNat = e - min e f by omega, show (-1074 + (f : Int) - (-1074 + ((min e f : Nat) : Int))).toNat = f - min e f by omega, ← hA, ← hB]
theorem mul_nan {x y : Nat} (h : infR < rung x ∨ infR < rung y) : D.mul x y = none := by
  unfold Format.mul
  rcases h with h | h
  · rw [read_nan h]; rfl
  · rw [read_nan h]; cases D.read x <;> rfl
theorem mag_zero {r : Nat} : magR r = 0 ↔ r = 0 := by unfold magR; split <;> omega
theorem mul_inf0 {x y : Nat} (h : (rung x = infR ∧ rung y = 0) ∨ (rung x = 0 ∧ rung y = infR)) : D.mul x y = none := by
  have h0 : (0 : Nat) < infR := by decide
  unfold Format.mul
  rcases h with ⟨h1, h2⟩ | ⟨h1, h2⟩
  · rw [read_inf h1, read_fin (by omega)]
    simp only [Datum.product, mag_zero.2 h2, if_true]; rfl
  · rw [read_fin (by omega), read_inf h2]
    simp only [Datum.product, mag_zero.2 h1, if_true]; rfl
theorem mul_inf {x y : Nat} (h1 : rung x ≤ infR) (h2 : rung y ≤ infR) (h : rung x = infR ∨ rung y = infR) (hx : rung x ≠ 0) (hy : rung y ≠ 0) : D.mul x y = some (D.word (sgn x ^^ sgn y) infR) := by
  unfold Format.mul
  by_cases c1 : rung x = infR
  · rw [read_inf c1]
    by_cases c2 : rung y = infR
    · rw [read_inf c2]; simp only [Datum.product, Option.map_some, Format.write, D_inf]
    · rw [read_fin (by omega)]
      have : magR (rung y) ≠ 0 := fun h => hy (mag_zero.1 h)
      simp only [Datum.product, if_neg this, Option.map_some, Format.write, D_inf]
  · have c2 : rung y = infR := by rcases h with h | h; exact absurd h c1; exact h
    rw [read_fin (by omega), read_inf c2]
    have : magR (rung x) ≠ 0 := fun h => hx (mag_zero.1 h)
    simp only [Datum.product, if_neg this, Option.map_some, Format.write, D_inf]
    rw [Bool.xor_comm]
theorem mul_fin {x y : Nat} (hx : rung x < infR) (hy : rung y < infR) : D.mul x y = some (D.nearest (sgn x ^^ sgn y) (magR (rung x) * magR (rung y)) ((-1074 + (plR (rung x) : Int)) + (-1074 + (plR (rung y) : Int)))) := by
  unfold Format.mul
  rw [read_fin hx, read_fin hy]
  rfl
theorem round_big (s : Bool) (n : Nat) (hn : 1100 ≤ (dg n).length) : roundF s n 0 false = D.word s infR := by
  have h0 : n ≠ 0 := by rintro rfl; rw [dg_zero] at hn; simp at hn
  have hl : rlow n 0 = ((dg n).length : Int) - 53 := by unfold rlow; omega
  have hk := rk0_ge (e := 0) h0 (by omega)
  have hk1 : rk0 n 0 ≤ rk1 false n 0 := by unfold rk1; omega
  rw [round_inf h0 (by omega) (Or.inl (by omega))]
  unfold Format.word
  rw [D_sw]
  unfold infR
  cases s <;> simp
/-! ### the sticky digit -/
theorem rne_between (u c w a : Nat) (hc : 0 < c) (h1 : u * (2 * w) < a) (h2 : a < (u + 1) * (2 * w)) : rne a (4 * c * w) = u / (2 * c) + (if c ≤ u % (2 * c) then 1 else 0) := by
  obtain ⟨δ, rfl⟩ : ∃ δ, a = u * (2 * w) + δ := ⟨a - u * (2 * w), by omega⟩
  have hw : 0 < w := by
    rcases Nat.eq_zero_or_pos w with h | h
    · subst h; simp at h2
    · exact h
  have hδ : δ < 2 * w := by rw [Nat.add_mul, Nat.one_mul] at h2; omega
  have hG : 4 * c * w = (2 * c) * (2 * w) := by rw [Nat.mul_mul_mul_comm, Nat.mul_assoc]
  have hu := Nat.div_add_mod u (2 * c)
  have hm := Nat.mod_lt u (show 0 < 2 * c by omega)
  generalize u / (2 * c) = Q at *
  generalize u % (2 * c) = r at *
  have e : u * (2 * w) + δ = (4 * c * w) * Q + (r * (2 * w) + δ) := by rw [hG, ← hu, Nat.add_mul, Nat.mul_right_comm (2 * c) Q, Nat.add_assoc]
  have hr : r * (2 * w) + δ < 4 * c * w := by
    rw [hG]
    have : (r + 1) * (2 * w) ≤ 2 * c * (2 * w) := Nat.mul_le_mul_right _ hm
    rw [Nat.add_mul, Nat.one_mul] at this
    omega
  unfold rne
  rw [e, Nat.mul_add_div (by omega), Nat.mul_add_mod, Nat.div_eq_of_lt hr, Nat.mod_eq_of_lt hr, Nat.add_zero]
  congr 1
  have hG2 : 4 * c * w = 2 * (c * (2 * w)) := by rw [hG, Nat.mul_assoc]
  by_cases hcr : c ≤ r
  · have : c * (2 * w) ≤ r * (2 * w) := Nat.mul_le_mul_right _ hcr
    rw [if_pos hcr, if_pos (by omega)]
  · have : (r + 1) * (2 * w) ≤ c * (2 * w) := Nat.mul_le_mul_right _ (by omega)
    rw [Nat.add_mul, Nat.one_mul] at this
    rw [if_neg hcr, if_neg (by omega)]
theorem nearest_between (s : Bool) (q j a : Nat) (P : Int) (hq : 2 ^ 53 ≤ q) (h1 : q * (2 * 2 ^ j) < a) (h2 : a < (q + 1) * (2 * 2 ^ j)) : D.nearest s a P = D.nearest s ((2 * q + 1) * 2 ^ j) P := by
  have hq0 : q ≠ 0 := by omega
  have hj := Nat.two_pow_pos j
  have lg : ∀ b, q * (2 * 2 ^ j) < b → b < (q + 1) * (2 * 2 ^ j) → b.log2 = q.log2 + 1 + j := by
    intro b hb1 hb2
    have hb0 : b ≠ 0 := by omega
    refine (Nat.log2_eq_iff hb0).2 ⟨?_, ?_⟩
    · refine Nat.le_trans ?_ (Nat.le_of_lt hb1)
      have := Nat.log2_self_le hq0
      rw [show q.log2 + 1 + j = q.log2 + (1 + j) by omega, Nat.pow_add, Nat.pow_add]
      exact Nat.mul_le_mul_right _ this
    · refine Nat.lt_of_lt_of_le hb2 ?_
      have : q + 1 ≤ 2 ^ (q.log2 + 1) := Nat.lt_log2_self
      rw [show q.log2 + 1 + j + 1 = (q.log2 + 1) + (1 + j) by omega, Nat.pow_add 2 (q.log2 + 1), Nat.pow_add 2 1]
      exact Nat.mul_le_mul_right _ this
  have k1 : q * (2 * 2 ^ j) < (2 * q + 1) * 2 ^ j := by
    rw [Nat.add_mul, ← Nat.mul_assoc, Nat.mul_comm q 2]; omega
  have k2 : (2 * q + 1) * 2 ^ j < (q + 1) * (2 * 2 ^ j) := by
    rw [← Nat.mul_assoc]; exact Nat.mul_lt_mul_of_pos_right (by omega) hj
  rw [nearest_eq _ _ _ (by omega), nearest_eq _ _ _ (by omega), lg a h1 h2, lg _ k1 k2]
  have hl : 53 ≤ q.log2 := (Nat.le_log2 hq0).2 hq
  generalize hL : max (P + ((q.log2 + 1 + j : Nat) : Int) - 52) (-1074) = L
  have hLP : ((j + 2 : Nat) : Int) ≤ L - P := by omega
  rw [show (P - L).toNat = 0 by omega, Nat.pow_zero, Nat.mul_one, Nat.mul_one]
  obtain ⟨d, hd⟩ : ∃ d : Nat, (L - P).toNat = d + 2 + j := ⟨(L - P).toNat - (j + 2), by omega⟩
  rw [hd]
  have hG : 2 ^ (d + 2 + j) = 4 * 2 ^ d * 2 ^ j := by rw [Nat.pow_add, Nat.pow_add, Nat.mul_comm (2 ^ d)]
  rw [hG, rne_between q (2 ^ d) (2 ^ j) a (Nat.two_pow_pos d) h1 h2, rne_between q (2 ^ d) (2 ^ j) _ (Nat.two_pow_pos d) k1 k2]
/-- digits of a quotient, with one more that tells whether anything is left. -/
def stick (m n k : Nat) : Nat := 2 * (m * 2 ^ k / n) + (if m * 2 ^ k % n = 0 then 0 else 1)
theorem stick_more (s : Bool) (m n k j : Nat) (P : Int) (hn : 0 < n) (hq : 2 ^ 53 ≤ m * 2 ^ k / n) : D.nearest s (stick m n (k + j)) (P - j) = D.nearest s (stick m n k) P := by
  have hV0 : stick m n k ≠ 0 := by unfold stick; omega
  rw [← nearest_scale s (stick m n k) j P hV0]
  have hdm := Nat.div_add_mod (m * 2 ^ k) n
  have hr := Nat.mod_lt (m * 2 ^ k) hn
  have hpow : m * 2 ^ (k + j) = m * 2 ^ k * 2 ^ j := by rw [Nat.pow_add, Nat.mul_assoc]
  unfold stick
  rw [hpow]
  generalize m * 2 ^ k = M at *
  have hj := Nat.two_pow_pos j
  generalize hq' : M / n = q at *
  generalize hr' : M % n = r at *
  have hM : M * 2 ^ j = n * (q * 2 ^ j) + r * 2 ^ j := by rw [← hdm, Nat.add_mul, Nat.mul_assoc]
  have hq2 : M * 2 ^ j / n = q * 2 ^ j + r * 2 ^ j / n := by rw [hM, Nat.mul_add_div hn]
  have hr2 : M * 2 ^ j % n = r * 2 ^ j % n := by rw [hM, Nat.mul_add_mod]
  rw [hq2, hr2]
  by_cases h0 : r = 0
  · subst h0
    simp
    rw [Nat.mul_assoc]
  · rw [if_neg h0]
    have hlt : r * 2 ^ j / n < 2 ^ j := by rw [Nat.div_lt_iff_lt_mul hn, Nat.mul_comm]; exact Nat.mul_lt_mul_of_pos_left hr hj
    have e3 : q * (2 * 2 ^ j) = 2 * (q * 2 ^ j) := by rw [Nat.mul_left_comm]
    have e4 : (q + 1) * (2 * 2 ^ j) = 2 * (q * 2 ^ j) + 2 * 2 ^ j := by rw [Nat.add_mul, e3, Nat.one_mul]
    refine nearest_between s q j _ _ hq ?_ ?_
    · rw [e3]
      by_cases hz : r * 2 ^ j / n = 0
      · have : r * 2 ^ j < n := by
          rcases Nat.lt_or_ge (r * 2 ^ j) n with h | h
          · exact h
          · have := Nat.div_pos h hn; omega
        have hne : r * 2 ^ j % n ≠ 0 := by
          rw [Nat.mod_eq_of_lt this]
          have := Nat.mul_pos (Nat.pos_of_ne_zero h0) hj
          omega
        rw [if_neg hne]
        generalize r * 2 ^ j / n = z at *
        generalize q * 2 ^ j = y at *
        omega
      · generalize r * 2 ^ j / n = z at *
        generalize q * 2 ^ j = y at *
        omega
    · rw [e4]
      generalize r * 2 ^ j / n = z at *
      generalize q * 2 ^ j = y at *
      generalize 2 ^ j = x at *
      split <;> omega
theorem div_nan {x y : Nat} (h : infR < rung x ∨ infR < rung y) : D.div x y = none := by
  unfold Format.div
  rcases h with h | h
  · rw [read_nan h]; rfl
  · rw [read_nan h]; cases D.read x <;> rfl
theorem div_infs {x y : Nat} (hx : rung x = infR) (hy : rung y = infR) : D.div x y = none := by
  unfold Format.div; rw [read_inf hx, read_inf hy]; rfl
theorem div_zeros {x y : Nat} (hx : rung x = 0) (hy : rung y = 0) : D.div x y = none := by
  have h0 : (0 : Nat) < infR := by decide
  unfold Format.div; rw [read_fin (by omega), read_fin (by omega)]
  simp only [Datum.quotient, mag_zero.2 hx, mag_zero.2 hy, if_true]; rfl
theorem div_inf_num {x y : Nat} (hx : rung x = infR) (hy : rung y < infR) : D.div x y = some (D.word (sgn x ^^ sgn y) infR) := by
  unfold Format.div; rw [read_inf hx, read_fin hy]
  simp only [Datum.quotient, Option.map_some, Format.write, D_inf]
theorem div_num_zero {x y : Nat} (hx : rung x < infR) (hx0 : rung x ≠ 0) (hy : rung y = 0) : D.div x y = some (D.word (sgn x ^^ sgn y) infR) := by
  have h0 : (0 : Nat) < infR := by decide
  have : magR (rung x) ≠ 0 := fun h => hx0 (mag_zero.1 h)
  unfold Format.div; rw [read_fin hx, read_fin (by omega)]
  simp only [Datum.quotient, mag_zero.2 hy, if_true, if_neg this, Option.map_some, Format.write, D_inf]
theorem div_num_inf {x y : Nat} (hx : rung x < infR) (hy : rung y = infR) : D.div x y = some (D.word (sgn x ^^ sgn y) 0) := by
  unfold Format.div; rw [read_fin hx, read_inf hy]
  simp only [Datum.quotient, Option.map_some, Format.write, nearest_zero]
theorem div_zero_num {x y : Nat} (hx : rung x = 0) (hy : rung y < infR) (hy0 : rung y ≠ 0) : D.div x y = some (D.word (sgn x ^^ sgn y) 0) := by
  have h0 : (0 : Nat) < infR := by decide
  have : magR (rung y) ≠ 0 := fun h => hy0 (mag_zero.1 h)
  unfold Format.div; rw [read_fin (by omega), read_fin hy]
  simp only [Datum.quotient, if_neg this, mag_zero.2 hx, Nat.zero_shiftLeft, Nat.zero_div, Nat.zero_mod, Option.map_some, Format.write]
  have e : 2 * 0 + ((0 : Nat) != 0).toNat = 0 := by decide
  rw [e, nearest_zero]
theorem div_fin {x y : Nat} (hx : rung x < infR) (hx0 : rung x ≠ 0) (hy : rung y < infR) (hy0 : rung y ≠ 0) :
    D.div x y = some (D.nearest (sgn x ^^ sgn y) (stick (magR (rung x)) (magR (rung y)) 120) ((-1074 + (plR (rung x) : Int)) - (-1074 + (plR (rung y) : Int)) - 120 - 1)) := by
  have hm : magR (rung x) ≠ 0 := fun h => hx0 (mag_zero.1 h)
  have hn : magR (rung y) ≠ 0 := fun h => hy0 (mag_zero.1 h)
  have lm := mag_lt (rung x)
  have ln := mag_lt (rung y)
  unfold Format.div; rw [read_fin hx, read_fin hy]
  generalize magR (rung x) = m at *
  generalize magR (rung y) = n at *
  generalize -1074 + (plR (rung x) : Int) = i
  generalize -1074 + (plR (rung y) : Int) = j
  simp only [Datum.quotient, if_neg hn, Option.map_some, Format.write, D_fb]
  congr 1
  have l1 : m.log2 ≤ 52 := by have := (Nat.log2_lt hm).2 lm; omega
  have l2 : n.log2 ≤ 52 := by have := (Nat.log2_lt hn).2 ln; omega
  obtain ⟨k, hk⟩ : ∃ k, 52 + 2 + n.log2 - m.log2 = k := ⟨_, rfl⟩
  rw [hk]
  have e1 : 2 * (m <<< k / n) + (m <<< k % n != 0).toNat = stick m n k := by
    unfold stick
    rw [Nat.shiftLeft_eq]
    congr 1
    by_cases h : m * 2 ^ k % n = 0
    · rw [if_pos h, h]; rfl
    · have : (m * 2 ^ k % n != 0) = true := by simpa using h
      rw [if_neg h, this]; rfl
  rw [e1]
  have hq : 2 ^ 53 ≤ m * 2 ^ k / n := by
    rw [Nat.le_div_iff_mul_le (by omega)]
    have h1 := Nat.log2_self_le hm
    have h2 : n < 2 ^ (n.log2 + 1) := Nat.lt_log2_self
    refine Nat.le_trans (Nat.mul_le_mul_left _ (Nat.le_of_lt h2)) ?_
    refine Nat.le_trans ?_ (Nat.mul_le_mul_right _ h1)
    rw [← Nat.pow_add, ← Nat.pow_add]
    exact Nat.pow_le_pow_right (by decide) (by omega)
  have := stick_more (sgn x ^^ sgn y) m n k (120 - k) (i - j - k - 1) (by omega) hq
  rw [← this, show k + (120 - k) = 120 by omega]
  congr 1
  omega
theorem roundF_stick (s : Bool) (m n : Nat) (p : Int) (hm : m ≠ 0) (hn : n ≠ 0) (ln : n < 2 ^ 53) : roundF s (m * 2 ^ 120 / n) p (decide (0 < m * 2 ^ 120 % n)) = D.nearest s (stick m n 120) (p - 1) := by
  have hq : 2 ^ 60 ≤ m * 2 ^ 120 / n := by
    rw [Nat.le_div_iff_mul_le (by omega)]
    refine Nat.le_trans (Nat.mul_le_mul_left _ (Nat.le_of_lt ln)) ?_
    rw [← Nat.pow_add]
    refine Nat.le_trans (Nat.pow_le_pow_right (by decide) (by decide : 60 + 53 ≤ 120)) ?_
    exact Nat.le_mul_of_pos_left _ (Nat.pos_of_ne_zero hm)
  unfold stick
  generalize m * 2 ^ 120 / n = q at *
  by_cases h : m * 2 ^ 120 % n = 0
  · rw [if_pos h, h, show decide (0 < 0) = false by decide, roundF_nearest]
    have := nearest_scale s q 1 p (by omega)
    rw [← this, Nat.pow_one, Nat.mul_comm, Nat.add_zero]
    rfl
  · rw [if_neg h, decide_eq_true (Nat.pos_of_ne_zero h)]
    refine roundF_sticky s q p ?_
    have h0 : q ≠ 0 := by omega
    rw [dg_len h0]
    have := (Nat.le_log2 h0).2 hq
    omega
end Fl
