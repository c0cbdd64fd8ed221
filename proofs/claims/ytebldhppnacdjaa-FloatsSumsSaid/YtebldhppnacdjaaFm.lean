/- Plain facts on the words of IEEE 754: their order, their sums and products, rounding; no program in sight. -/
import Ieee.Arith
namespace Fl
open Ieee
abbrev D := Ieee.double
def infR : Nat := 9218868437227405312
theorem D_binade : D.binade = 2 ^ 52 := rfl
theorem D_inf : D.infRung = infR := by decide
theorem D_sw : D.signWeight = 2 ^ 63 := rfl
theorem D_lp : D.leastPlace = -1074 := by decide
theorem D_fb : D.fractionBits = 52 := rfl

def sgn (n : Nat) : Bool := n / 2 ^ 63 % 2 == 1
def rung (n : Nat) : Nat := n % 2 ^ 63
def magR (r : Nat) : Nat := if r < 2 ^ 52 then r else 2 ^ 52 + r % 2 ^ 52
def plR (r : Nat) : Nat := if r < 2 ^ 52 then 0 else r / 2 ^ 52 - 1
theorem read_eq (n : Nat) : D.read n = if rung n < infR then .number (sgn n) (magR (rung n)) (-1074 + (plR (rung n) : Int)) else if rung n = infR then .infinity (sgn n) else .nan (sgn n) (rung n - infR) := by
  unfold Format.read
  simp only [D_binade, D_inf, D_sw, D_lp]
  unfold sgn rung magR plR
  by_cases h : n % 2 ^ 63 < 2 ^ 52
  · have : n % 2 ^ 63 < infR := by unfold infR; omega
    simp [h, this]
  · simp only [if_neg h]

def val (r : Nat) : Nat := magR r * 2 ^ plR r

theorem val_lt {r k : Nat} (h : r < infR) (hk : 2099 ≤ k) : val r < 2 ^ k := by
  unfold val magR plR
  split
  · have : (2 : Nat) ^ 52 < 2 ^ k := Nat.pow_lt_pow_right (by decide) (by omega)
    simp; omega
  · have h1 : 2 ^ 52 + r % 2 ^ 52 < 2 ^ 53 := by omega
    have h2 : r / 2 ^ 52 - 1 ≤ 2046 := by unfold infR at h; omega
    generalize r / 2 ^ 52 - 1 = e at *
    refine Nat.lt_of_lt_of_le (Nat.mul_lt_mul_of_pos_right h1 (Nat.two_pow_pos _)) ?_
    rw [← Nat.pow_add]; exact Nat.pow_le_pow_right (by decide) (by omega)

theorem val_succ_lt (r : Nat) : val r < val (r + 1) := by
  unfold val magR plR
  by_cases h : r < 2 ^ 52
  · by_cases h' : r + 1 < 2 ^ 52
    · simp [h, h']
    · have : r + 1 = 2 ^ 52 := by omega
      simp [h, this]
  · rw [if_neg h, if_neg h, if_neg (by omega), if_neg (by omega)]
    by_cases hc : r % 2 ^ 52 + 1 < 2 ^ 52
    · rw [show (r + 1) / 2 ^ 52 = r / 2 ^ 52 by omega, show (r + 1) % 2 ^ 52 = r % 2 ^ 52 + 1 by omega]
      exact Nat.mul_lt_mul_of_pos_right (by omega) (Nat.two_pow_pos _)
    · rw [show (r + 1) / 2 ^ 52 - 1 = (r / 2 ^ 52 - 1) + 1 by omega, show (r + 1) % 2 ^ 52 = 0 by omega]
      generalize r / 2 ^ 52 - 1 = e
      have : (2 : Nat) ^ (e + 1) = 2 * 2 ^ e := by rw [Nat.pow_succ]; omega
      rw [this, ← Nat.mul_assoc]
      exact Nat.mul_lt_mul_of_pos_right (by omega) (Nat.two_pow_pos _)

theorem val_mono {a b : Nat} (h : a < b) : val a < val b := by
  induction b with
  | zero => omega
  | succ b ih =>
    by_cases e : a = b
    · subst e; exact val_succ_lt a
    · exact Nat.lt_trans (ih (by omega)) (val_succ_lt b)
theorem val_zero : val 0 = 0 := by decide
theorem val_inj {a b : Nat} (h : val a = val b) : a = b := by
  rcases Nat.lt_trichotomy a b with h1 | h1 | h1
  · have := val_mono h1; omega
  · exact h1
  · have := val_mono h1; omega

def E3000 : Nat := 4074
def big : Int := 2 ^ E3000
def nan (n : Nat) : Bool := decide (infR < rung n)
def sv (s : Bool) (v : Int) : Int := if s then -v else v
/-- what a word that is no NaN stands for, as a multiple of the least number; an infinity: beyond all. -/
def ev (n : Nat) : Int := sv (sgn n) (if rung n < infR then (val (rung n) : Int) else big)

theorem signed_eq (s : Bool) (m k : Nat) : signed s m k = sv s ((m * 2 ^ k : Nat) : Int) := by
  unfold signed sv; rw [Nat.shiftLeft_eq]

theorem cmp_scale (a b c : Int) (hp : 0 < c) : compare (a * c) (b * c) = compare a b := by
  have h1 : (a * c < b * c) ↔ a < b := Int.mul_lt_mul_right hp
  have h2 : (a * c = b * c) ↔ a = b := Int.mul_eq_mul_right_iff (by omega)
  simp only [compare, compareOfLessAndEq, h1, h2]

theorem sv_mul (s : Bool) (a : Int) (k : Int) : sv s (a * k) = sv s a * k := by
  unfold sv; split
  · rw [Int.neg_mul]
  · rfl
theorem sv_up (s : Bool) (m : Nat) (i k : Nat) (h : k ≤ i) : sv s ((m * 2 ^ i : Nat) : Int) = sv s ((m * 2 ^ (i - k) : Nat) : Int) * ((2 ^ k : Nat) : Int) := by
  rw [← sv_mul, ← Int.natCast_mul, Nat.mul_assoc, ← Nat.pow_add, Nat.sub_add_cancel h]

theorem order_num (s t : Bool) (m n : Nat) (i j : Nat) :
    Datum.order (.number s m (-1074 + (i : Int))) (.number t n (-1074 + (j : Int))) = some (compare (sv s ((m * 2 ^ i : Nat) : Int)) (sv t ((n * 2 ^ j : Nat) : Int))) := by
  unfold Datum.order
  simp only [signed_eq]
  congr 1
  have hi : (-1074 + (i : Int) - min (-1074 + (i : Int)) (-1074 + (j : Int))).toNat = i - min i j := by omega
  have hj : (-1074 + (j : Int) - min (-1074 + (i : Int)) (-1074 + (j : Int))).toNat = j - min i j := by omega
  rw [hi, hj, sv_up s m i (min i j) (Nat.min_le_left _ _), sv_up t n j (min i j) (Nat.min_le_right _ _)]
  rw [cmp_scale]
  exact_mod_cast Nat.two_pow_pos _
theorem val_lt_big {r : Nat} (h : r < infR) : (val r : Int) < big := by
  have h1 := val_lt (k := E3000) h (by unfold E3000; omega)
  unfold big
  generalize E3000 = e at *
  exact_mod_cast h1
theorem ev_fin {n : Nat} (h : rung n < infR) : ev n = sv (sgn n) (val (rung n) : Int) := by unfold ev; rw [if_pos h]
theorem ev_inf {n : Nat} (h : rung n = infR) : ev n = sv (sgn n) big := by unfold ev; rw [if_neg (by omega)]
theorem order_ev {n m : Nat} (hn : rung n ≤ infR) (hm : rung m ≤ infR) : D.order n m = some (compare (ev n) (ev m)) := by
  unfold Format.order
  have hb : 0 < big := by unfold big; exact Int.pow_pos (by decide)
  rw [read_eq, read_eq]
  by_cases h1 : rung n < infR <;> by_cases h2 : rung m < infR
  · rw [if_pos h1, if_pos h2, order_num, ev_fin h1, ev_fin h2]; rfl
  · have e2 : rung m = infR := by omega
    have hv := val_lt_big h1
    rw [if_pos h1, if_neg h2, if_pos e2, ev_fin h1, ev_inf e2]
    simp only [Datum.order]
    congr 1
    simp only [compare, compareOfLessAndEq]
    unfold sv
    cases sgn n <;> cases sgn m <;> simp <;> (repeat' split) <;> first | rfl | omega
  · have e1 : rung n = infR := by omega
    have hv := val_lt_big h2
    rw [if_neg h1, if_pos e1, if_pos h2, ev_fin h2, ev_inf e1]
    simp only [Datum.order]
    congr 1
    simp only [compare, compareOfLessAndEq]
    unfold sv
    cases sgn n <;> cases sgn m <;> simp <;> (repeat' split) <;> first | rfl | omega
  · have e1 : rung n = infR := by omega
    have e2 : rung m = infR := by omega
    rw [if_neg h1, if_pos e1, if_neg h2, if_pos e2, ev_inf e1, ev_inf e2]
    simp only [Datum.order]
    congr 1
    simp only [compare, compareOfLessAndEq]
    unfold sv
    cases sgn n <;> cases sgn m <;> simp <;> (repeat' split) <;> first | rfl | omega
theorem order_nan_left {n m : Nat} (hn : infR < rung n) : D.order n m = none := by
  unfold Format.order
  rw [read_eq n, if_neg (by omega), if_neg (by omega)]
  rfl
theorem order_nan_right {n m : Nat} (hn : infR < rung m) : D.order n m = none := by
  unfold Format.order
  rw [read_eq m, if_neg (by omega), if_neg (by omega)]
  cases D.read n <;> rfl
theorem order_self {n : Nat} : (D.order n n != some .eq) = nan n := by
  unfold nan
  by_cases h : infR < rung n
  · rw [order_nan_left h]; simp [h]
  · rw [order_ev (by omega) (by omega)]; simp [h, compare, compareOfLessAndEq]

/-! ### to the nearest -/
def rne (n g : Nat) : Nat := n / g + (if g < 2 * (n % g) ∨ (g = 2 * (n % g) ∧ n / g % 2 = 1) then 1 else 0)
theorem tells (a b c : Bool) : (a || (b && c)).toNat = if a = true ∨ (b = true ∧ c = true) then 1 else 0 := by cases a <;> cases b <;> cases c <;> rfl
theorem cut_even (s : Bool) (n d : Nat) : Toward.even.cut s n d = rne n (2 ^ d) := by
  unfold Toward.cut rne
  simp only [Nat.one_shiftLeft]
  have hl : n < 2 ^ (n.log2 + 1) := Nat.lt_log2_self
  simp only [tells, decide_eq_true_eq, beq_iff_eq]
  by_cases h : d ≤ n.log2 + 2
  · rw [Nat.min_eq_left h]
  · rw [Nat.min_eq_right (by omega)]
    have hp : (2 : Nat) ^ (n.log2 + 2) = 2 * 2 ^ (n.log2 + 1) := by rw [Nat.pow_succ]; omega
    have hq : (2 : Nat) ^ (n.log2 + 2) ≤ 2 ^ d := Nat.pow_le_pow_right (by decide) (by omega)
    generalize 2 ^ (n.log2 + 2) = g at *
    generalize 2 ^ d = g' at *
    generalize 2 ^ (n.log2 + 1) = g'' at *
    rw [Nat.div_eq_of_lt (show n < g by omega), Nat.mod_eq_of_lt (show n < g by omega), Nat.div_eq_of_lt (show n < g' by omega), Nat.mod_eq_of_lt (show n < g' by omega)]
    rw [if_neg (by omega), if_neg (by omega)]
theorem rne_scale (n g c : Nat) (hc : 0 < c) : rne (n * c) (g * c) = rne n g := by
  unfold rne
  rw [Nat.mul_div_mul_right _ _ hc, Nat.mul_mod_mul_right]
  have h1 : (g * c < 2 * (n % g * c)) ↔ g < 2 * (n % g) := by rw [← Nat.mul_assoc]; exact Nat.mul_lt_mul_right hc
  have h2 : (g * c = 2 * (n % g * c)) ↔ g = 2 * (n % g) := by rw [← Nat.mul_assoc]; exact Nat.mul_left_inj (by omega)
  simp only [h1, h2]
theorem rne_one (n : Nat) : rne n 1 = n := by unfold rne; simp; omega
theorem rne_exact (n g : Nat) (hg : 0 < g) : rne (n * g) g = n := by unfold rne; rw [Nat.mul_div_cancel _ hg, Nat.mul_mod_left]; simp; omega

theorem log2_mul_pow (m k : Nat) (h : m ≠ 0) : (m * 2 ^ k).log2 = m.log2 + k := by
  have hm : m * 2 ^ k ≠ 0 := Nat.mul_ne_zero h (by have := Nat.two_pow_pos k; omega)
  refine (Nat.log2_eq_iff hm).2 ⟨?_, ?_⟩
  · rw [Nat.pow_add]; exact Nat.mul_le_mul_right _ (Nat.log2_self_le h)
  · rw [show m.log2 + k + 1 = (m.log2 + 1) + k by omega, Nat.pow_add]; exact Nat.mul_lt_mul_of_pos_right Nat.lt_log2_self (Nat.two_pow_pos _)

/-- 'nearest', its last place laid open. -/
theorem nearest_eq (s : Bool) (m : Nat) (p : Int) (h : m ≠ 0) :
    D.nearest s m p = D.word s (min ((max (p + m.log2 - 52) (-1074) + 1074).toNat * 2 ^ 52 + rne (m * 2 ^ (p - max (p + m.log2 - 52) (-1074)).toNat) (2 ^ (max (p + m.log2 - 52) (-1074) - p).toNat)) infR) := by
  unfold Format.nearest
  rw [if_neg h]
  simp only [D_binade, D_inf, D_lp, D_fb, cut_even, Nat.shiftLeft_eq]
  rfl
theorem nearest_zero (s : Bool) (p : Int) : D.nearest s 0 p = D.word s 0 := by unfold Format.nearest; rw [if_pos rfl]
theorem rne_shift (m k a b : Nat) (x : Int) (ha : (a : Int) - b = x) (c d : Nat) (hc : (c : Int) - d = x + k) : rne (m * 2 ^ k * 2 ^ a) (2 ^ b) = rne (m * 2 ^ c) (2 ^ d) := by
  have e1 : m * 2 ^ k * 2 ^ a * 2 ^ d = m * 2 ^ c * 2 ^ b := by
    rw [Nat.mul_assoc, Nat.mul_assoc, ← Nat.pow_add, ← Nat.pow_add, Nat.mul_assoc, ← Nat.pow_add]; congr 2; omega
  rw [← rne_scale _ (2 ^ b) (2 ^ d) (Nat.two_pow_pos _), e1, ← rne_scale (m * 2 ^ c) (2 ^ d) (2 ^ b) (Nat.two_pow_pos _), Nat.mul_comm (2 ^ b)]
theorem nearest_scale (s : Bool) (m k : Nat) (p : Int) (h : m ≠ 0) : D.nearest s (m * 2 ^ k) (p - k) = D.nearest s m p := by
  have hm : m * 2 ^ k ≠ 0 := Nat.mul_ne_zero h (by have := Nat.two_pow_pos k; omega)
  rw [nearest_eq _ _ _ hm, nearest_eq _ _ _ h, log2_mul_pow _ _ h]
  have e : p - k + ((m.log2 + k : Nat) : Int) - 52 = p + m.log2 - 52 := by omega
  rw [e]
  generalize max (p + (m.log2 : Int) - 52) (-1074) = l
  congr 3
  exact rne_shift m k _ _ (p - k - l) (by omega) _ _ (by omega)
theorem log2_lt_of {m k : Nat} (h : m ≠ 0) (h1 : m < 2 ^ (k + 1)) (h2 : 2 ^ k ≤ m) : m.log2 = k := (Nat.log2_eq_iff h).2 ⟨h2, h1⟩
/-- a number that there is, is written as its own word. -/
theorem nearest_val (s : Bool) (r : Nat) (h0 : r ≠ 0) (h : r < infR) : D.nearest s (val r) (-1074) = D.word s r := by
  have e := nearest_scale s (magR r) (plR r) (-1074 + (plR r : Int)) (by unfold magR; split <;> omega)
  rw [show -1074 + (plR r : Int) - (plR r : Int) = -1074 by omega] at e
  unfold val
  rw [e, nearest_eq _ _ _ (by unfold magR; split <;> omega)]
  congr 1
  by_cases hr : r < 2 ^ 52
  · have e1 : magR r = r := by simp [magR, hr]
    have e2 : plR r = 0 := by simp [plR, hr]
    rw [e1, e2]
    have hl : r.log2 < 52 := (Nat.log2_lt h0).2 hr
    rw [show max (-1074 + ((0 : Nat) : Int) + (r.log2 : Int) - 52) (-1074) = -1074 by omega]
    simp only [Int.reduceAdd, Int.reduceNeg, Int.toNat_zero, Nat.zero_mul, Nat.zero_add, Int.natCast_zero, Int.add_zero, Int.sub_self, Nat.pow_zero, Nat.mul_one, rne_one]
    omega
  · have e1 : magR r = 2 ^ 52 + r % 2 ^ 52 := by simp [magR, hr]
    have e2 : plR r = r / 2 ^ 52 - 1 := by simp [plR, hr]
    have hl : (magR r).log2 = 52 := log2_lt_of (by omega) (by omega) (by omega)
    rw [hl]
    rw [show max (-1074 + (plR r : Int) + ((52 : Nat) : Int) - 52) (-1074) = -1074 + (plR r : Int) by omega]
    rw [show -1074 + (plR r : Int) - (-1074 + (plR r : Int)) = 0 by omega, show -1074 + (plR r : Int) + 1074 = (plR r : Int) by omega]
    simp only [Int.toNat_zero, Nat.pow_zero, Nat.mul_one, rne_one, Int.toNat_natCast]
    omega
theorem word_of {n : Nat} (h : n < 2 ^ 64) : D.word (sgn n) (rung n) = n := by
  unfold Format.word sgn rung
  rw [D_sw]
  by_cases h1 : n / 2 ^ 63 % 2 = 1
  · simp only [h1, beq_self_eq_true, if_true]; omega
  · rw [if_neg (by simpa using h1)]; omega
/-! ### words without a NaN but one -/
def NONE : Nat := 9221120237041090561
def canon (n : Nat) : Nat := if nan n then NONE else n
theorem rung_NONE : rung NONE = 9221120237041090561 := by decide
theorem nan_NONE : nan NONE = true := by decide
theorem canon_canon (n : Nat) : canon (canon n) = canon n := by
  unfold canon
  by_cases h : nan n = true
  · rw [if_pos h, if_pos nan_NONE]
  · rw [if_neg h, if_neg h]
theorem canon_lt {n : Nat} (h : n < 2 ^ 64) : canon n < 2 ^ 64 := by unfold canon; split; decide; exact h
theorem canon_nan {n : Nat} (h : nan n = true) : canon n = NONE := by unfold canon; rw [if_pos h]
theorem canon_num {n : Nat} (h : nan n = false) : canon n = n := by unfold canon; rw [if_neg (by simp [h])]
/-- what comes of an operation: none: a NaN. -/
def res : Option Nat → Nat
  | some r => canon r
  | none => NONE
theorem canon_res (o : Option Nat) : canon (res o) = res o := by
  cases o with
  | none => rfl
  | some r => exact canon_canon r

theorem sum_comm (d e : Datum) : d.sum e = e.sum d := by
  cases d with
  | number s m i => cases e with
    | number t n j =>
      simp only [Datum.sum]
      rw [Int.min_comm i j, Int.add_comm, Bool.and_comm s t]
    | infinity t => rfl
    | nan t f => rfl
  | infinity s => cases e with
    | number t n j => rfl
    | infinity t =>
      simp only [Datum.sum]
      by_cases h : s = t
      · subst h; rfl
      · rw [if_neg h, if_neg (Ne.symm h)]
    | nan t f => rfl
  | nan s f => cases e <;> rfl
theorem product_comm (d e : Datum) : d.product e = e.product d := by
  cases d with
  | number s m i => cases e with
    | number t n j => simp only [Datum.product]; rw [Nat.mul_comm, Int.add_comm, Bool.xor_comm]
    | infinity t => rfl
    | nan t f => rfl
  | infinity s => cases e with
    | number t n j => rfl
    | infinity t => simp only [Datum.product]; rw [Bool.xor_comm]
    | nan t f => rfl
  | nan s f => cases e <;> rfl
theorem add_comm (x y : Nat) : D.add x y = D.add y x := by unfold Format.add; rw [sum_comm]
theorem mul_comm (x y : Nat) : D.mul x y = D.mul y x := by unfold Format.mul; rw [product_comm]

theorem read_fin {n : Nat} (h : rung n < infR) : D.read n = .number (sgn n) (magR (rung n)) (-1074 + (plR (rung n) : Int)) := by rw [read_eq, if_pos h]
theorem read_inf {n : Nat} (h : rung n = infR) : D.read n = .infinity (sgn n) := by rw [read_eq, if_neg (by omega), if_pos h]
theorem read_nan {n : Nat} (h : infR < rung n) : D.read n = .nan (sgn n) (rung n - infR) := by rw [read_eq, if_neg (by omega), if_neg (by omega)]

theorem sub_nan {n : Nat} (h : infR < rung n) : D.sub n n = none := by unfold Format.sub; rw [read_nan h]; rfl
theorem sub_inf {n : Nat} (h : rung n = infR) : D.sub n n = none := by
  unfold Format.sub; rw [read_inf h]; cases sgn n <;> rfl
theorem sub_fin {n : Nat} (h : rung n < infR) : D.sub n n = some 0 := by
  unfold Format.sub; rw [read_fin h]
  simp only [Datum.opposite, Datum.sum, Int.min_self, Int.sub_self, Option.map_some, Int.toNat_zero]
  have e : signed (sgn n) (magR (rung n)) 0 + signed (!sgn n) (magR (rung n)) 0 = 0 := by
    unfold signed; cases sgn n <;> simp <;> omega
  rw [e]
  simp only [if_true, Int.natAbs_zero, Format.write, nearest_zero]
  cases sgn n <;> rfl
theorem add_inf {n : Nat} (hn : n < 2 ^ 64) (h : rung n = infR) : D.add n 0 = some n := by
  unfold Format.add; rw [read_inf h, read_fin (show rung 0 < infR by decide)]
  simp only [Datum.sum, Option.map_some, Format.write, D_inf]
  rw [← h, word_of hn]
theorem add_zero {n : Nat} (hn : n < 2 ^ 64) (h : rung n < infR) : D.add n 0 = some (if rung n = 0 then 0 else n) := by
  unfold Format.add; rw [read_fin h, read_fin (show rung 0 < infR by decide)]
  have r0 : rung 0 = 0 := by decide
  have p0 : plR 0 = 0 := by decide
  have m0 : magR 0 = 0 := by decide
  have s0 : sgn 0 = false := by decide
  rw [r0, p0, m0, s0]
  simp only [Datum.sum, Option.map_some, signed_eq]
  have e1 : min (-1074 + (plR (rung n) : Int)) (-1074 + ((0 : Nat) : Int)) = -1074 := by omega
  rw [e1, show (-1074 + (plR (rung n) : Int) - -1074).toNat = plR (rung n) by omega]
  have e2 : magR (rung n) * 2 ^ plR (rung n) = val (rung n) := rfl
  rw [e2]
  have e3 : sv false ((0 * 2 ^ (-1074 + ((0 : Nat) : Int) - -1074).toNat : Nat) : Int) = 0 := by simp [sv]
  rw [e3, Int.add_zero]
  by_cases hz : rung n = 0
  · rw [if_pos hz, hz, val_zero]
    have : sv (sgn n) ((0 : Nat) : Int) = 0 := by unfold sv; cases sgn n <;> rfl
    rw [this]
    simp only [if_true, Int.natAbs_zero, Format.write, nearest_zero]
    cases sgn n <;> rfl
  · rw [if_neg hz]
    have hv : val (rung n) ≠ 0 := fun he => hz (val_inj (by rw [he, val_zero]))
    have hp : (0 : Int) < (val (rung n) : Int) := by omega
    generalize hV : (val (rung n) : Int) = v at *
    have h1 : sv (sgn n) v ≠ 0 := by unfold sv; split <;> omega
    have h2 : (decide (sv (sgn n) v < 0)) = sgn n := by unfold sv; cases sgn n <;> simp <;> omega
    have h3 : (sv (sgn n) v).natAbs = val (rung n) := by unfold sv; split <;> omega
    rw [if_neg h1, h2, h3]
    simp only [Format.write]
    rw [nearest_val _ _ hz h, word_of hn]
def ONE : Nat := 4607182418800017408
theorem mul_one {n : Nat} (hn : n < 2 ^ 64) (h : rung n < infR) : D.mul n ONE = some n := by
  unfold Format.mul; rw [read_fin h, read_fin (show rung ONE < infR by decide)]
  have p0 : plR (rung ONE) = 1022 := by decide
  have m0 : magR (rung ONE) = 2 ^ 52 := by decide
  have s0 : sgn ONE = false := by decide
  rw [p0, m0, s0]
  simp only [Datum.product, Option.map_some, Format.write, Bool.bne_false]
  congr 1
  rw [show -1074 + (plR (rung n) : Int) + (-1074 + ((1022 : Nat) : Int)) = -1074 + (plR (rung n) : Int) - ((52 : Nat) : Int) by omega]
  by_cases hz : rung n = 0
  · have e1 : magR (rung n) = 0 := by rw [hz]; decide
    rw [e1, Nat.zero_mul, nearest_zero]
    have := word_of hn
    rw [hz] at this
    exact this
  · have hm : magR (rung n) ≠ 0 := by unfold magR; split <;> omega
    rw [nearest_scale _ _ _ _ hm]
    have e := nearest_scale (sgn n) (magR (rung n)) (plR (rung n)) (-1074 + (plR (rung n) : Int)) hm
    rw [show -1074 + (plR (rung n) : Int) - (plR (rung n) : Int) = -1074 by omega] at e
    rw [← e]
    have e2 : magR (rung n) * 2 ^ plR (rung n) = val (rung n) := rfl
    rw [e2, nearest_val _ _ hz h, word_of hn]
theorem whole_one : D.write (.number false 1 0) = ONE := by decide
/-! ### kinds -/
def kindF (n : Nat) : Int := if nan n then 4 else if rung n = infR then 3 else if rung n = 0 then 0 else if rung n < 2 ^ 52 then 1 else 2
theorem rung_lt (n : Nat) : rung n < 2 ^ 63 := Nat.mod_lt _ (by decide)
theorem rung_le_of {n : Nat} (h : nan n = false) : rung n ≤ infR := by unfold nan at h; simpa using h
theorem rung_rung (n : Nat) : rung (rung n) = rung n := by unfold rung; omega
theorem sgn_rung (n : Nat) : sgn (rung n) = false := by unfold sgn rung; rw [Nat.div_eq_of_lt (Nat.mod_lt _ (by decide))]; rfl
theorem cmp_lt {a b : Int} : (some (compare a b) == some Ordering.lt) = decide (a < b) := by
  simp only [compare, compareOfLessAndEq]; split
  · simp [*]
  · split <;> simp [*]
theorem cmp_eq {a b : Int} : (some (compare a b) == some Ordering.eq) = decide (a = b) := by
  simp only [compare, compareOfLessAndEq]; split
  · have : a ≠ b := by omega
    simp [this]
  · split <;> simp [*]
theorem cmp_gt {a b : Int} : (some (compare a b) == some Ordering.gt) = decide (b < a) := by
  simp only [compare, compareOfLessAndEq]; split
  · have : ¬ b < a := by omega
    simp [this]
  · split
    · have : ¬ b < a := by omega
      simp [this]
    · have : b < a := by omega
      simp [this]
theorem ev_rung {n : Nat} (h : rung n < infR) : ev (rung n) = (val (rung n) : Int) := by rw [ev_fin (by rw [rung_rung]; exact h), sgn_rung, rung_rung]; rfl
theorem ev_rung_inf {n : Nat} (h : rung n = infR) : ev (rung n) = big := by rw [ev_inf (by rw [rung_rung]; exact h), sgn_rung]; rfl
def MAXF : Nat := 9218868437227405311
theorem kind_inf {n : Nat} (h : nan n = false) : (D.order (rung n) MAXF == some .gt) = decide (rung n = infR) := by
  have hl := rung_le_of h
  have rm : rung MAXF = MAXF := by decide
  have hm : MAXF < infR := by decide
  rw [order_ev (by rw [rung_rung]; exact hl) (by rw [rm]; omega), cmp_gt]
  have em : ev MAXF = (val MAXF : Int) := by rw [← rm, ev_rung (by rw [rm]; exact hm)]
  rw [em]
  by_cases h1 : rung n = infR
  · rw [ev_rung_inf h1]; simp [h1, val_lt_big hm]
  · rw [ev_rung (by omega)]
    have : val (rung n) ≤ val MAXF := by
      rcases Nat.lt_or_ge (rung n) MAXF with h2 | h2
      · exact Nat.le_of_lt (val_mono h2)
      · rw [show rung n = MAXF by unfold infR at *; unfold MAXF at *; omega]; exact Nat.le_refl _
    simp only [h1, decide_false, decide_eq_false_iff_not]; omega
theorem ev_zero_iff {n : Nat} : ev n = 0 ↔ rung n = 0 := by
  have hb : (0 : Int) < big := by unfold big; exact Int.pow_pos (by decide)
  unfold ev
  by_cases h1 : rung n < infR
  · rw [if_pos h1]
    constructor
    · intro e
      have : val (rung n) = 0 := by unfold sv at e; split at e <;> omega
      exact val_inj (by rw [this, val_zero])
    · intro e; rw [e, val_zero]; unfold sv; split <;> rfl
  · rw [if_neg h1]
    constructor
    · intro e; unfold sv at e; split at e <;> omega
    · intro e; unfold infR at h1; omega
theorem kind_zero {n : Nat} (h : nan n = false) : (D.order n 0 == some .eq) = decide (rung n = 0) := by
  have hl := rung_le_of h
  rw [order_ev hl (by decide), cmp_eq, show ev 0 = 0 by decide]
  simp only [ev_zero_iff]
theorem kind_small {n : Nat} (h : nan n = false) (h' : rung n ≠ infR) : (D.order (rung n) 4503599627370496 == some .lt) = decide (rung n < 2 ^ 52) := by
  have hl := rung_le_of h
  have rm : rung 4503599627370496 = 2 ^ 52 := by decide
  rw [order_ev (by rw [rung_rung]; exact hl) (by decide), cmp_lt, ev_rung (by omega)]
  have em : ev 4503599627370496 = (val (2 ^ 52) : Int) := by decide
  rw [em]
  by_cases h1 : rung n < 2 ^ 52
  · have := val_mono h1
    simp only [h1, decide_true, decide_eq_true_eq]; omega
  · have : val (2 ^ 52) ≤ val (rung n) := by
      rcases Nat.lt_or_ge (2 ^ 52) (rung n) with h2 | h2
      · exact Nat.le_of_lt (val_mono h2)
      · rw [show rung n = 2 ^ 52 by omega]; exact Nat.le_refl _
    simp only [h1, decide_false, decide_eq_false_iff_not]; omega
end Fl
