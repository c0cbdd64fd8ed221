/- FloatsWhole: for any int64 and any word of 64 bits the law returns true; no condition. -/
import Derived.Test.YtebldhppnacdjaaFi
import Derived.Test.YtebldhppnacdjaaLw
import Derived.Deep.DeepCutAuto
import Derived.Deep.CutBlock
set_option linter.unusedVariables false
namespace Go.Proofs.Ytebldhppnacdjaa.floatsWhole
open Go.ChangeShapes Go.WideShapes Go.ChangeAt Go.RowKit
theorem own : ownKnob Try.prog.godebug = none := by kernel_rfl
theorem laidOut : laidOutB Try.prog = true := by kernel_rfl
def Ends (s i o : Bool) (p : Int) (d : Nat) (k e : Int) : Prop :=
  ((i = true ∨ (i = false ∧ o = true)) ∧ k = 0 ∧ e = 1) ∨
  (i = false ∧ o = false ∧ 11 < p ∧ k = 0 ∧ e = 1) ∨
  (i = false ∧ o = false ∧ p = 11 ∧ 4503599627370496 ≤ d ∧ d < 9007199254740992 ∧ s = false ∧ k = 0 ∧ e = 1) ∨
  (i = false ∧ o = false ∧ p = 11 ∧ 4503599627370496 < d ∧ d < 9007199254740992 ∧ s = true ∧ k = 0 ∧ e = 1) ∨
  (i = false ∧ o = false ∧ p = 11 ∧ d = 4503599627370496 ∧ s = true ∧ k = -9223372036854775808 ∧ e = 0) ∨
  (i = false ∧ o = false ∧ 0 ≤ p ∧ p < 11 ∧ d < 9007199254740992 ∧ k = Fl.sv s ((d * 2 ^ p.toNat : Nat) : Int) ∧ e = 0) ∨
  (i = false ∧ o = false ∧ -63 ≤ p ∧ p < 0 ∧ d < 9007199254740992 ∧ k = Fl.sv s ((d / 2 ^ (-p).toNat : Nat) : Int) ∧ e = 0) ∨
  (i = false ∧ o = false ∧ p < -63 ∧ k = 0 ∧ e = 0)
theorem ends_of (x : Nat) (hx : x < 2 ^ 64) (s i o : Bool) (p : Int) (d : Nat) (h : partsF x = (s, p, d, i, o)) : Ends s i o p d (cutF (Fl.canon x)).1 (cutF (Fl.canon x)).2 := by
  unfold Ends
  unfold partsF at h
  cases hn : Fl.nan x with
  | true =>
    rw [if_pos hn] at h
    simp only [Prod.mk.injEq] at h
    rw [Fl.canon_nan hn]
    left
    refine ⟨Or.inr ⟨h.2.2.2.1.symm, h.2.2.2.2.symm⟩, ?_⟩
    decide +kernel
  | false =>
    rw [if_neg (by simp [hn])] at h
    rw [Fl.canon_num hn]
    have hle := Fl.rung_le_of hn
    by_cases hi : Fl.rung x = Fl.infR
    · rw [if_pos hi] at h
      simp only [Prod.mk.injEq] at h
      left
      refine ⟨Or.inl h.2.2.2.1.symm, ?_⟩
      unfold cutF
      rw [if_neg (by omega)]
      exact ⟨rfl, rfl⟩
    · rw [if_neg hi] at h
      simp only [Prod.mk.injEq] at h
      obtain ⟨hs, hp, hd, hi', ho⟩ := h
      have hf : Fl.rung x < Fl.infR := by omega
      right
      have htr : Fl.trR (Fl.rung x) = Fl.val (Fl.rung x) / 2 ^ Fl.X1074 := rfl
      have hv : Fl.val (Fl.rung x) = d * 2 ^ Fl.plR (Fl.rung x) := by rw [← hd]; rfl
      have hdlt : d < 9007199254740992 := by rw [← hd]; exact Fl.mag_lt _
      have hnorm : Fl.plR (Fl.rung x) ≠ 0 → 4503599627370496 ≤ d := by
        intro h0
        rw [← hd]; unfold Fl.plR at h0; unfold Fl.magR
        by_cases hr : Fl.rung x < 2 ^ 52
        · rw [if_pos hr] at h0; exact absurd rfl h0
        · rw [if_neg hr]; omega
      unfold cutF
      rw [hs]
      simp only [hf, true_and]
      have hX := Fl.hX
      generalize Fl.plR (Fl.rung x) = pl at *
      generalize Fl.trR (Fl.rung x) = t at *
      have hcmp : ∀ m : Nat, 1074 ≤ pl → t = d * 2 ^ (pl - 1074) := by
        intro m h1
        rw [htr, hv]
        have : 2 ^ pl = 2 ^ (pl - 1074) * 2 ^ Fl.X1074 := by rw [← Nat.pow_add]; congr 1; omega
        rw [this, ← Nat.mul_assoc, Nat.mul_div_cancel _ (Nat.two_pow_pos _)]
      have hlow : pl < 1074 → t = d / 2 ^ (1074 - pl) := by
        intro h1
        rw [htr, hv]
        have : 2 ^ Fl.X1074 = 2 ^ (1074 - pl) * 2 ^ pl := by rw [← Nat.pow_add]; congr 1; omega
        rw [this, Nat.mul_div_mul_right _ _ (Nat.two_pow_pos _)]
      by_cases c1 : 11 < p
      · left
        have ht := hcmp 0 (by omega)
        have h1 : 2 ^ 12 ≤ 2 ^ (pl - 1074) := Nat.pow_le_pow_right (by decide) (by omega)
        have h2 : 4503599627370496 * 2 ^ 12 ≤ d * 2 ^ (pl - 1074) := Nat.mul_le_mul (hnorm (by omega)) h1
        rw [← ht] at h2
        rw [if_neg (by unfold Fl.sv; split <;> omega)]
        exact ⟨hi'.symm, ho.symm, c1, rfl, rfl⟩
      · right
        by_cases c2 : p = 11
        · have ht := hcmp 0 (by omega)
          rw [show pl - 1074 = 11 by omega] at ht
          have hd1 := hnorm (by omega)
          cases s with
          | false =>
            left
            rw [if_neg (by unfold Fl.sv; simp; omega)]
            exact ⟨hi'.symm, ho.symm, c2, hd1, hdlt, rfl, rfl, rfl⟩
          | true =>
            right
            by_cases c3 : d = 4503599627370496
            · right; left
              subst c3
              rw [ht, if_pos (by unfold Fl.sv; simp)]
              exact ⟨hi'.symm, ho.symm, c2, rfl, rfl, by unfold Fl.sv; simp, rfl⟩
            · left
              rw [if_neg (by unfold Fl.sv; simp; omega)]
              exact ⟨hi'.symm, ho.symm, c2, by omega, hdlt, rfl, rfl, rfl⟩
        · right; right; right
          by_cases c3 : 0 ≤ p
          · left
            have ht := hcmp 0 (by omega)
            rw [show pl - 1074 = p.toNat by omega] at ht
            have h1 : 2 ^ p.toNat ≤ 2 ^ 10 := Nat.pow_le_pow_right (by decide) (by omega)
            have h2 : t < 9223372036854775808 := by
              rw [ht]
              exact Nat.lt_of_lt_of_le (Nat.mul_lt_mul_of_pos_right hdlt (Nat.two_pow_pos _)) (Nat.le_trans (Nat.mul_le_mul_left _ h1) (by decide))
            rw [if_pos (by unfold Fl.sv; split <;> omega), ht]
            exact ⟨hi'.symm, ho.symm, c3, by omega, hdlt, rfl, rfl⟩
          · right
            have ht := hlow (by omega)
            have h2 : t ≤ d := by rw [ht]; exact Nat.div_le_self _ _
            rw [if_pos (by unfold Fl.sv; split <;> omega)]
            by_cases c4 : -63 ≤ p
            · left
              rw [show 1074 - pl = (-p).toNat by omega] at ht
              rw [ht]
              exact ⟨hi'.symm, ho.symm, c4, by omega, hdlt, rfl, rfl⟩
            · right
              have h3 : t = 0 := by
                rw [ht]
                exact Nat.div_eq_of_lt (Nat.lt_of_lt_of_le hdlt (Nat.le_trans (by decide : 9007199254740992 ≤ 2 ^ 63) (Nat.pow_le_pow_right (by decide) (by omega))))
              rw [h3]
              exact ⟨hi'.symm, ho.symm, by omega, by unfold Fl.sv; split <;> rfl, rfl⟩
set_option maxRecDepth 100000 in
set_option maxHeartbeats 2000000 in
theorem core (n : Int) (x m q R : Nat) (nb : Bool) (s i o : Bool) (p : Int) (d : Nat) (k e : Int) (hp1 : -2000 ≤ p) (hp2 : p ≤ 2000)
    (hq : IntKind.u64.wrap n = (q : Int)) (hm : n < 0 → IntKind.u64.wrap (-(q : Int)) = (m : Int)) (hm0 : 0 ≤ n → q = m) (hnb : decide (n < 0) = nb)
    (CW : Hid (∀ w : World, Calls Try.prog 27 #[.int .i64 n] w fun r w' => r = .returned (.int .u64 (R : Int)) ∧ w = w'))
    (CO : Hid (∀ w : World, Calls Try.prog 29 #[.int .u64 (m : Int), .int .i64 0] w fun r w' => (∃ v', r = .returned v' ∧ Rd w' v' (Fl.dg m)) ∧ Below w.heap.size w w'))
    (CRo : Hid (∀ (v : Value) (w : World), Rd w v (Fl.dg m) → Calls Try.prog 28 #[.bool nb, v, .int .i64 0, .bool false] w fun r w' => r = .returned (.int .u64 (R : Int)) ∧ Below w.heap.size w w'))
    (CC : Hid (∀ w : World, Calls Try.prog 30 #[.int .u64 (x : Int)] w fun r w' => r = .returned (.tuple #[.int .i64 k, .int .i64 e]) ∧ w = w'))
    (CP : Hid (∀ w : World, Calls Try.prog 26 #[.int .u64 (x : Int)] w fun r w' => r = .returned (.tuple #[.bool s, .int .i64 p, .int .u64 (d : Int), .bool i, .bool o]) ∧ w = w'))
    (hE : Ends s i o p d k e) (w : World) :
    Calls Try.prog 8 #[.int .i64 n, .int .u64 x] w fun r w' => r = .returned (.bool true) ∧ Below w.heap.size w w' := by
  have HM := Lib.hid hm
  have HM0 := Lib.hid hm0
  have HE := Lib.hid hE
  have HP1 := Lib.hid hp1
  have HP2 := Lib.hid hp2
  clear hm hm0 hE hp1 hp2
  go_enter Try.func8, Try.ntmps8
  go_upto_if 19 with (go_at_call 9; ((with_reducible refine (lives_any _).mono ?_); rintro e w1 ⟨rfl, hb1⟩))
  go_cut [5] (fun v wc => w1 = wc ∧ v = .int .u64 (m : Int))
  case first =>
    cases nb
    rotate_left 1
    · have hn : n < 0 := of_decide_eq_true hnb
      have h1 := HM.out hn
      clear hnb
      go_wp2
      go_meet
      case rel => exact ⟨rfl, rfl⟩
    · have hn : ¬ n < 0 := of_decide_eq_false hnb
      have h1 := HM0.out (by omega)
      have h2 : (q : Int) = (m : Int) := by rw [h1]
      have H2 := Lib.hid h2
      clear hnb h1 h2
      go_wp2
      go_meet
      case rel => exact ⟨rfl, by rw [H2.out]⟩
  case rest =>
    obtain ⟨rfl, rfl⟩ := hcut
    clear hq
    have hp1 := HP1.out
    have hp2 := HP2.out
    rcases HE.out with ⟨h1, rfl, rfl⟩ | ⟨rfl, rfl, h1, rfl, rfl⟩ | ⟨rfl, rfl, h1, h2, h3, rfl, rfl, rfl⟩ | ⟨rfl, rfl, h1, h2, h3, rfl, rfl, rfl⟩ | ⟨rfl, rfl, h1, h2, rfl, rfl, rfl⟩ | ⟨rfl, rfl, h1, h2, h3, h4, rfl⟩ | ⟨rfl, rfl, h1, h2, h3, h4, rfl⟩ | ⟨rfl, rfl, h1, rfl, rfl⟩
    · rcases h1 with rfl | ⟨rfl, rfl⟩
      all_goals
        clear HE
        go_wp2_with (first
        | (go_at_call 27; ((with_reducible refine (CW.out _).mono ?_); rintro e w' ⟨rfl, rfl⟩))
        | (go_at_call 29; ((with_reducible refine (CO.out _).mono ?_); rintro e w2 ⟨⟨v', rfl, hv'⟩, hb2⟩))
        | (go_at_call 28; ((with_reducible refine (CRo.out _ _ hv').mono ?_); rintro e w3 ⟨rfl, hb3⟩))
        | (go_at_call 30; ((with_reducible refine (CC.out _).mono ?_); rintro e w' ⟨rfl, rfl⟩))
        | (go_at_call 26; ((with_reducible refine (CP.out _).mono ?_); rintro e w' ⟨rfl, rfl⟩)))
        go_ret
        exact ⟨rfl, hb1.trans ((hb2.mono hb1.size).trans (hb3.mono (Nat.le_trans hb1.size hb2.size)))⟩
    · clear HE
      go_wp2_with (first
        | (go_at_call 27; ((with_reducible refine (CW.out _).mono ?_); rintro e w' ⟨rfl, rfl⟩))
        | (go_at_call 29; ((with_reducible refine (CO.out _).mono ?_); rintro e w2 ⟨⟨v', rfl, hv'⟩, hb2⟩))
        | (go_at_call 28; ((with_reducible refine (CRo.out _ _ hv').mono ?_); rintro e w3 ⟨rfl, hb3⟩))
        | (go_at_call 30; ((with_reducible refine (CC.out _).mono ?_); rintro e w' ⟨rfl, rfl⟩))
        | (go_at_call 26; ((with_reducible refine (CP.out _).mono ?_); rintro e w' ⟨rfl, rfl⟩)))
      go_ret
      exact ⟨rfl, hb1.trans ((hb2.mono hb1.size).trans (hb3.mono (Nat.le_trans hb1.size hb2.size)))⟩
    · have t1 : (p == 11) = true := by simp [h1]
      have t2 : ¬ ((11 : Int) < p) := by omega
      have t3 : decide ((4503599627370496 : Int) ≤ d) = true := by simp; omega
      clear HE h1 h2 h3
      go_wp2_with (first
        | (go_at_call 27; ((with_reducible refine (CW.out _).mono ?_); rintro e w' ⟨rfl, rfl⟩))
        | (go_at_call 29; ((with_reducible refine (CO.out _).mono ?_); rintro e w2 ⟨⟨v', rfl, hv'⟩, hb2⟩))
        | (go_at_call 28; ((with_reducible refine (CRo.out _ _ hv').mono ?_); rintro e w3 ⟨rfl, hb3⟩))
        | (go_at_call 30; ((with_reducible refine (CC.out _).mono ?_); rintro e w' ⟨rfl, rfl⟩))
        | (go_at_call 26; ((with_reducible refine (CP.out _).mono ?_); rintro e w' ⟨rfl, rfl⟩)))
      go_ret
      exact ⟨rfl, hb1.trans ((hb2.mono hb1.size).trans (hb3.mono (Nat.le_trans hb1.size hb2.size)))⟩
    · have t1 : (p == 11) = true := by simp [h1]
      have t2 : ¬ ((11 : Int) < p) := by omega
      have t3 : decide ((4503599627370496 : Int) ≤ d) = true := by simp; omega
      have t4 : ((d : Int) == 4503599627370496) = false := by simp; omega
      clear HE h1 h2 h3
      go_wp2_with (first
        | (go_at_call 27; ((with_reducible refine (CW.out _).mono ?_); rintro e w' ⟨rfl, rfl⟩))
        | (go_at_call 29; ((with_reducible refine (CO.out _).mono ?_); rintro e w2 ⟨⟨v', rfl, hv'⟩, hb2⟩))
        | (go_at_call 28; ((with_reducible refine (CRo.out _ _ hv').mono ?_); rintro e w3 ⟨rfl, hb3⟩))
        | (go_at_call 30; ((with_reducible refine (CC.out _).mono ?_); rintro e w' ⟨rfl, rfl⟩))
        | (go_at_call 26; ((with_reducible refine (CP.out _).mono ?_); rintro e w' ⟨rfl, rfl⟩)))
      go_ret
      exact ⟨rfl, hb1.trans ((hb2.mono hb1.size).trans (hb3.mono (Nat.le_trans hb1.size hb2.size)))⟩
    · have t2 : ¬ ((11 : Int) < p) := by omega
      subst h1
      subst h2
      clear HE
      go_wp2_with (first
        | (go_at_call 27; ((with_reducible refine (CW.out _).mono ?_); rintro e w' ⟨rfl, rfl⟩))
        | (go_at_call 29; ((with_reducible refine (CO.out _).mono ?_); rintro e w2 ⟨⟨v', rfl, hv'⟩, hb2⟩))
        | (go_at_call 28; ((with_reducible refine (CRo.out _ _ hv').mono ?_); rintro e w3 ⟨rfl, hb3⟩))
        | (go_at_call 30; ((with_reducible refine (CC.out _).mono ?_); rintro e w' ⟨rfl, rfl⟩))
        | (go_at_call 26; ((with_reducible refine (CP.out _).mono ?_); rintro e w' ⟨rfl, rfl⟩)))
      go_ret
      exact ⟨rfl, hb1.trans ((hb2.mono hb1.size).trans (hb3.mono (Nat.le_trans hb1.size hb2.size)))⟩
    · obtain ⟨g, rfl⟩ := Int.eq_ofNat_of_zero_le h1
      rw [Int.toNat_natCast] at h4
      obtain ⟨wv, hw⟩ : ∃ wv : Nat, d * 2 ^ g = wv := ⟨_, rfl⟩
      rw [hw] at h4
      have hlt : wv < 9223372036854775808 := by
        rw [← hw]
        exact Nat.lt_of_lt_of_le (Nat.mul_lt_mul_of_pos_right h3 (Nat.two_pow_pos _)) (Nat.le_trans (Nat.mul_le_mul_left _ (Nat.pow_le_pow_right (by decide) (by omega : g ≤ 10))) (by decide))
      have hw2 : (d : Int) * 2 ^ g = (wv : Int) := by rw [← hw]; simp
      have t1 : ((g : Int) == 11) = false := by simp; omega
      have HK := Lib.hid h4
      unfold Fl.sv at h4
      clear HE hw h3
      cases s
      · obtain rfl : k = (wv : Int) := h4
        clear HK
        go_wp2_with (first
        | (go_at_call 27; ((with_reducible refine (CW.out _).mono ?_); rintro e w' ⟨rfl, rfl⟩))
        | (go_at_call 29; ((with_reducible refine (CO.out _).mono ?_); rintro e w2 ⟨⟨v', rfl, hv'⟩, hb2⟩))
        | (go_at_call 28; ((with_reducible refine (CRo.out _ _ hv').mono ?_); rintro e w3 ⟨rfl, hb3⟩))
        | (go_at_call 30; ((with_reducible refine (CC.out _).mono ?_); rintro e w' ⟨rfl, rfl⟩))
        | (go_at_call 26; ((with_reducible refine (CP.out _).mono ?_); rintro e w' ⟨rfl, rfl⟩)))
        go_ret
        exact ⟨rfl, hb1.trans ((hb2.mono hb1.size).trans (hb3.mono (Nat.le_trans hb1.size hb2.size)))⟩
      · obtain rfl : k = -(wv : Int) := h4
        clear HK
        go_wp2_with (first
        | (go_at_call 27; ((with_reducible refine (CW.out _).mono ?_); rintro e w' ⟨rfl, rfl⟩))
        | (go_at_call 29; ((with_reducible refine (CO.out _).mono ?_); rintro e w2 ⟨⟨v', rfl, hv'⟩, hb2⟩))
        | (go_at_call 28; ((with_reducible refine (CRo.out _ _ hv').mono ?_); rintro e w3 ⟨rfl, hb3⟩))
        | (go_at_call 30; ((with_reducible refine (CC.out _).mono ?_); rintro e w' ⟨rfl, rfl⟩))
        | (go_at_call 26; ((with_reducible refine (CP.out _).mono ?_); rintro e w' ⟨rfl, rfl⟩)))
        go_ret
        exact ⟨rfl, hb1.trans ((hb2.mono hb1.size).trans (hb3.mono (Nat.le_trans hb1.size hb2.size)))⟩
    · obtain ⟨g, hg⟩ : ∃ g : Nat, -p = g := ⟨(-p).toNat, by omega⟩
      obtain rfl : p = -(g : Int) := by omega
      rw [hg, Int.toNat_natCast] at h4
      obtain ⟨wv, hw⟩ : ∃ wv : Nat, d / 2 ^ g = wv := ⟨_, rfl⟩
      rw [hw] at h4
      have hlt : wv < 9223372036854775808 := by
        have := Nat.div_le_self d (2 ^ g); omega
      have hw2 : (d : Int) / 2 ^ g = (wv : Int) := by rw [← hw]; simp
      have hg1 : 1 ≤ g := by omega
      have hg2 : g ≤ 63 := by omega
      have t1 : (-(g : Int) == 11) = false := by simp; omega
      have t2 : ¬ (11 : Int) < -(g : Int) := by omega
      unfold Fl.sv at h4
      clear HE hw h3 hg h1 h2
      cases s
      · obtain rfl : k = (wv : Int) := h4
        go_wp2_with (first
        | (go_at_call 27; ((with_reducible refine (CW.out _).mono ?_); rintro e w' ⟨rfl, rfl⟩))
        | (go_at_call 29; ((with_reducible refine (CO.out _).mono ?_); rintro e w2 ⟨⟨v', rfl, hv'⟩, hb2⟩))
        | (go_at_call 28; ((with_reducible refine (CRo.out _ _ hv').mono ?_); rintro e w3 ⟨rfl, hb3⟩))
        | (go_at_call 30; ((with_reducible refine (CC.out _).mono ?_); rintro e w' ⟨rfl, rfl⟩))
        | (go_at_call 26; ((with_reducible refine (CP.out _).mono ?_); rintro e w' ⟨rfl, rfl⟩)))
        go_ret
        exact ⟨rfl, hb1.trans ((hb2.mono hb1.size).trans (hb3.mono (Nat.le_trans hb1.size hb2.size)))⟩
      · obtain rfl : k = -(wv : Int) := h4
        go_wp2_with (first
        | (go_at_call 27; ((with_reducible refine (CW.out _).mono ?_); rintro e w' ⟨rfl, rfl⟩))
        | (go_at_call 29; ((with_reducible refine (CO.out _).mono ?_); rintro e w2 ⟨⟨v', rfl, hv'⟩, hb2⟩))
        | (go_at_call 28; ((with_reducible refine (CRo.out _ _ hv').mono ?_); rintro e w3 ⟨rfl, hb3⟩))
        | (go_at_call 30; ((with_reducible refine (CC.out _).mono ?_); rintro e w' ⟨rfl, rfl⟩))
        | (go_at_call 26; ((with_reducible refine (CP.out _).mono ?_); rintro e w' ⟨rfl, rfl⟩)))
        go_ret
        exact ⟨rfl, hb1.trans ((hb2.mono hb1.size).trans (hb3.mono (Nat.le_trans hb1.size hb2.size)))⟩
    · have t1 : (p == 11) = false := by simp; omega
      have t2 : ¬ (11 : Int) < p := by omega
      clear HE
      cases s
      all_goals
        go_wp2_with (first
        | (go_at_call 27; ((with_reducible refine (CW.out _).mono ?_); rintro e w' ⟨rfl, rfl⟩))
        | (go_at_call 29; ((with_reducible refine (CO.out _).mono ?_); rintro e w2 ⟨⟨v', rfl, hv'⟩, hb2⟩))
        | (go_at_call 28; ((with_reducible refine (CRo.out _ _ hv').mono ?_); rintro e w3 ⟨rfl, hb3⟩))
        | (go_at_call 30; ((with_reducible refine (CC.out _).mono ?_); rintro e w' ⟨rfl, rfl⟩))
        | (go_at_call 26; ((with_reducible refine (CP.out _).mono ?_); rintro e w' ⟨rfl, rfl⟩)))
        go_ret
        exact ⟨rfl, hb1.trans ((hb2.mono hb1.size).trans (hb3.mono (Nat.le_trans hb1.size hb2.size)))⟩
theorem walk (n : Int) (x : Nat) (hn : -9223372036854775808 ≤ n ∧ n ≤ 9223372036854775807) (hx : x < 2 ^ 64) (w : World) :
    Calls Try.prog 8 #[.int .i64 n, .int .u64 x] w fun r w' => r = .returned (.bool true) ∧ Below w.heap.size w w' := by
  obtain ⟨s, p, d, i, o, hp⟩ : ∃ s e m i o, partsF x = (s, e, m, i, o) := ⟨_, _, _, _, _, rfl⟩
  have hm64 : n.natAbs < 2 ^ 64 := by omega
  have hlen : (Fl.dg n.natAbs).length ≤ 20000 := Nat.le_trans (Fl.dg_len_le hm64) (by decide)
  have hpb : -2000 ≤ p ∧ p ≤ 2000 := by
    unfold partsF at hp
    split at hp
    · simp only [Prod.mk.injEq] at hp; omega
    · split at hp
      · simp only [Prod.mk.injEq] at hp; omega
      · rename_i hi
        simp only [Prod.mk.injEq] at hp
        have : Fl.plR (Fl.rung x) ≤ 3000 := by
          have hnan : Fl.rung x < Fl.infR := by
            rename_i hn2
            have := Fl.rung_le_of (n := x) (by simpa using hn2)
            omega
          unfold Fl.plR Fl.infR at *; split <;> omega
        omega
  refine core n x n.natAbs (IntKind.u64.wrap n).toNat (Fl.D.nearest (decide (n < 0)) n.natAbs 0) (decide (n < 0)) s i o p d _ _ hpb.1 hpb.2 ?_ ?_ ?_ rfl (Lib.hid fun w => whole_any n w) (Lib.hid fun w => ?_) (Lib.hid fun v w hv => ?_) (Lib.hid fun w => fcut_any x hx w) (Lib.hid fun w => parts_c x hx _ _ _ _ _ hp w) (ends_of x hx s i o p d hp) w
  · rw [IntKind.wrap_u64]; omega
  · intro h; rw [IntKind.wrap_u64, IntKind.wrap_u64]; omega
  · intro h; rw [IntKind.wrap_u64]; omega
  · have := dof_any n.natAbs 0 hm64 (by decide) w
    rw [Nat.pow_zero, Nat.mul_one] at this
    exact this
  · have := round_any (decide (n < 0)) v n.natAbs 0 false (by decide) (by decide) hlen w hv
    rw [Fl.roundF_nearest] at this
    exact this
theorem nat_of {a : Int} (h : (Lit.int .u64 a).wf = true) : ∃ n : Nat, a = n ∧ n < 2 ^ 64 := by
  have := bounds_u64 h
  exact ⟨a.toNat, by omega, by omega⟩
set_option maxRecDepth 100000 in
theorem lifted (os : Os) (started : os.Started) (H : Type) (enc : TypeId × Value → H) :
    ReturnsInHanded {} Try.checked os 8 .any (Rows.floatsWholeSpec.pre6 enc Try.prog Try.f8 Rows.floatsWholeRow.domain false) (Rows.floatsWholeSpec.post enc Try.prog Try.f8 false true false false) := by
  refine returnsInHanded_of_change (C := Try.checked) own started (by kernel_rfl) Try.func8
    (ChangeSpec.witness6 (enc := enc) (C := Try.checked) false ⟨#[], #[.int .i64 0, .int .u64 0], []⟩ 8 (by kernel_rfl) (by kernel_rfl) (by kernel_rfl) (by kernel_rfl)) ?_
  intro W base args ds gs before hval0 hW hcnd _
  have hval : ∀ (j : Nat) t v, Try.f8.params[j]? = some t → args[j]? = some v → Value.okWide Try.prog W .any base t v := hval0
  have hW' := hW
  obtain ⟨p, q, hA0, hV, rfl, hfz, hnd⟩ := hW
  have hA : DataW.TrodAll enc Try.prog W 0 (fun _ => true) true Try.f8.params.toList args.toList ds p := hA0
  rw [Try.params8] at hA hval
  obtain ⟨v0, vs0, d0, ds0, p0, q0, hargs, rfl, rfl, h0, r0⟩ := trodAll_cons hA
  obtain ⟨v1, vs1, d1, ds1, p1, q1, rfl, rfl, rfl, h1, r1⟩ := trodAll_cons r0
  obtain ⟨rfl, rfl, rfl⟩ := trodAll_nil r1
  obtain rfl : args = #[v0, v1] := by cases args; simp_all
  obtain ⟨rfl, rfl⟩ := trodVars_none hV
  obtain ⟨a0, rfl, rfl, rfl, w0⟩ := open_int Try.underlying2 (hval 0 2 v0 rfl rfl) h0
  obtain ⟨a1, rfl, rfl, rfl, w1⟩ := open_int Try.underlying22 (hval 1 22 v1 rfl rfl) h1
  obtain ⟨n1, rfl, l1⟩ := nat_of w1
  refine (walk a0 n1 (bounds_i64 w0) l1 W).mono fun e W' ⟨he, hg⟩ => ?_
  subst he
  exact ⟨_, rfl, law_post laidOut (by kernel_rfl) rfl rfl Try.underlying4 rfl hW' hg⟩
theorem proved : Rows.FloatsWholeSaid :=
  OpenClaim.holds_of_wide 8 Try.f8 rfl rfl rfl rfl rfl rfl rfl ⟨rfl, rfl, rfl, rfl, rfl⟩ rfl rfl rfl rfl rfl (by kernel_rfl) Try.func8 (by kernel_rfl)
    (of_decide_eq_true (by kernel_rfl)) (by unfold Func.isWrapper; first | (rw [if_pos (by decide +kernel)]; kernel_rfl) | (rw [if_neg (by decide +kernel)]; exact ⟨rfl, rfl⟩))
    (fun os started H enc _ => lifted os started H enc)
end Go.Proofs.Ytebldhppnacdjaa.floatsWhole

