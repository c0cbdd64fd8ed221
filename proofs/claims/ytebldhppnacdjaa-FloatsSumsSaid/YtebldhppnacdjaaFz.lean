/- The reference's Mul and Div answer as the standard says. -/
import Derived.Test.YtebldhppnacdjaaFy
set_option linter.unusedVariables false
namespace Go.Proofs.Ytebldhppnacdjaa
open Go.RowKit
/-- the digits of an endless number: more than any float has. -/
def T2000 : Nat := 2000
def X2000 : Nat := 1 * 2 ^ T2000
theorem len_X2000 : 1100 ≤ (Fl.dg X2000).length ∧ (Fl.dg X2000).length ≤ 20000 := by
  obtain ⟨L, hL⟩ : ∃ L, L = T2000 := ⟨_, rfl⟩
  have h : X2000 = 2 ^ L := by rw [hL]; exact Nat.one_mul _
  have hL2 : L = 2000 := hL
  clear hL
  rw [h]
  have hp := Nat.two_pow_pos L
  rw [Fl.dg_length, if_neg (by omega), Nat.log2_two_pow]
  omega
theorem inf_to (q : Bool) : RndTo q X2000 0 false ((Fl.D.word q Fl.infR : Nat) : Int) := rnd_to q X2000 0 false (by omega) (by omega) len_X2000.2 _ (Fl.round_big q X2000 len_X2000.1)
theorem inf_of : ∀ w : World, Calls Try.prog 29 #[.int .u64 1, .int .i64 2000] w fun e w' => (∃ v', e = .returned v' ∧ Rd w' v' (Fl.dg X2000)) ∧ Below w.heap.size w w' := fun w => dof_any 1 T2000 (by omega) (by decide) w
theorem rmul_any (x y : Nat) (hx : x < 2 ^ 64) (hy : y < 2 ^ 64) (w : World) :
    Calls Try.prog 19 #[.int .u64 x, .int .u64 y] w fun r w' => r = .returned (.int .u64 (Fl.res (Fl.D.mul x y) : Int)) ∧ Below w.heap.size w w' := by
  have hi0 : 0 < Fl.infR := by decide
  have hINF := Lib.hid inf_of
  rcases Fl.kinds x with kx | kx | kx
  · have hr : Fl.res (Fl.D.mul x y) = Fl.NONE := by rw [Fl.mul_nan (Or.inl kx)]; rfl
    rw [hr]
    exact (mul_ends x y _ _ _ _ _ _ _ _ _ _ (Lib.hid (parts_c x hx _ _ _ _ _ (partsF_nan kx))) (Lib.hid (parts_any y hy)) (Or.inl rfl) w).mono fun r w' h => below_eq h
  · rcases Fl.kinds y with ky | ky | ky
    · have hr : Fl.res (Fl.D.mul x y) = Fl.NONE := by rw [Fl.mul_nan (Or.inr ky)]; rfl
      rw [hr]
      exact (mul_ends x y _ _ _ _ _ _ _ _ _ _ (Lib.hid (parts_c x hx _ _ _ _ _ (partsF_inf kx))) (Lib.hid (parts_c y hy _ _ _ _ _ (partsF_nan ky))) (Or.inr (Or.inl ⟨rfl, rfl⟩)) w).mono fun r w' h => below_eq h
    · have hr : Fl.res (Fl.D.mul x y) = Fl.D.word (Fl.sgn x ^^ Fl.sgn y) Fl.infR := by rw [Fl.mul_inf (by omega) (by omega) (Or.inl kx) (by omega) (by omega)]; exact Fl.res_word _
      rw [hr]
      exact mul_infs x y _ _ _ _ _ _ _ _ _ _ _ _ (Lib.hid (parts_c x hx _ _ _ _ _ (partsF_inf kx))) (Lib.hid (parts_c y hy _ _ _ _ _ (partsF_inf ky))) rfl rfl rfl X2000 (Or.inl ⟨rfl, rfl⟩) hINF (Lib.hid (inf_to _)) w
    · by_cases h0 : Fl.rung y = 0
      · have hr : Fl.res (Fl.D.mul x y) = Fl.NONE := by rw [Fl.mul_inf0 (Or.inl ⟨kx, h0⟩)]; rfl
        rw [hr]
        exact (mul_ends x y _ _ _ _ _ _ _ _ _ _ (Lib.hid (parts_c x hx _ _ _ _ _ (partsF_inf kx))) (Lib.hid (parts_c y hy _ _ _ _ _ (partsF_fin ky))) (Or.inr (Or.inr (Or.inl ⟨rfl, rfl, rfl, rfl, by rw [Fl.mag_zero.2 h0]; rfl⟩))) w).mono fun r w' h => below_eq h
      · have hr : Fl.res (Fl.D.mul x y) = Fl.D.word (Fl.sgn x ^^ Fl.sgn y) Fl.infR := by rw [Fl.mul_inf (by omega) (by omega) (Or.inl kx) (by omega) (by omega)]; exact Fl.res_word _
        rw [hr]
        exact mul_infs x y _ _ _ _ _ _ _ _ _ _ _ _ (Lib.hid (parts_c x hx _ _ _ _ _ (partsF_inf kx))) (Lib.hid (parts_c y hy _ _ _ _ _ (partsF_fin ky))) rfl rfl rfl X2000 (Or.inr (Or.inl ⟨rfl, rfl, by have := mt Fl.mag_zero.1 h0; omega⟩)) hINF (Lib.hid (inf_to _)) w
  · rcases Fl.kinds y with ky | ky | ky
    · have hr : Fl.res (Fl.D.mul x y) = Fl.NONE := by rw [Fl.mul_nan (Or.inr ky)]; rfl
      rw [hr]
      exact (mul_ends x y _ _ _ _ _ _ _ _ _ _ (Lib.hid (parts_c x hx _ _ _ _ _ (partsF_fin kx))) (Lib.hid (parts_c y hy _ _ _ _ _ (partsF_nan ky))) (Or.inr (Or.inl ⟨rfl, rfl⟩)) w).mono fun r w' h => below_eq h
    · by_cases h0 : Fl.rung x = 0
      · have hr : Fl.res (Fl.D.mul x y) = Fl.NONE := by rw [Fl.mul_inf0 (Or.inr ⟨h0, ky⟩)]; rfl
        rw [hr]
        exact (mul_ends x y _ _ _ _ _ _ _ _ _ _ (Lib.hid (parts_c x hx _ _ _ _ _ (partsF_fin kx))) (Lib.hid (parts_c y hy _ _ _ _ _ (partsF_inf ky))) (Or.inr (Or.inr (Or.inr ⟨rfl, rfl, rfl, rfl, by rw [Fl.mag_zero.2 h0]; rfl⟩))) w).mono fun r w' h => below_eq h
      · have hr : Fl.res (Fl.D.mul x y) = Fl.D.word (Fl.sgn x ^^ Fl.sgn y) Fl.infR := by rw [Fl.mul_inf (by omega) (by omega) (Or.inr ky) (by omega) (by omega)]; exact Fl.res_word _
        rw [hr]
        exact mul_infs x y _ _ _ _ _ _ _ _ _ _ _ _ (Lib.hid (parts_c x hx _ _ _ _ _ (partsF_fin kx))) (Lib.hid (parts_c y hy _ _ _ _ _ (partsF_inf ky))) rfl rfl rfl X2000 (Or.inr (Or.inr ⟨rfl, rfl, by have := mt Fl.mag_zero.1 h0; omega⟩)) hINF (Lib.hid (inf_to _)) w
    · have hp := partsF_fin kx
      have hq := partsF_fin ky
      have b1 := plR_le kx
      have b2 := plR_le ky
      have m1 := Fl.mag_lt (Fl.rung x)
      have m2 := Fl.mag_lt (Fl.rung y)
      have hmul := Fl.mul_fin kx ky
      generalize Fl.plR (Fl.rung x) = e at *
      generalize Fl.plR (Fl.rung y) = f at *
      generalize Fl.magR (Fl.rung x) = m at *
      generalize Fl.magR (Fl.rung y) = n at *
      rw [hmul]
      have hl : (Fl.dg (m * n)).length ≤ 20000 := by
        have : m * n < 2 ^ 106 := by
          rw [show (2 : Nat) ^ 106 = 2 ^ 53 * 2 ^ 53 by decide]
          exact Nat.mul_lt_mul'' m1 m2
        exact Nat.le_trans (Fl.dg_len_le this) (by decide)
      refine mul_num x y _ _ _ _ _ _ _ _ _ m n _ (Lib.hid (parts_c x hx _ _ _ _ _ hp)) (Lib.hid (parts_c y hy _ _ _ _ _ hq)) rfl rfl rfl rfl rfl (by omega) (by omega) (by omega) (by omega) (by omega) (by omega) (Lib.hid (rnd_to _ _ _ _ (by omega) (by omega) hl _ ?_)) w
      rw [Fl.roundF_nearest]
      exact (Fl.res_nearest _ _ _).symm
theorem rdiv_any (x y : Nat) (hx : x < 2 ^ 64) (hy : y < 2 ^ 64) (w : World) :
    Calls Try.prog 21 #[.int .u64 x, .int .u64 y] w fun r w' => r = .returned (.int .u64 (Fl.res (Fl.D.div x y) : Int)) ∧ Below w.heap.size w w' := by
  have hi0 : 0 < Fl.infR := by decide
  have hINF := Lib.hid inf_of
  have hZ : ∀ q : Bool, RndTo q 0 0 false ((Fl.D.word q 0 : Nat) : Int) := fun q => rnd_to q 0 0 false (by omega) (by omega) (by rw [Fl.dg_zero]; simp) _ (by unfold Fl.roundF; rw [if_pos rfl])
  rcases Fl.kinds x with kx | kx | kx
  · have hr : Fl.res (Fl.D.div x y) = Fl.NONE := by rw [Fl.div_nan (Or.inl kx)]; rfl
    rw [hr]
    exact (div_ends x y _ _ _ _ _ _ _ _ _ _ (Lib.hid (parts_c x hx _ _ _ _ _ (partsF_nan kx))) (Lib.hid (parts_any y hy)) (Or.inl rfl) w).mono fun r w' h => below_eq h
  · rcases Fl.kinds y with ky | ky | ky
    · have hr : Fl.res (Fl.D.div x y) = Fl.NONE := by rw [Fl.div_nan (Or.inr ky)]; rfl
      rw [hr]
      exact (div_ends x y _ _ _ _ _ _ _ _ _ _ (Lib.hid (parts_c x hx _ _ _ _ _ (partsF_inf kx))) (Lib.hid (parts_c y hy _ _ _ _ _ (partsF_nan ky))) (Or.inr (Or.inl ⟨rfl, rfl⟩)) w).mono fun r w' h => below_eq h
    · have hr : Fl.res (Fl.D.div x y) = Fl.NONE := by rw [Fl.div_infs kx ky]; rfl
      rw [hr]
      exact (div_ends x y _ _ _ _ _ _ _ _ _ _ (Lib.hid (parts_c x hx _ _ _ _ _ (partsF_inf kx))) (Lib.hid (parts_c y hy _ _ _ _ _ (partsF_inf ky))) (Or.inr (Or.inr (Or.inl ⟨rfl, rfl, rfl, rfl⟩))) w).mono fun r w' h => below_eq h
    · have hr : Fl.res (Fl.D.div x y) = Fl.D.word (Fl.sgn x ^^ Fl.sgn y) Fl.infR := by rw [Fl.div_inf_num kx ky]; exact Fl.res_word _
      rw [hr]
      exact div_infs x y _ _ _ _ _ _ _ _ _ _ _ _ (Lib.hid (parts_c x hx _ _ _ _ _ (partsF_inf kx))) (Lib.hid (parts_c y hy _ _ _ _ _ (partsF_fin ky))) rfl rfl rfl X2000 (Or.inl ⟨rfl, rfl⟩) hINF (Lib.hid (inf_to _)) w
  · rcases Fl.kinds y with ky | ky | ky
    · have hr : Fl.res (Fl.D.div x y) = Fl.NONE := by rw [Fl.div_nan (Or.inr ky)]; rfl
      rw [hr]
      exact (div_ends x y _ _ _ _ _ _ _ _ _ _ (Lib.hid (parts_c x hx _ _ _ _ _ (partsF_fin kx))) (Lib.hid (parts_c y hy _ _ _ _ _ (partsF_nan ky))) (Or.inr (Or.inl ⟨rfl, rfl⟩)) w).mono fun r w' h => below_eq h
    · have hr : Fl.res (Fl.D.div x y) = Fl.D.word (Fl.sgn x ^^ Fl.sgn y) 0 := by rw [Fl.div_num_inf kx ky]; exact Fl.res_zero _
      rw [hr]
      exact div_zero x y _ _ _ _ _ _ _ _ _ _ _ _ (Lib.hid (parts_c x hx _ _ _ _ _ (partsF_fin kx))) (Lib.hid (parts_c y hy _ _ _ _ _ (partsF_inf ky))) rfl rfl rfl (Or.inl ⟨rfl, rfl, rfl⟩) (Lib.hid (hZ _)) w
    · by_cases hx0 : Fl.rung x = 0
      · by_cases hy0 : Fl.rung y = 0
        · have hr : Fl.res (Fl.D.div x y) = Fl.NONE := by rw [Fl.div_zeros hx0 hy0]; rfl
          rw [hr]
          exact (div_ends x y _ _ _ _ _ _ _ _ _ _ (Lib.hid (parts_c x hx _ _ _ _ _ (partsF_fin kx))) (Lib.hid (parts_c y hy _ _ _ _ _ (partsF_fin ky))) (Or.inr (Or.inr (Or.inr ⟨rfl, rfl, rfl, rfl, by rw [Fl.mag_zero.2 hx0]; rfl, by rw [Fl.mag_zero.2 hy0]; rfl⟩))) w).mono fun r w' h => below_eq h
        · have hr : Fl.res (Fl.D.div x y) = Fl.D.word (Fl.sgn x ^^ Fl.sgn y) 0 := by rw [Fl.div_zero_num hx0 ky hy0]; exact Fl.res_zero _
          rw [hr]
          exact div_zero x y _ _ _ _ _ _ _ _ _ _ _ _ (Lib.hid (parts_c x hx _ _ _ _ _ (partsF_fin kx))) (Lib.hid (parts_c y hy _ _ _ _ _ (partsF_fin ky))) rfl rfl rfl (Or.inr ⟨rfl, rfl, by have := mt Fl.mag_zero.1 hy0; omega, by rw [Fl.mag_zero.2 hx0]; rfl⟩) (Lib.hid (hZ _)) w
      · by_cases hy0 : Fl.rung y = 0
        · have hr : Fl.res (Fl.D.div x y) = Fl.D.word (Fl.sgn x ^^ Fl.sgn y) Fl.infR := by rw [Fl.div_num_zero kx hx0 hy0]; exact Fl.res_word _
          rw [hr]
          exact div_infs x y _ _ _ _ _ _ _ _ _ _ _ _ (Lib.hid (parts_c x hx _ _ _ _ _ (partsF_fin kx))) (Lib.hid (parts_c y hy _ _ _ _ _ (partsF_fin ky))) rfl rfl rfl X2000 (Or.inr ⟨rfl, rfl, by have := mt Fl.mag_zero.1 hx0; omega, by rw [Fl.mag_zero.2 hy0]; rfl⟩) hINF (Lib.hid (inf_to _)) w
        · have hp := partsF_fin kx
          have hq := partsF_fin ky
          have b1 := plR_le kx
          have b2 := plR_le ky
          have m1 := Fl.mag_lt (Fl.rung x)
          have m2 := Fl.mag_lt (Fl.rung y)
          have z1 := mt Fl.mag_zero.1 hx0
          have z2 := mt Fl.mag_zero.1 hy0
          have hdiv := Fl.div_fin kx hx0 ky hy0
          have hrs := fun p => Fl.roundF_stick (Fl.sgn x ^^ Fl.sgn y) (Fl.magR (Fl.rung x)) (Fl.magR (Fl.rung y)) p z1 z2 m2
          generalize Fl.plR (Fl.rung x) = e at *
          generalize Fl.plR (Fl.rung y) = f at *
          generalize Fl.magR (Fl.rung x) = m at *
          generalize Fl.magR (Fl.rung y) = n at *
          rw [hdiv]
          have hM : m * 2 ^ 120 < 2 ^ 173 := by
            rw [show (2 : Nat) ^ 173 = 2 ^ 53 * 2 ^ 120 by decide]
            exact Nat.mul_lt_mul_of_pos_right m1 (Nat.two_pow_pos _)
          have hl1 : (Fl.dg (m * 2 ^ 120)).length ≤ 1000 := Nat.le_trans (Fl.dg_len_le hM) (by decide)
          have hl2 : (Fl.dg (m * 2 ^ 120 / n)).length ≤ 20000 := Nat.le_trans (Fl.dg_len_le (Nat.lt_of_le_of_lt (Nat.div_le_self _ _) hM)) (by decide)
          refine div_num x y _ _ _ _ _ _ _ _ _ _ m n (m * 2 ^ 120) _ _ (Lib.hid (parts_c x hx _ _ _ _ _ hp)) (Lib.hid (parts_c y hy _ _ _ _ _ hq)) rfl rfl rfl rfl rfl (by simp; omega) (by simp; omega) (by omega) (by omega) (by omega) (by omega) (by omega) rfl hl1 (by omega)
            (Lib.hid fun w => dof_any m 120 (by omega) (by omega) w) (Lib.hid fun w => by have := dof_any n 0 (by omega) (by omega) w; rw [Nat.pow_zero, Nat.mul_one] at this; exact this) rfl (Lib.hid (rnd_to _ _ _ _ (by omega) (by omega) hl2 _ ?_)) w
          rw [hrs]
          exact (Fl.res_nearest _ _ _).symm
end Go.Proofs.Ytebldhppnacdjaa
