/- The reference's Add, Mul and Div answer as the standard says. -/
import Derived.Test.YtebldhppnacdjaaFx
set_option linter.unusedVariables false
namespace Fl
open Ieee
theorem sum_same (s : Bool) (A B : Nat) (h : A + B ≠ 0) : (if sv s A + sv s B = 0 then s && s else decide (sv s A + sv s B < 0)) = s ∧ (sv s A + sv s B).natAbs = A + B := by
  unfold sv
  cases s
  · simp only [Bool.false_eq_true, if_false]
    rw [if_neg (by omega)]
    exact ⟨decide_eq_false (by omega), by omega⟩
  · simp only [if_true]
    rw [if_neg (by omega)]
    exact ⟨decide_eq_true (by omega), by omega⟩
theorem sum_gt (s t : Bool) (hst : s = !t) (A B : Nat) (h : B < A) : (if sv s A + sv t B = 0 then s && t else decide (sv s A + sv t B < 0)) = s ∧ (sv s A + sv t B).natAbs = A - B := by
  subst hst
  unfold sv
  cases t
  · simp only [Bool.not_false, Bool.false_eq_true, if_false, if_true]
    rw [if_neg (by omega)]
    exact ⟨decide_eq_true (by omega), by omega⟩
  · simp only [Bool.not_true, Bool.false_eq_true, if_false, if_true]
    rw [if_neg (by omega)]
    exact ⟨decide_eq_false (by omega), by omega⟩
theorem sum_lt (s t : Bool) (hst : s = !t) (A B : Nat) (h : A < B) : (if sv s A + sv t B = 0 then s && t else decide (sv s A + sv t B < 0)) = t ∧ (sv s A + sv t B).natAbs = B - A := by
  subst hst
  unfold sv
  cases t
  · simp only [Bool.not_false, Bool.false_eq_true, if_false, if_true]
    rw [if_neg (by omega)]
    exact ⟨decide_eq_false (by omega), by omega⟩
  · simp only [Bool.not_true, Bool.false_eq_true, if_false, if_true]
    rw [if_neg (by omega)]
    exact ⟨decide_eq_true (by omega), by omega⟩
theorem sum_eq (s t : Bool) (hst : s = !t) (A : Nat) : (if sv s A + sv t A = 0 then s && t else decide (sv s A + sv t A < 0)) = false ∧ (sv s A + sv t A).natAbs = 0 := by
  subst hst
  unfold sv
  cases t
  · simp only [Bool.not_false, Bool.false_eq_true, if_false, if_true]
    rw [if_pos (by omega)]
    exact ⟨rfl, by omega⟩
  · simp only [Bool.not_true, Bool.false_eq_true, if_false, if_true]
    rw [if_pos (by omega)]
    exact ⟨rfl, by omega⟩
theorem res_nearest (s : Bool) (m : Nat) (p : Int) : res (some (D.nearest s m p)) = D.nearest s m p := canon_nearest s m p
theorem res_word (s : Bool) : res (some (D.word s infR)) = D.word s infR := canon_num (nan_word s (Nat.le_refl _))
theorem res_zero (s : Bool) : res (some (D.word s 0)) = D.word s 0 := canon_num (nan_word s (Nat.zero_le _))
theorem res_self {x : Nat} (h : rung x ≤ infR) : res (some x) = x := canon_num (by unfold nan; simp; omega)
theorem kinds (x : Nat) : (infR < rung x) ∨ (rung x = infR) ∨ (rung x < infR) := by omega
end Fl
namespace Go.Proofs.Ytebldhppnacdjaa
open Go.RowKit
theorem partsF_nan {x : Nat} (h : Fl.infR < Fl.rung x) : partsF x = (Fl.sgn x, 0, 0, false, true) := by
  unfold partsF; rw [if_pos (by unfold Fl.nan; simpa using h)]
theorem partsF_inf {x : Nat} (h : Fl.rung x = Fl.infR) : partsF x = (Fl.sgn x, 0, 0, true, false) := by
  unfold partsF; rw [if_neg (by unfold Fl.nan; simp; omega), if_pos h]
theorem partsF_fin {x : Nat} (h : Fl.rung x < Fl.infR) : partsF x = (Fl.sgn x, -1074 + (Fl.plR (Fl.rung x) : Int), Fl.magR (Fl.rung x), false, false) := by
  unfold partsF; rw [if_neg (by unfold Fl.nan; simp; omega), if_neg (by omega)]
theorem plR_le {r : Nat} (h : r < Fl.infR) : Fl.plR r ≤ 2045 := by unfold Fl.plR Fl.infR at *; split <;> omega
theorem rnd_to (s : Bool) (C : Nat) (g : Int) (more : Bool) (h1 : -20000 ≤ g) (h2 : g ≤ 20000) (hl : (Fl.dg C).length ≤ 20000) (K : Nat) (hK : Fl.roundF s C g more = K) : RndTo s C g more (K : Int) := fun v w h => by
  rw [← hK]; exact round_any s v C g more h1 h2 hl w h
theorem below_eq {w : World} {r : Ending} {P : Ending → Prop} {w' : World} (h : P r ∧ w = w') : P r ∧ Below w.heap.size w w' := ⟨h.1, by rw [← h.2]; exact Below.refl _ _⟩
theorem len_add {A B L : Nat} (hA : A < 2 ^ L) (hB : B < 2 ^ L) : (Fl.dg (A + B)).length ≤ L + 1 := Fl.dg_len_le (by rw [Nat.pow_succ]; omega)
theorem word_zero_int (b : Bool) : ((Fl.D.word b 0 : Nat) : Int) = if b = true then 9223372036854775808 else 0 := by cases b <;> rfl
theorem radd_any (x y : Nat) (hx : x < 2 ^ 64) (hy : y < 2 ^ 64) (minus : Bool) (w : World) :
    Calls Try.prog 16 #[.int .u64 x, .int .u64 y, .bool minus] w fun r w' => r = .returned (.int .u64 (Fl.res (Fl.D.add x (addY y minus)) : Int)) ∧ Below w.heap.size w w' := by
  have hY : addY y minus < 2 ^ 64 := by
    cases minus
    · rw [addY_false]; exact hy
    · rw [addY_true]; exact Fl.flip_lt hy
  obtain ⟨Y, hYe⟩ : ∃ Y, addY y minus = Y := ⟨_, rfl⟩
  have HY := Lib.hid hYe
  rw [hYe] at hY ⊢
  clear hYe
  rcases Fl.kinds x with kx | kx | kx
  · have hr : Fl.res (Fl.D.add x Y) = Fl.NONE := by rw [Fl.add_nan (Or.inl kx)]; rfl
    rw [hr]
    exact (add_ends x y Y hy minus _ _ _ _ _ _ _ _ _ _ _ HY (Lib.hid (parts_c x hx _ _ _ _ _ (partsF_nan kx))) (Lib.hid (parts_any Y hY)) (Or.inl ⟨rfl, rfl⟩) w).mono fun r w' h => below_eq h
  · rcases Fl.kinds Y with ky | ky | ky
    · have hr : Fl.res (Fl.D.add x Y) = Fl.NONE := by rw [Fl.add_nan (Or.inr ky)]; rfl
      rw [hr]
      exact (add_ends x y Y hy minus _ _ _ _ _ _ _ _ _ _ _ HY (Lib.hid (parts_c x hx _ _ _ _ _ (partsF_inf kx))) (Lib.hid (parts_c Y hY _ _ _ _ _ (partsF_nan ky))) (Or.inr (Or.inl ⟨rfl, rfl, rfl⟩)) w).mono fun r w' h => below_eq h
    · by_cases hs : Fl.sgn x = Fl.sgn Y
      · have hr : Fl.res (Fl.D.add x Y) = x := by rw [Fl.add_inf_left hx kx (by omega) (fun _ => hs)]; exact Fl.res_self (by omega)
        rw [hr]
        exact (add_ends x y Y hy minus _ _ _ _ _ _ _ _ _ _ _ HY (Lib.hid (parts_c x hx _ _ _ _ _ (partsF_inf kx))) (Lib.hid (parts_c Y hY _ _ _ _ _ (partsF_inf ky))) (Or.inr (Or.inr (Or.inr (Or.inl ⟨rfl, rfl, rfl, rfl, hs, rfl⟩)))) w).mono fun r w' h => below_eq h
      · have hr : Fl.res (Fl.D.add x Y) = Fl.NONE := by rw [Fl.add_infs kx ky hs]; rfl
        rw [hr]
        have hs2 : Fl.sgn x = !Fl.sgn Y := by revert hs; cases Fl.sgn x <;> cases Fl.sgn Y <;> simp
        exact (add_ends x y Y hy minus _ _ _ _ _ _ _ _ _ _ _ HY (Lib.hid (parts_c x hx _ _ _ _ _ (partsF_inf kx))) (Lib.hid (parts_c Y hY _ _ _ _ _ (partsF_inf ky))) (Or.inr (Or.inr (Or.inl ⟨rfl, rfl, rfl, rfl, hs2, rfl⟩))) w).mono fun r w' h => below_eq h
    · have hr : Fl.res (Fl.D.add x Y) = x := by rw [Fl.add_inf_left hx kx (by omega) (fun h => by omega)]; exact Fl.res_self (by omega)
      rw [hr]
      exact (add_ends x y Y hy minus _ _ _ _ _ _ _ _ _ _ _ HY (Lib.hid (parts_c x hx _ _ _ _ _ (partsF_inf kx))) (Lib.hid (parts_c Y hY _ _ _ _ _ (partsF_fin ky))) (Or.inr (Or.inr (Or.inr (Or.inr (Or.inl ⟨rfl, rfl, rfl, rfl, rfl⟩))))) w).mono fun r w' h => below_eq h
  · rcases Fl.kinds Y with ky | ky | ky
    · have hr : Fl.res (Fl.D.add x Y) = Fl.NONE := by rw [Fl.add_nan (Or.inr ky)]; rfl
      rw [hr]
      exact (add_ends x y Y hy minus _ _ _ _ _ _ _ _ _ _ _ HY (Lib.hid (parts_c x hx _ _ _ _ _ (partsF_fin kx))) (Lib.hid (parts_c Y hY _ _ _ _ _ (partsF_nan ky))) (Or.inr (Or.inl ⟨rfl, rfl, rfl⟩)) w).mono fun r w' h => below_eq h
    · have hr : Fl.res (Fl.D.add x Y) = Y := by rw [Fl.add_inf_right hY kx ky]; exact Fl.res_self (by omega)
      rw [hr]
      exact (add_ends x y Y hy minus _ _ _ _ _ _ _ _ _ _ _ HY (Lib.hid (parts_c x hx _ _ _ _ _ (partsF_fin kx))) (Lib.hid (parts_c Y hY _ _ _ _ _ (partsF_inf ky))) (Or.inr (Or.inr (Or.inr (Or.inr (Or.inr (Or.inl ⟨rfl, rfl, rfl, rfl, rfl⟩)))))) w).mono fun r w' h => below_eq h
    · have hp := partsF_fin kx
      have hq := partsF_fin ky
      have b1 := plR_le kx
      have b2 := plR_le ky
      have m1 := Fl.mag_lt (Fl.rung x)
      have m2 := Fl.mag_lt (Fl.rung Y)
      have hadd := Fl.add_fin kx ky _ _ rfl rfl _ _ rfl rfl
      generalize Fl.plR (Fl.rung x) = e at *
      generalize Fl.plR (Fl.rung Y) = f at *
      generalize Fl.magR (Fl.rung x) = m at *
      generalize Fl.magR (Fl.rung Y) = n at *
      generalize Fl.sgn x = s at *
      generalize Fl.sgn Y = t at *
      obtain ⟨A, hA⟩ : ∃ A, A = m * 2 ^ (e - min e f) := ⟨_, rfl⟩
      obtain ⟨B, hB⟩ : ∃ B, B = n * 2 ^ (f - min e f) := ⟨_, rfl⟩
      rw [← hA, ← hB] at hadd
      by_cases hz : m = 0 ∧ n = 0
      · obtain ⟨rfl, rfl⟩ := hz
        rw [Nat.zero_mul] at hA hB
        subst hA hB
        have hr : Fl.res (Fl.D.add x Y) = Fl.D.word (s && t) 0 := by
          rw [hadd]
          have e0 : Fl.sv s ((0 : Nat) : Int) + Fl.sv t ((0 : Nat) : Int) = 0 := by unfold Fl.sv; cases s <;> cases t <;> rfl
          rw [e0, if_pos rfl]
          show Fl.res (some (Fl.D.nearest _ 0 _)) = _
          rw [Fl.nearest_zero]; exact Fl.res_zero _
        rw [hr, word_zero_int]
        exact (add_ends x y Y hy minus _ _ _ _ _ _ _ _ _ _ _ HY (Lib.hid (parts_c x hx _ _ _ _ _ hp)) (Lib.hid (parts_c Y hY _ _ _ _ _ hq)) (Or.inr (Or.inr (Or.inr (Or.inr (Or.inr (Or.inr ⟨rfl, rfl, rfl, rfl, rfl, rfl, rfl⟩)))))) w).mono fun r w' h => below_eq h
      · obtain ⟨L, hL⟩ : ∃ L, L = 2200 := ⟨_, rfl⟩
        have lA : A < 2 ^ L := by
          rw [hA]
          refine Nat.lt_of_lt_of_le (Nat.mul_lt_mul_of_pos_right m1 (Nat.two_pow_pos _)) ?_
          rw [← Nat.pow_add]
          exact Nat.pow_le_pow_right (by decide) (by omega)
        have lB : B < 2 ^ L := by
          rw [hB]
          refine Nat.lt_of_lt_of_le (Nat.mul_lt_mul_of_pos_right m2 (Nat.two_pow_pos _)) ?_
          rw [← Nat.pow_add]
          exact Nat.pow_le_pow_right (by decide) (by omega)
        have hAB : A + B ≠ 0 := by
          intro h0
          have ha : A = 0 := by omega
          have hb : B = 0 := by omega
          rw [hA] at ha
          rw [hB] at hb
          have p1 := Nat.two_pow_pos (e - min e f)
          have p2 := Nat.two_pow_pos (f - min e f)
          rcases Nat.mul_eq_zero.1 ha with h | h
          · rcases Nat.mul_eq_zero.1 hb with h' | h'
            · exact hz ⟨h, h'⟩
            · omega
          · omega
        have D1 : Hid (∀ w : World, Calls Try.prog 29 #[.int .u64 (m : Int), .int .i64 ((e - min e f : Nat) : Int)] w fun e w' => (∃ v', e = .returned v' ∧ Rd w' v' (Fl.dg A)) ∧ Below w.heap.size w w') := Lib.hid fun w => by
          rw [hA]; exact dof_any m _ (by omega) (by omega) w
        have D2 : Hid (∀ w : World, Calls Try.prog 29 #[.int .u64 (n : Int), .int .i64 ((f - min e f : Nat) : Int)] w fun e w' => (∃ v', e = .returned v' ∧ Rd w' v' (Fl.dg B)) ∧ Below w.heap.size w w') := Lib.hid fun w => by
          rw [hB]; exact dof_any n _ (by omega) (by omega) w
        have lens : ∀ C, C ≤ A + B → (Fl.dg C).length ≤ 20000 := fun C hC => by
          have : C < 2 ^ (L + 1) := by rw [Nat.pow_succ]; omega
          exact Nat.le_trans (Fl.dg_len_le this) (by omega)
        have LA := Lib.hid (Nat.le_trans (lens A (by omega)) (by decide : 20000 ≤ 90000))
        have LB := Lib.hid (Nat.le_trans (lens B (by omega)) (by decide : 20000 ≤ 90000))
        have G1 : -20000 ≤ -1074 + ((min e f : Nat) : Int) := by omega
        have G2 : -1074 + ((min e f : Nat) : Int) ≤ 20000 := by omega
        refine add_num x y Y hy minus s t _ _ _ _ _ _ _ _ _ HY (Lib.hid (parts_c x hx _ _ _ _ _ hp)) (Lib.hid (parts_c Y hY _ _ _ _ _ hq)) rfl rfl rfl rfl (by omega) (by omega) (by omega) (by omega) (by omega) A B (-1074 + ((min e f : Nat) : Int)) _ _ (by omega) D1 D2 LA LB ?_ w
        rw [hadd]
        show _ ∨ _
        by_cases hst : s = t
        · subst hst
          obtain ⟨h1, h2⟩ := Fl.sum_same s A B hAB
          left
          refine ⟨rfl, Lib.hid (rnd_to _ _ _ _ G1 G2 (lens _ (Nat.le_refl _)) _ ?_)⟩
          rw [h1, h2, Fl.roundF_nearest]
          exact (Fl.res_nearest _ _ _).symm
        · have hst2 : s = !t := by revert hst; cases s <;> cases t <;> simp
          right
          refine ⟨hst2, ?_⟩
          rcases Nat.lt_trichotomy A B with h | h | h
          · obtain ⟨h1, h2⟩ := Fl.sum_lt s t hst2 A B h
            right; right
            refine ⟨Lib.hid (by unfold cmpF; rw [if_pos h]), Lib.hid (by omega), Lib.hid (rnd_to _ _ _ _ G1 G2 (lens _ (by omega)) _ ?_)⟩
            rw [h1, h2, Fl.roundF_nearest]
            exact (Fl.res_nearest _ _ _).symm
          · subst h
            obtain ⟨h1, h2⟩ := Fl.sum_eq s t hst2 A
            right; left
            refine ⟨Lib.hid (by unfold cmpF; rw [if_neg (by omega), if_pos rfl]), ?_⟩
            rw [h1, h2]
            show ((Fl.res (some (Fl.D.nearest false 0 _)) : Nat) : Int) = 0
            rw [Fl.nearest_zero, Fl.res_zero]
            exact word_zero_int false
          · obtain ⟨h1, h2⟩ := Fl.sum_gt s t hst2 A B h
            left
            refine ⟨Lib.hid (by unfold cmpF; rw [if_neg (by omega), if_neg (by omega)]), Lib.hid (by omega), Lib.hid (rnd_to _ _ _ _ G1 G2 (lens _ (by omega)) _ ?_)⟩
            rw [h1, h2, Fl.roundF_nearest]
            exact (Fl.res_nearest _ _ _).symm
end Go.Proofs.Ytebldhppnacdjaa
