/- Walks: Whole and Cut of package floats. -/
import Derived.Test.YtebldhppnacdjaaFn
import Derived.Test.YtebldhppnacdjaaFc
import Derived.Test.YtebldhppnacdjaaFo
set_option linter.unusedVariables false
namespace Go.Proofs.Ytebldhppnacdjaa
open Go.RowKit
theorem float_of (n : Int) : floatOfInt .f64 n = Fl.D.nearest (decide (n < 0)) n.natAbs 0 := rfl
set_option maxHeartbeats 400000 in
theorem whole_any (n : Int) (w : World) : Calls Try.prog 27 #[.int .i64 n] w fun e w' => e = .returned (.int .u64 (Fl.D.nearest (decide (n < 0)) n.natAbs 0 : Nat)) ∧ w = w' := by
  obtain ⟨f, hf⟩ : ∃ f, floatOfInt .f64 n = f := ⟨_, rfl⟩
  have hc : Fl.canon f = Fl.D.nearest (decide (n < 0)) n.natAbs 0 := by rw [← hf, float_of, Fl.canon_nearest]
  have HC := Lib.hid hc
  clear hc
  go_enter Try.func27, Try.ntmps27
  go_wp2_with (go_at_call 34; refine (of2_any _ _).mono ?_; rintro e w' ⟨rfl, rfl⟩; rw [HC.out])
  go_ret
  exact ⟨rfl, rfl⟩
theorem run_trunc (a : Nat) (ha : a < 2 ^ 64) (hc : Fl.canon a = a) (w : World) : (callFunc 47 #[.float .f64 a]).run Try.prog w = .ok (.value (.float .f64 (Fl.truncW a))) w := by
  rw [run_callFunc_extern Try.func47 (by kernel_rfl) (by kernel_rfl) (by kernel_rfl) (e := Extern.MathFloor.toIntegral "math.archTrunc" .zero) (by kernel_rfl)]
  cases hn : Fl.nan a with
  | true =>
    rw [Fl.canon_nan hn] at hc
    subst hc
    rfl
  | false =>
    have ht := Fl.trunc_datum a ha hn
    have hle := Fl.rung_le_of hn
    have hk : ∀ d : Ieee.Datum, FloatKind.f64.decode a = d → d.isNaN = false → (Extern.MathFloor.toIntegral "math.archTrunc" .zero #[.float .f64 a]).run Try.prog w = .ok (.float .f64 (FloatKind.f64.encode (d.integral .zero))) w := by
      intro d hd hd2
      unfold Extern.MathFloor.toIntegral
      show Sem.run Try.prog (match FloatKind.f64.decode a with | .nan s t => _ | d => _) w = _
      rw [hd]
      cases d with
      | nan s t => cases hd2
      | number s m i => rfl
      | infinity s => rfl
    by_cases hf : Fl.rung a < Fl.infR
    · have hd : FloatKind.f64.decode a = .number (Fl.sgn a) (Fl.magR (Fl.rung a)) (-1074 + (Fl.plR (Fl.rung a) : Int)) := Fl.read_fin hf
      rw [Fl.read_fin hf] at ht
      rw [hk _ hd rfl]
      show Result.ok (Next.value (.float .f64 (Fl.D.write _))) w = _
      rw [ht]
    · have hd : FloatKind.f64.decode a = .infinity (Fl.sgn a) := Fl.read_inf (by omega)
      rw [Fl.read_inf (by omega)] at ht
      rw [hk _ hd rfl]
      show Result.ok (Next.value (.float .f64 (Fl.D.write _))) w = _
      rw [ht]
set_option maxHeartbeats 400000 in
theorem trunc_any (a : Nat) (ha : a < 2 ^ 64) (hc : Fl.canon a = a) (w : World) :
    Calls Try.prog 43 #[.float .f64 a] w fun e w' => e = .returned (.float .f64 (Fl.truncW a)) ∧ w = w' := by
  have hr := run_trunc a ha hc
  clear hc ha
  go_enter Try.func43, Try.ntmps43
  go_wp2
  go_ret
  exact ⟨rfl, rfl⟩
/-- what is cut off a float (one that is no other NaN), and whether it can be told. -/
def cutF (c : Nat) : Int × Int :=
  if Fl.rung c < Fl.infR ∧ -9223372036854775808 ≤ Fl.sv (Fl.sgn c) (Fl.trR (Fl.rung c) : Int) ∧ Fl.sv (Fl.sgn c) (Fl.trR (Fl.rung c) : Int) < 9223372036854775808 then (Fl.sv (Fl.sgn c) (Fl.trR (Fl.rung c) : Int), 0) else (0, 1)
theorem cut_tests (c : Nat) (hl : c < 2 ^ 64) (hc : Fl.canon c = c) :
    ∃ g1 g2 l : Bool, (FloatKind.f64.format.order (Fl.truncW c) 14114281232179134464 == some .gt) = g1 ∧ (FloatKind.f64.format.order (Fl.truncW c) 14114281232179134464 == some .eq) = g2 ∧ (FloatKind.f64.format.order (Fl.truncW c) 4890909195324358656 == some .lt) = l ∧
      ((((g1 || g2) && l) = true ∧ ∃ t : Int, (Fl.D.read (Fl.truncW c)).toInt .zero = some t ∧ -9223372036854775808 ≤ t ∧ t ≤ 9223372036854775807 ∧ cutF c = (t, 0)) ∨ (((g1 || g2) && l) = false ∧ cutF c = (0, 1))) := by
  refine ⟨_, _, _, rfl, rfl, rfl, ?_⟩
  cases hn : Fl.nan c with
  | true =>
    rw [Fl.canon_nan hn] at hc
    subst hc
    right
    exact ⟨by decide +kernel, by unfold cutF; rw [if_neg (by decide)]⟩
  | false =>
    have hle := Fl.rung_le_of hn
    have e1 : ∀ m, FloatKind.f64.format.order (Fl.truncW c) m = Fl.D.order (Fl.truncW c) m := fun _ => rfl
    rw [e1, e1]
    by_cases hf : Fl.rung c < Fl.infR
    · obtain ⟨h1, h2, h3⟩ := Fl.trunc_fin hf
      have o1 := Fl.order_ev (n := Fl.truncW c) (m := Fl.LOW63) (by omega) (by decide)
      have o2 := Fl.order_ev (n := Fl.truncW c) (m := Fl.HIGH63) (by omega) (by decide)
      rw [show (14114281232179134464 : Nat) = Fl.LOW63 from rfl, show (4890909195324358656 : Nat) = Fl.HIGH63 from rfl, o1, o2, Fl.cmp_gt, Fl.cmp_eq, Fl.cmp_lt, Fl.ev_low, Fl.ev_high, h2, h3]
      generalize ht : Fl.trR (Fl.rung c) = t
      have hp : 0 < 2 ^ Fl.X1074 := Nat.two_pow_pos _
      have hc2 : cutF c = if -9223372036854775808 ≤ Fl.sv (Fl.sgn c) (t : Int) ∧ Fl.sv (Fl.sgn c) (t : Int) < 9223372036854775808 then (Fl.sv (Fl.sgn c) (t : Int), 0) else (0, 1) := by
        unfold cutF; rw [ht]; simp only [hf, true_and]
      rw [hc2]
      generalize 2 ^ Fl.X1074 = p at *
      generalize Fl.sgn c = s at *
      have k1 : t * p ≤ 2 ^ 63 * p ↔ t ≤ 2 ^ 63 := Nat.mul_le_mul_right_iff hp
      have k2 : t * p < 2 ^ 63 * p ↔ t < 2 ^ 63 := Nat.mul_lt_mul_right hp
      generalize t * p = tp at *
      generalize hq : 2 ^ 63 * p = q at *
      have hq0 : 0 < q := by rw [← hq]; exact Nat.mul_pos (by decide) hp
      unfold Fl.sv
      cases s with
      | false =>
        simp only [Bool.false_eq_true, if_false]
        by_cases c1 : t < 2 ^ 63
        · left
          have := k2.2 c1
          refine ⟨by simp; omega, (t : Int), rfl, by omega, by omega, by rw [if_pos (by omega)]⟩
        · right
          have : ¬ tp < q := fun h => c1 (k2.1 h)
          refine ⟨by simp; omega, by rw [if_neg (by omega)]⟩
      | true =>
        simp only [if_true]
        by_cases c1 : t ≤ 2 ^ 63
        · left
          have := k1.2 c1
          refine ⟨by simp; omega, -(t : Int), rfl, by omega, by omega, by rw [if_pos (by omega)]⟩
        · right
          have : ¬ tp ≤ q := fun h => c1 (k1.1 h)
          refine ⟨by simp; omega, by rw [if_neg (by omega)]⟩
    · right
      have ht : Fl.truncW c = c := by unfold Fl.truncW; rw [if_neg hf]
      have hi : Fl.rung c = Fl.infR := by omega
      have hw := Fl.word_of hl
      rw [hi] at hw
      refine ⟨?_, by unfold cutF; rw [if_neg (by simp [hf])]⟩
      rw [ht, ← hw]
      cases Fl.sgn c <;> decide +kernel
theorem run_toInt (f : Nat) (t : Int) (h : (Fl.D.read f).toInt .zero = some t) (h1 : -9223372036854775808 ≤ t) (h2 : t ≤ 9223372036854775807) (w : World) : (convert 57 2 (.float .f64 f)).run Try.prog w = .ok (.int .i64 t) w := by
  have h' : (FloatKind.f64.decode f).toInt .zero = some t := h
  have hb : IntKind.i64.min ≤ t ∧ t ≤ IntKind.i64.max := by
    have e1 : IntKind.i64.min = -9223372036854775808 := rfl
    have e2 : IntKind.i64.max = 9223372036854775807 := rfl
    rw [e1, e2]; exact ⟨h1, h2⟩
  simp only [convert, Sem.run_bind, run_underlying Try.underlying57, run_underlying Try.underlying2, Result.andThen_ok, Conv.floatToInt, h', if_pos hb]
  rfl
set_option maxHeartbeats 1000000 in
theorem cut_c (a c : Nat) (f : Nat) (r : Int × Int) (Hc : Hid (Fl.canon a = c)) (HT : Hid (∀ w : World, Calls Try.prog 43 #[.float .f64 c] w fun e w' => e = .returned (.float .f64 f) ∧ w = w')) (g1 g2 l : Bool)
    (t1 : (FloatKind.f64.format.order f 14114281232179134464 == some .gt) = g1) (t2 : (FloatKind.f64.format.order f 14114281232179134464 == some .eq) = g2) (t3 : (FloatKind.f64.format.order f 4890909195324358656 == some .lt) = l)
    (hr : (((g1 || g2) && l) = true ∧ ∃ t : Int, (∀ w : World, (convert 57 2 (.float .f64 f)).run Try.prog w = .ok (.int .i64 t) w) ∧ r = (t, 0)) ∨ (((g1 || g2) && l) = false ∧ r = (0, 1))) (w : World) :
    Calls Try.prog 30 #[.int .u64 a] w fun e w' => e = .returned (.tuple #[.int .i64 r.1, .int .i64 r.2]) ∧ w = w' := by
  rcases hr with ⟨h, t, hcv, rfl⟩ | ⟨h, rfl⟩
  all_goals
    cases g1 <;> cases g2 <;> cases l
    all_goals first
      | (exact absurd h (by decide))
      | (clear h
         go_enter Try.func30, Try.ntmps30
         go_wp2_with (first
           | (go_at_call 35; ((with_reducible refine (number_any _ _).mono ?_); rintro e w' ⟨rfl, rfl⟩; rw [Hc.out]))
           | (go_at_call 43; ((with_reducible refine (HT.out _).mono ?_); rintro e w' ⟨rfl, rfl⟩)))
         go_ret2
         exact ⟨rfl, rfl⟩)
theorem fcut_any (a : Nat) (ha : a < 2 ^ 64) (w : World) :
    Calls Try.prog 30 #[.int .u64 a] w fun e w' => e = .returned (.tuple #[.int .i64 (cutF (Fl.canon a)).1, .int .i64 (cutF (Fl.canon a)).2]) ∧ w = w' := by
  have hl := Fl.canon_lt ha
  have hcc := Fl.canon_canon a
  obtain ⟨g1, g2, l, t1, t2, t3, h⟩ := cut_tests (Fl.canon a) hl hcc
  refine cut_c a (Fl.canon a) (Fl.truncW (Fl.canon a)) (cutF (Fl.canon a)) (Lib.hid rfl) (Lib.hid fun w => trunc_any _ hl hcc w) g1 g2 l t1 t2 t3 ?_ w
  rcases h with ⟨h1, t, h2, h3, h4, h5⟩ | ⟨h1, h2⟩
  · exact Or.inl ⟨h1, t, run_toInt _ t h2 h3 h4, h5⟩
  · exact Or.inr ⟨h1, h2⟩
theorem round_any (s : Bool) (v : Value) (n : Nat) (e : Int) (more : Bool) (he1 : -20000 ≤ e) (he2 : e ≤ 20000) (hlen : (Fl.dg n).length ≤ 20000) (w : World) (hv : Rd w v (Fl.dg n)) :
    Calls Try.prog 28 #[.bool s, v, .int .i64 e, .bool more] w fun r w' => r = .returned (.int .u64 (Fl.roundF s n e more : Int)) ∧ Below w.heap.size w w' := by
  by_cases hn : n = 0
  · subst hn
    rw [Fl.dg_zero] at hv
    refine (round_zero s v e more w hv).mono fun r w' ⟨h1, h2⟩ => ⟨?_, by rw [← h2]; exact Below.refl _ _⟩
    rw [h1]
    unfold Fl.roundF sg
    rw [if_pos rfl]
    cases s <;> rfl
  · exact round_pos s v n e more hn he1 he2 hlen w hv
end Go.Proofs.Ytebldhppnacdjaa
