/- Walks: what the functions of package floats come to, said in the plain words of the text Fm. -/
import Derived.Test.YtebldhppnacdjaaRows
import Derived.WalkKit
import Derived.WalkSpells
import Derived.WalkLawsBesides
import Derived.Laws.Externs
import Derived.Lib.Hide
import Derived.Laws.BitsAllLaws
import Derived.Test.YtebldhppnacdjaaFm
namespace Go.Proofs.Ytebldhppnacdjaa
open Go.RowKit
@[go_sem] theorem run_frombits (b : Int) (w : World) : (callFunc 33 #[.int .u64 b]).run Try.prog w = .ok (.value (.float .f64 b.toNat)) w := by
  rw [run_callFunc_extern Try.func33 (by kernel_rfl) (by kernel_rfl) (by kernel_rfl) (e := Extern.MathFloatBits.float64frombits) (by kernel_rfl)]
  rfl
@[go_sem] theorem run_bits (b : Nat) (w : World) : (callFunc 46 #[.float .f64 b]).run Try.prog w = .ok (.value (.int .u64 b)) w := by
  rw [run_callFunc_extern Try.func46 (by kernel_rfl) (by kernel_rfl) (by kernel_rfl) (e := Extern.MathFloatBits.float64bits) (by kernel_rfl)]
  rfl
theorem ret_u64 {a b : Int} (h : a = b) : Ending.returned (.int .u64 a) = .returned (.int .u64 b) := by rw [h]
theorem of_nan (n : Nat) : (FloatKind.f64.format.order n n != some .eq) = Fl.nan n := Fl.order_self
set_option maxHeartbeats 400000 in
theorem of_any (n : Nat) (w : World) :
    Calls Try.prog 14 #[.int .u64 n] w fun e w' => e = .returned (.int .u64 (Fl.canon n)) ∧ w = w' := by
  have h := of_nan n
  cases hc : Fl.nan n with
  | true =>
    rw [hc] at h
    rw [Fl.canon_nan hc]
    go_enter Try.func14, Try.ntmps14
    go_wp2
    go_ret
    exact ⟨rfl, rfl⟩
  | false =>
    rw [hc] at h
    rw [Fl.canon_num hc]
    go_enter Try.func14, Try.ntmps14
    go_wp2
    go_ret
    exact ⟨rfl, rfl⟩

set_option maxHeartbeats 400000 in
theorem number_any (n : Nat) (w : World) :
    Calls Try.prog 35 #[.int .u64 n] w fun e w' => e = .returned (.float .f64 (Fl.canon n)) ∧ w = w' := by
  go_enter Try.func35, Try.ntmps35
  go_wp2_with (go_at_call 14; refine (of_any _ _).mono ?_; rintro e w' ⟨rfl, rfl⟩)
  go_ret
  exact ⟨rfl, rfl⟩

set_option maxHeartbeats 400000 in
theorem of2_any (n : Nat) (w : World) :
    Calls Try.prog 34 #[.float .f64 n] w fun e w' => e = .returned (.int .u64 (Fl.canon n)) ∧ w = w' := by
  go_enter Try.func34, Try.ntmps34
  go_wp2_with (go_at_call 14; refine (of_any _ _).mono ?_; rintro e w' ⟨rfl, rfl⟩)
  go_ret
  exact ⟨rfl, rfl⟩

set_option maxHeartbeats 400000 in
theorem less_any (a b : Nat) (w : World) :
    Calls Try.prog 22 #[.int .u64 a, .int .u64 b] w fun e w' => e = .returned (.bool (Fl.D.order (Fl.canon a) (Fl.canon b) == some .lt)) ∧ w = w' := by
  go_enter Try.func22, Try.ntmps22
  go_wp2_with (go_at_call 35; refine (number_any _ _).mono ?_; rintro e w' ⟨rfl, rfl⟩)
  go_ret
  exact ⟨rfl, rfl⟩

set_option maxHeartbeats 400000 in
theorem equal_any (a b : Nat) (w : World) :
    Calls Try.prog 23 #[.int .u64 a, .int .u64 b] w fun e w' => e = .returned (.bool (Fl.D.order (Fl.canon a) (Fl.canon b) == some .eq)) ∧ w = w' := by
  go_enter Try.func23, Try.ntmps23
  go_wp2_with (go_at_call 35; refine (number_any _ _).mono ?_; rintro e w' ⟨rfl, rfl⟩)
  go_ret
  exact ⟨rfl, rfl⟩
theorem clear_top (a : Nat) (ha : a < 2 ^ 64) : Go.bits .andNot .u64 (a : Int) 9223372036854775808 = (Fl.rung a : Int) := by
  have e := u64_andNot_nat a 9223372036854775808 ha (by decide)
  rw [show ((9223372036854775808 : Nat) : Int) = 9223372036854775808 from rfl] at e
  rw [e, show 18446744073709551615 - 9223372036854775808 = 2 ^ 63 - 1 from rfl, Nat.and_two_pow_sub_one_eq_mod]
  rfl
set_option maxHeartbeats 400000 in
theorem abs_any (a : Nat) (ha : a < 2 ^ 64) (w : World) :
    Calls Try.prog 41 #[.float .f64 a] w fun e w' => e = .returned (.float .f64 (Fl.rung a)) ∧ w = w' := by
  have H := Lib.hid (clear_top a ha)
  clear ha
  go_enter Try.func41, Try.ntmps41
  go_wp2
  go_ret
  exact ⟨by simp [H.out], rfl⟩
set_option maxHeartbeats 400000 in
theorem inf_any (a : Nat) (ha : a < 2 ^ 64) (w : World) :
    Calls Try.prog 40 #[.float .f64 a, .int .i64 0] w fun e w' => e = .returned (.bool (FloatKind.f64.format.order (Fl.rung a) 9218868437227405311 == some .gt)) ∧ w = w' := by
  go_enter Try.func40, Try.ntmps40
  go_wp2_with (go_at_call 41; refine (abs_any _ ha _).mono ?_; rintro e w' ⟨rfl, rfl⟩)
  go_ret
  exact ⟨rfl, rfl⟩
set_option maxHeartbeats 400000 in
theorem kind_any (a : Nat) (ha : a < 2 ^ 64) (w : World) :
    Calls Try.prog 24 #[.int .u64 a] w fun e w' => e = .returned (.int .i64 (Fl.kindF (Fl.canon a))) ∧ w = w' := by
  have hc : Fl.canon a < 2 ^ 64 := Fl.canon_lt ha
  generalize hx : Fl.canon a = c at hc
  have HX := Lib.hid hx
  clear hx ha
  have t1 := of_nan c
  by_cases h1 : Fl.nan c = true
  · have hk : Fl.kindF c = 4 := by unfold Fl.kindF; rw [if_pos h1]
    rw [hk]
    rw [h1] at t1
    clear h1 hk
    go_enter Try.func24, Try.ntmps24
    go_wp2_with (go_at_call 35; refine (number_any _ _).mono ?_; rintro e w' ⟨rfl, rfl⟩; rw [HX.out])
    go_ret
    exact ⟨rfl, rfl⟩
  · replace h1 : Fl.nan c = false := by simpa using h1
    have t2 : (FloatKind.f64.format.order (Fl.rung c) 9218868437227405311 == some .gt) = decide (Fl.rung c = Fl.infR) := Fl.kind_inf h1
    have t3 : (FloatKind.f64.format.order c 0 == some .eq) = decide (Fl.rung c = 0) := Fl.kind_zero h1
    rw [h1] at t1
    by_cases h2 : Fl.rung c = Fl.infR
    · have hk : Fl.kindF c = 3 := by unfold Fl.kindF; rw [if_neg (by simp [h1]), if_pos h2]
      rw [hk]
      rw [decide_eq_true h2] at t2
      clear h1 hk h2 t3
      go_enter Try.func24, Try.ntmps24
      go_wp2_with (first | (go_at_call 35; refine (number_any _ _).mono ?_; rintro e w' ⟨rfl, rfl⟩; rw [HX.out]) | (go_at_call 41; refine (abs_any _ hc _).mono ?_; rintro e w' ⟨rfl, rfl⟩) | (go_at_call 40; refine (inf_any _ hc _).mono ?_; rintro e w' ⟨rfl, rfl⟩))
      go_ret
      exact ⟨rfl, rfl⟩
    · rw [decide_eq_false h2] at t2
      have t4 : (FloatKind.f64.format.order (Fl.rung c) 4503599627370496 == some .lt) = decide (Fl.rung c < 2 ^ 52) := Fl.kind_small h1 h2
      by_cases h3 : Fl.rung c = 0
      · have hk : Fl.kindF c = 0 := by unfold Fl.kindF; rw [if_neg (by simp [h1]), if_neg h2, if_pos h3]
        rw [hk]
        rw [decide_eq_true h3] at t3
        clear h1 hk h2 h3 t4
        go_enter Try.func24, Try.ntmps24
        go_wp2_with (first | (go_at_call 35; refine (number_any _ _).mono ?_; rintro e w' ⟨rfl, rfl⟩; rw [HX.out]) | (go_at_call 41; refine (abs_any _ hc _).mono ?_; rintro e w' ⟨rfl, rfl⟩) | (go_at_call 40; refine (inf_any _ hc _).mono ?_; rintro e w' ⟨rfl, rfl⟩))
        go_ret
        exact ⟨rfl, rfl⟩
      · rw [decide_eq_false h3] at t3
        by_cases h4 : Fl.rung c < 2 ^ 52
        · have hk : Fl.kindF c = 1 := by unfold Fl.kindF; rw [if_neg (by simp [h1]), if_neg h2, if_neg h3, if_pos h4]
          rw [hk]
          rw [decide_eq_true h4] at t4
          clear h1 hk h2 h3 h4
          go_enter Try.func24, Try.ntmps24
          go_wp2_with (first | (go_at_call 35; refine (number_any _ _).mono ?_; rintro e w' ⟨rfl, rfl⟩; rw [HX.out]) | (go_at_call 41; refine (abs_any _ hc _).mono ?_; rintro e w' ⟨rfl, rfl⟩) | (go_at_call 40; refine (inf_any _ hc _).mono ?_; rintro e w' ⟨rfl, rfl⟩))
          go_ret
          exact ⟨rfl, rfl⟩
        · have hk : Fl.kindF c = 2 := by unfold Fl.kindF; rw [if_neg (by simp [h1]), if_neg h2, if_neg h3, if_neg h4]
          rw [hk]
          rw [decide_eq_false h4] at t4
          clear h1 hk h2 h3 h4
          go_enter Try.func24, Try.ntmps24
          go_wp2_with (first | (go_at_call 35; refine (number_any _ _).mono ?_; rintro e w' ⟨rfl, rfl⟩; rw [HX.out]) | (go_at_call 41; refine (abs_any _ hc _).mono ?_; rintro e w' ⟨rfl, rfl⟩) | (go_at_call 40; refine (inf_any _ hc _).mono ?_; rintro e w' ⟨rfl, rfl⟩))
          go_ret
          exact ⟨rfl, rfl⟩
def opF (op : BinOp) (x y : Nat) : Option Nat :=
  match op with
  | .add => Fl.D.add x y
  | .sub => Fl.D.sub x y
  | .mul => Fl.D.mul x y
  | _ => Fl.D.div x y
theorem run_quo (op : BinOp) (hop : op = .add ∨ op = .sub ∨ op = .mul ∨ op = .quo) (x y : Nat) (t : TypeId) (w : World) :
    ∃ r n, (binOp op t (.float .f64 x) (.float .f64 y)).run Try.prog w = .ok (.float .f64 r) (w.drewN n) ∧ Fl.canon r = Fl.res (opF op x y) := by
  have key : ∀ o : Option Nat, ∃ r n, (do
      match o with
      | some r => pure (Value.float .f64 r)
      | none => pure (.float .f64 (← choose (.nanBits .f64 x y))) : Sem Value).run Try.prog w = .ok (.float .f64 r) (w.drewN n) ∧ Fl.canon r = Fl.res o := by
    intro o
    cases o with
    | some r => exact ⟨r, 0, rfl, rfl⟩
    | none =>
      refine ⟨Question.cut (.nanBits .f64 x y) (w.tape w.drawn (.nanBits .f64 x y)), 1, rfl, ?_⟩
      refine Fl.canon_nan ?_
      generalize w.tape w.drawn (.nanBits .f64 x y) = q
      unfold Fl.nan Fl.rung Fl.infR
      refine decide_eq_true ?_
      simp only [Question.cut]
      have h1 : q / 2 % (2 ^ 52 - 1) < 2 ^ 52 - 1 := Nat.mod_lt _ (by decide)
      generalize q / 2 % (2 ^ 52 - 1) = m at *
      rw [Nat.add_assoc, Nat.add_assoc, Nat.mul_comm, Nat.mul_add_mod, Nat.mod_eq_of_lt (by omega)]
      omega
  rcases hop with rfl | rfl | rfl | rfl <;> exact key _
set_option maxHeartbeats 400000 in
theorem add_any (a b : Nat) (w : World) :
    Calls Try.prog 15 #[.int .u64 a, .int .u64 b] w fun e w' => e = .returned (.int .u64 (Fl.res (Fl.D.add (Fl.canon a) (Fl.canon b)))) ∧ ∃ n, w' = w.drewN n := by
  obtain ⟨r, n, hrun, hc⟩ := run_quo .add (by simp) (Fl.canon a) (Fl.canon b) 57 w
  have HC : Hid (Fl.canon r = Fl.res (Fl.D.add (Fl.canon a) (Fl.canon b))) := Lib.hid hc
  clear hc
  go_enter Try.func15, Try.ntmps15
  go_wp2_with (first | (go_at_call 35; refine (number_any _ _).mono ?_; rintro e w' ⟨rfl, rfl⟩) | (go_at_call 34; refine (of2_any _ _).mono ?_; rintro e w' ⟨rfl, rfl⟩))
  go_ret
  exact ⟨by rw [← HC.out]; rfl, n, rfl⟩
set_option maxHeartbeats 400000 in
theorem sub_any (a b : Nat) (w : World) :
    Calls Try.prog 17 #[.int .u64 a, .int .u64 b] w fun e w' => e = .returned (.int .u64 (Fl.res (Fl.D.sub (Fl.canon a) (Fl.canon b)))) ∧ ∃ n, w' = w.drewN n := by
  obtain ⟨r, n, hrun, hc⟩ := run_quo .sub (by simp) (Fl.canon a) (Fl.canon b) 57 w
  have HC : Hid (Fl.canon r = Fl.res (Fl.D.sub (Fl.canon a) (Fl.canon b))) := Lib.hid hc
  clear hc
  go_enter Try.func17, Try.ntmps17
  go_wp2_with (first | (go_at_call 35; refine (number_any _ _).mono ?_; rintro e w' ⟨rfl, rfl⟩) | (go_at_call 34; refine (of2_any _ _).mono ?_; rintro e w' ⟨rfl, rfl⟩))
  go_ret
  exact ⟨by rw [← HC.out]; rfl, n, rfl⟩
set_option maxHeartbeats 400000 in
theorem mul_any (a b : Nat) (w : World) :
    Calls Try.prog 18 #[.int .u64 a, .int .u64 b] w fun e w' => e = .returned (.int .u64 (Fl.res (Fl.D.mul (Fl.canon a) (Fl.canon b)))) ∧ ∃ n, w' = w.drewN n := by
  obtain ⟨r, n, hrun, hc⟩ := run_quo .mul (by simp) (Fl.canon a) (Fl.canon b) 57 w
  have HC : Hid (Fl.canon r = Fl.res (Fl.D.mul (Fl.canon a) (Fl.canon b))) := Lib.hid hc
  clear hc
  go_enter Try.func18, Try.ntmps18
  go_wp2_with (first | (go_at_call 35; refine (number_any _ _).mono ?_; rintro e w' ⟨rfl, rfl⟩) | (go_at_call 34; refine (of2_any _ _).mono ?_; rintro e w' ⟨rfl, rfl⟩))
  go_ret
  exact ⟨by rw [← HC.out]; rfl, n, rfl⟩
set_option maxHeartbeats 400000 in
theorem div_any (a b : Nat) (w : World) :
    Calls Try.prog 20 #[.int .u64 a, .int .u64 b] w fun e w' => e = .returned (.int .u64 (Fl.res (Fl.D.div (Fl.canon a) (Fl.canon b)))) ∧ ∃ n, w' = w.drewN n := by
  obtain ⟨r, n, hrun, hc⟩ := run_quo .quo (by simp) (Fl.canon a) (Fl.canon b) 57 w
  have HC : Hid (Fl.canon r = Fl.res (Fl.D.div (Fl.canon a) (Fl.canon b))) := Lib.hid hc
  clear hc
  go_enter Try.func20, Try.ntmps20
  go_wp2_with (first | (go_at_call 35; refine (number_any _ _).mono ?_; rintro e w' ⟨rfl, rfl⟩) | (go_at_call 34; refine (of2_any _ _).mono ?_; rintro e w' ⟨rfl, rfl⟩))
  go_ret
  exact ⟨by rw [← HC.out]; rfl, n, rfl⟩
end Go.Proofs.Ytebldhppnacdjaa
