/- Walks: the reference's Less. -/
import Derived.Test.YtebldhppnacdjaaFh
import Derived.Deep.LoopGhost
import Derived.Deep.DeepCutAuto
import Derived.Deep.CutBlock
set_option linter.unusedVariables false
namespace Go.Proofs.Ytebldhppnacdjaa
open Go.RowKit
theorem parts_c (n : Nat) (hn : n < 2 ^ 64) (s : Bool) (e : Int) (m : Nat) (i o : Bool) (h : partsF n = (s, e, m, i, o)) (w : World) :
    Calls Try.prog 26 #[.int .u64 n] w fun r w' => r = .returned (.tuple #[.bool s, .int .i64 e, .int .u64 (m : Int), .bool i, .bool o]) ∧ w = w' := by
  have := parts_any n hn w
  rw [h] at this
  exact this
/-- the reference's answer, of signs and digits. -/
def lessF (s t : Bool) (X Y : Nat) : Bool × Bool :=
  if X = 0 ∧ Y = 0 then (false, true) else if s = true ∧ t = true then (decide (0 < cmpF X Y), decide (cmpF X Y = 0)) else if s = true then (true, false) else if t = true then (false, false) else (decide (cmpF X Y < 0), decide (cmpF X Y = 0))
theorem cmpF_lt {X Y : Nat} : cmpF X Y < 0 ↔ X < Y := by unfold cmpF; split <;> (try split) <;> simp <;> omega
theorem cmpF_eq {X Y : Nat} : cmpF X Y = 0 ↔ X = Y := by unfold cmpF; split <;> (try split) <;> simp <;> omega
theorem cmpF_gt {X Y : Nat} : 0 < cmpF X Y ↔ Y < X := by unfold cmpF; split <;> (try split) <;> simp <;> omega
theorem lessF_ev (s t : Bool) (X Y : Nat) : ((lessF s t X Y).1 = true ↔ Fl.sv s X < Fl.sv t Y) ∧ ((lessF s t X Y).2 = true ↔ Fl.sv s X = Fl.sv t Y) := by
  unfold lessF Fl.sv
  by_cases h0 : X = 0 ∧ Y = 0
  · obtain ⟨rfl, rfl⟩ := h0
    cases s <;> cases t <;> simp
  · rw [if_neg h0]
    cases s <;> cases t <;> simp [cmpF_lt, cmpF_eq, cmpF_gt]
    all_goals omega
theorem cmp_scaleN (a b c : Nat) (hc : 0 < c) : cmpF (a * c) (b * c) = cmpF a b := by
  unfold cmpF
  have h1 : (a * c < b * c) ↔ a < b := Nat.mul_lt_mul_right hc
  have h2 : (a * c = b * c) ↔ a = b := Nat.mul_left_inj (by omega)
  simp only [h1, h2]
set_option maxHeartbeats 1000000 in
theorem rless_num (x y : Nat) (hx : x < 2 ^ 64) (hy : y < 2 ^ 64) (s t i j : Bool) (e f : Nat) (m n : Nat) (hpx : partsF x = (s, -1074 + (e : Int), m, i, false)) (hpy : partsF y = (t, -1074 + (f : Int), n, j, false)) (he : e ≤ 4074) (hf : f ≤ 4074) (hm : m < 2 ^ 64) (hn : n < 2 ^ 64) (X Y : Nat) (hX : (if i then 2 ^ Fl.E3000 else m * 2 ^ e) = X) (hY : (if j then 2 ^ Fl.E3000 else n * 2 ^ f) = Y) (w : World) :
    Calls Try.prog 25 #[.int .u64 x, .int .u64 y] w fun r w' => r = .returned (.tuple #[.bool (lessF s t X Y).1, .bool (lessF s t X Y).2]) ∧ Below w.heap.size w w' := by
  have PX := Lib.hid (parts_c x hx _ _ _ _ _ hpx)
  have PY := Lib.hid (parts_c y hy _ _ _ _ _ hpy)
  have HX0 := Lib.hid hX
  have HY0 := Lib.hid hY
  clear hpx hpy hx hy hX hY
  go_enter Try.func25, Try.ntmps25
  go_upto_if 38 with (go_at_call 26; first | ((with_reducible refine (PX.out _).mono ?_); rintro e w' ⟨rfl, rfl⟩) | ((with_reducible refine (PY.out _).mono ?_); rintro e w' ⟨rfl, rfl⟩))
  go_cut [7, 8] (fun v1 v2 wc => wc = w ∧ ∃ e' m' : Nat, v1 = .int .i64 (-1074 + (e' : Int)) ∧ v2 = .int .u64 m' ∧ e' ≤ 4074 ∧ m' < 2 ^ 64 ∧ Hid (m' * 2 ^ e' = X))
  case first =>
    cases i
    · go_wp2
      go_meet
      case rel => exact ⟨rfl, e, m, rfl, rfl, he, hm, Lib.hid HX0.out⟩
    · go_wp2
      go_meet
      case rel => exact ⟨rfl, Fl.E3000, 1, by rfl, by rfl, by decide, by omega, Lib.hid (by rw [Nat.one_mul]; exact HX0.out)⟩
  case rest =>
    obtain ⟨rfl, e', m', rfl, rfl, he', hm', HX⟩ := hcut
    go_upto_if 39 with (fail)
    go_cut [12, 13] (fun v1 v2 wd => wd = wc ∧ ∃ f' n' : Nat, v1 = .int .i64 (-1074 + (f' : Int)) ∧ v2 = .int .u64 n' ∧ f' ≤ 4074 ∧ n' < 2 ^ 64 ∧ Hid (n' * 2 ^ f' = Y))
    case first =>
      cases j
      · go_wp2
        go_meet
        case rel => exact ⟨rfl, f, n, rfl, rfl, hf, hn, Lib.hid HY0.out⟩
      · go_wp2
        go_meet
        case rel => exact ⟨rfl, Fl.E3000, 1, by rfl, by rfl, by decide, by omega, Lib.hid (by rw [Nat.one_mul]; exact HY0.out)⟩
    case rest =>
      obtain ⟨rfl, f', n', rfl, rfl, hf', hn', HY⟩ := hcut
      clear HX0 HY0
      obtain ⟨c, hc⟩ : ∃ c, cmpF X Y = c := ⟨_, rfl⟩
      have HF : Hid (lessF s t X Y = if X = 0 ∧ Y = 0 then (false, true) else if s = true ∧ t = true then (decide (0 < c), decide (c = 0)) else if s = true then (true, false) else if t = true then (false, false) else (decide (c < 0), decide (c = 0))) := Lib.hid (by rw [← hc]; rfl)
      by_cases hef : (f' : Int) < e'
      · obtain ⟨g, hg⟩ : ∃ g : Nat, -1074 + (e' : Int) - (-1074 + (f' : Int)) = g := ⟨e' - f', by omega⟩
        have D1 : Hid (∀ w : World, Calls Try.prog 29 #[.int .u64 (m' : Int), .int .i64 (g : Int)] w fun e w' => (∃ v', e = .returned v' ∧ Rd w' v' (Fl.dg (m' * 2 ^ g))) ∧ Below w.heap.size w w') := Lib.hid (fun w => dof_any m' g hm' (by omega) w)
        have D2 : Hid (∀ w : World, Calls Try.prog 29 #[.int .u64 (n' : Int), .int .i64 0] w fun e w' => (∃ v', e = .returned v' ∧ Rd w' v' (Fl.dg (n' * 2 ^ 0))) ∧ Below w.heap.size w w') := Lib.hid (fun w => dof_any n' 0 hn' (by omega) w)
        have HC : Hid (cmpF (m' * 2 ^ g) (n' * 2 ^ 0) = c) := Lib.hid (by
          rw [← hc, ← HX.out, ← HY.out, ← cmp_scaleN _ _ (2 ^ f') (Nat.two_pow_pos _), Nat.mul_assoc, Nat.mul_assoc, ← Nat.pow_add, ← Nat.pow_add]
          congr 3 <;> omega)
        clear hc
        by_cases hz : m' = 0 ∧ n' = 0
        · obtain ⟨hz1, hz2⟩ := hz
          have HF2 : Hid (lessF s t X Y = (false, true)) := Lib.hid (by
            unfold lessF; rw [if_pos (by rw [← HX.out, ← HY.out, hz1, hz2]; simp)])
          have t1 : ((m' : Int) == 0) = true := by rw [hz1]; rfl
          have t2 : ((n' : Int) == 0) = true := by rw [hz2]; rfl
          clear hz1 hz2 HX HY HF
          go_wp2_with (first
            | (go_at_call 29; first | ((with_reducible refine (D1.out _).mono ?_); rintro e w1 ⟨⟨v1, rfl, hv1⟩, hb1⟩) | ((with_reducible refine (D2.out _).mono ?_); rintro e w2 ⟨⟨v2, rfl, hv2⟩, hb2⟩))
            | (go_at_call 37; ((with_reducible refine (cmp_any _ _ _ _ _ (hv1.below hb2) hv2).mono ?_); rintro e w' ⟨rfl, rfl⟩; rw [HC.out])))
          go_ret2
          exact ⟨by rw [HF2.out]; rfl, hb1.trans ((hb2.trans (Below.refl _ _)).mono hb1.size)⟩
        · have HF2 : Hid (lessF s t X Y = if s = true ∧ t = true then (decide (0 < c), decide (c = 0)) else if s = true then (true, false) else if t = true then (false, false) else (decide (c < 0), decide (c = 0))) := Lib.hid (by
            rw [HF.out, if_neg]
            intro hxy
            refine hz ⟨?_, ?_⟩
            · have := HX.out; rw [hxy.1] at this; rcases Nat.mul_eq_zero.1 this with h | h
              · exact h
              · have := Nat.two_pow_pos e'; omega
            · have := HY.out; rw [hxy.2] at this; rcases Nat.mul_eq_zero.1 this with h | h
              · exact h
              · have := Nat.two_pow_pos f'; omega)
          have hz2 : m' ≠ 0 ∨ (m' = 0 ∧ n' ≠ 0) := by omega
          have hcd : (c == 0) = decide (c = 0) := rfl
          clear HX HY HF hz
          rcases hz2 with hz2 | ⟨hz2, hz3⟩
          all_goals
            have t1 : ((m' : Int) == 0) = (decide (m' = 0)) := by rw [Bool.eq_iff_iff]; simp
            have t2 : ((n' : Int) == 0) = (decide (n' = 0)) := by rw [Bool.eq_iff_iff]; simp
            first | rw [decide_eq_false hz2] at t1 | (rw [decide_eq_true hz2] at t1; rw [decide_eq_false hz3] at t2)
            clear hz2
            cases s
            all_goals
              cases t
              all_goals
                go_wp2_with (first
            | (go_at_call 29; first | ((with_reducible refine (D1.out _).mono ?_); rintro e w1 ⟨⟨v1, rfl, hv1⟩, hb1⟩) | ((with_reducible refine (D2.out _).mono ?_); rintro e w2 ⟨⟨v2, rfl, hv2⟩, hb2⟩))
            | (go_at_call 37; ((with_reducible refine (cmp_any _ _ _ _ _ (hv1.below hb2) hv2).mono ?_); rintro e w' ⟨rfl, rfl⟩; rw [HC.out])))
                go_ret2
                exact ⟨by rw [HF2.out]; rfl, hb1.trans (hb2.mono hb1.size)⟩
      · obtain ⟨g, hg⟩ : ∃ g : Nat, -1074 + (f' : Int) - (-1074 + (e' : Int)) = g := ⟨f' - e', by omega⟩
        have D1 : Hid (∀ w : World, Calls Try.prog 29 #[.int .u64 (m' : Int), .int .i64 0] w fun e w' => (∃ v', e = .returned v' ∧ Rd w' v' (Fl.dg (m' * 2 ^ 0))) ∧ Below w.heap.size w w') := Lib.hid (fun w => dof_any m' 0 hm' (by omega) w)
        have D2 : Hid (∀ w : World, Calls Try.prog 29 #[.int .u64 (n' : Int), .int .i64 (g : Int)] w fun e w' => (∃ v', e = .returned v' ∧ Rd w' v' (Fl.dg (n' * 2 ^ g))) ∧ Below w.heap.size w w') := Lib.hid (fun w => dof_any n' g hn' (by omega) w)
        have HC : Hid (cmpF (m' * 2 ^ 0) (n' * 2 ^ g) = c) := Lib.hid (by
          rw [← hc, ← HX.out, ← HY.out, ← cmp_scaleN _ _ (2 ^ e') (Nat.two_pow_pos _), Nat.mul_assoc, Nat.mul_assoc, ← Nat.pow_add, ← Nat.pow_add]
          congr 3 <;> omega)
        clear hc
        by_cases hz : m' = 0 ∧ n' = 0
        · obtain ⟨hz1, hz2⟩ := hz
          have HF2 : Hid (lessF s t X Y = (false, true)) := Lib.hid (by
            unfold lessF; rw [if_pos (by rw [← HX.out, ← HY.out, hz1, hz2]; simp)])
          have t1 : ((m' : Int) == 0) = true := by rw [hz1]; rfl
          have t2 : ((n' : Int) == 0) = true := by rw [hz2]; rfl
          clear hz1 hz2 HX HY HF
          go_wp2_with (first
            | (go_at_call 29; first | ((with_reducible refine (D1.out _).mono ?_); rintro e w1 ⟨⟨v1, rfl, hv1⟩, hb1⟩) | ((with_reducible refine (D2.out _).mono ?_); rintro e w2 ⟨⟨v2, rfl, hv2⟩, hb2⟩))
            | (go_at_call 37; ((with_reducible refine (cmp_any _ _ _ _ _ (hv1.below hb2) hv2).mono ?_); rintro e w' ⟨rfl, rfl⟩; rw [HC.out])))
          go_ret2
          exact ⟨by rw [HF2.out]; rfl, hb1.trans ((hb2.trans (Below.refl _ _)).mono hb1.size)⟩
        · have HF2 : Hid (lessF s t X Y = if s = true ∧ t = true then (decide (0 < c), decide (c = 0)) else if s = true then (true, false) else if t = true then (false, false) else (decide (c < 0), decide (c = 0))) := Lib.hid (by
            rw [HF.out, if_neg]
            intro hxy
            refine hz ⟨?_, ?_⟩
            · have := HX.out; rw [hxy.1] at this; rcases Nat.mul_eq_zero.1 this with h | h
              · exact h
              · have := Nat.two_pow_pos e'; omega
            · have := HY.out; rw [hxy.2] at this; rcases Nat.mul_eq_zero.1 this with h | h
              · exact h
              · have := Nat.two_pow_pos f'; omega)
          have hz2 : m' ≠ 0 ∨ (m' = 0 ∧ n' ≠ 0) := by omega
          have hcd : (c == 0) = decide (c = 0) := rfl
          clear HX HY HF hz
          rcases hz2 with hz2 | ⟨hz2, hz3⟩
          all_goals
            have t1 : ((m' : Int) == 0) = (decide (m' = 0)) := by rw [Bool.eq_iff_iff]; simp
            have t2 : ((n' : Int) == 0) = (decide (n' = 0)) := by rw [Bool.eq_iff_iff]; simp
            first | rw [decide_eq_false hz2] at t1 | (rw [decide_eq_true hz2] at t1; rw [decide_eq_false hz3] at t2)
            clear hz2
            cases s
            all_goals
              cases t
              all_goals
                go_wp2_with (first
            | (go_at_call 29; first | ((with_reducible refine (D1.out _).mono ?_); rintro e w1 ⟨⟨v1, rfl, hv1⟩, hb1⟩) | ((with_reducible refine (D2.out _).mono ?_); rintro e w2 ⟨⟨v2, rfl, hv2⟩, hb2⟩))
            | (go_at_call 37; ((with_reducible refine (cmp_any _ _ _ _ _ (hv1.below hb2) hv2).mono ?_); rintro e w' ⟨rfl, rfl⟩; rw [HC.out])))
                go_ret2
                exact ⟨by rw [HF2.out]; rfl, hb1.trans (hb2.mono hb1.size)⟩
set_option maxHeartbeats 1000000 in
theorem rless_nan (x y : Nat) (hx : x < 2 ^ 64) (hy : y < 2 ^ 64) (h : Fl.nan x = true ∨ Fl.nan y = true) (w : World) :
    Calls Try.prog 25 #[.int .u64 x, .int .u64 y] w fun r w' => r = .returned (.tuple #[.bool false, .bool false]) ∧ w = w' := by
  have PX : Hid (∀ w : World, Calls Try.prog 26 #[.int .u64 (x : Int)] w fun e w' => e = .returned (.tuple #[.bool (partsF x).1, .int .i64 (partsF x).2.1, .int .u64 ((partsF x).2.2.1 : Int), .bool (partsF x).2.2.2.1, .bool (Fl.nan x)]) ∧ w = w') := Lib.hid fun w => by
    have := parts_any x hx w; rw [parts_none] at this; exact this
  have PY : Hid (∀ w : World, Calls Try.prog 26 #[.int .u64 (y : Int)] w fun e w' => e = .returned (.tuple #[.bool (partsF y).1, .int .i64 (partsF y).2.1, .int .u64 ((partsF y).2.2.1 : Int), .bool (partsF y).2.2.2.1, .bool (Fl.nan y)]) ∧ w = w') := Lib.hid fun w => by
    have := parts_any y hy w; rw [parts_none] at this; exact this
  clear hx hy
  generalize partsF x = p at PX
  generalize partsF y = q at PY
  generalize Fl.nan x = a at PX h
  generalize Fl.nan y = b at PY h
  cases a with
  | true =>
    clear h
    go_enter Try.func25, Try.ntmps25
    go_wp2_with (go_at_call 26; first | ((with_reducible refine (PX.out _).mono ?_); rintro e w' ⟨rfl, rfl⟩) | ((with_reducible refine (PY.out _).mono ?_); rintro e w' ⟨rfl, rfl⟩))
    go_ret2
    exact ⟨rfl, rfl⟩
  | false =>
    obtain rfl : b = true := by rcases h with h | h; cases h; exact h
    clear h
    go_enter Try.func25, Try.ntmps25
    go_wp2_with (go_at_call 26; first | ((with_reducible refine (PX.out _).mono ?_); rintro e w' ⟨rfl, rfl⟩) | ((with_reducible refine (PY.out _).mono ?_); rintro e w' ⟨rfl, rfl⟩))
    go_ret2
    exact ⟨rfl, rfl⟩
theorem parts_num {x : Nat} (h : Fl.nan x = false) : ∃ (i : Bool) (e m : Nat), partsF x = (Fl.sgn x, -1074 + (e : Int), m, i, false) ∧ e ≤ 4074 ∧ m < 2 ^ 64 ∧ Fl.ev x = Fl.sv (Fl.sgn x) (((if i then 2 ^ Fl.E3000 else m * 2 ^ e : Nat)) : Int) := by
  have hle := Fl.rung_le_of h
  by_cases hi : Fl.rung x = Fl.infR
  · refine ⟨true, 1074, 0, ?_, by decide, by decide, ?_⟩
    · unfold partsF; rw [if_neg (by simp [h]), if_pos hi]; rfl
    · rw [Fl.ev_inf hi]
      unfold Fl.big
      generalize Fl.E3000 = E
      simp
  · have hf : Fl.rung x < Fl.infR := by omega
    refine ⟨false, Fl.plR (Fl.rung x), Fl.magR (Fl.rung x), ?_, ?_, ?_, ?_⟩
    · unfold partsF; rw [if_neg (by simp [h]), if_neg hi]
    · unfold Fl.plR Fl.infR at *; split <;> omega
    · unfold Fl.magR; split <;> omega
    · rw [Fl.ev_fin hf]; rfl
theorem rless_any (x y : Nat) (hx : x < 2 ^ 64) (hy : y < 2 ^ 64) (w : World) :
    Calls Try.prog 25 #[.int .u64 x, .int .u64 y] w fun r w' => r = .returned (.tuple #[.bool (Fl.D.order x y == some .lt), .bool (Fl.D.order x y == some .eq)]) ∧ Below w.heap.size w w' := by
  by_cases h : Fl.nan x = true ∨ Fl.nan y = true
  · have ho : Fl.D.order x y = none := by
      rcases h with h | h
      · exact Fl.order_nan_left (by unfold Fl.nan at h; simpa using h)
      · exact Fl.order_nan_right (by unfold Fl.nan at h; simpa using h)
    rw [ho]
    exact (rless_nan x y hx hy h w).mono fun e w' ⟨h1, h2⟩ => ⟨h1, by rw [← h2]; exact Below.refl _ _⟩
  · have nx : Fl.nan x = false := by cases hh : Fl.nan x with | false => rfl | true => exact absurd (Or.inl hh) h
    have ny : Fl.nan y = false := by cases hh : Fl.nan y with | false => rfl | true => exact absurd (Or.inr hh) h
    obtain ⟨i, e, m, h1, h2, h3, h4⟩ := parts_num nx
    obtain ⟨j, f, n, k1, k2, k3, k4⟩ := parts_num ny
    obtain ⟨X, hX⟩ : ∃ X, (if i then 2 ^ Fl.E3000 else m * 2 ^ e : Nat) = X := ⟨_, rfl⟩
    obtain ⟨Y, hY⟩ : ∃ X, (if j then 2 ^ Fl.E3000 else n * 2 ^ f : Nat) = X := ⟨_, rfl⟩
    have hr := rless_num x y hx hy _ _ _ _ e f m n h1 k1 h2 k2 h3 k3 X Y hX hY w
    have hl := lessF_ev (Fl.sgn x) (Fl.sgn y) X Y
    rw [hX] at h4
    rw [hY] at k4
    rw [← h4, ← k4] at hl
    rw [Fl.order_ev (Fl.rung_le_of nx) (Fl.rung_le_of ny), Fl.cmp_lt, Fl.cmp_eq]
    have e1 : (lessF (Fl.sgn x) (Fl.sgn y) X Y).1 = decide (Fl.ev x < Fl.ev y) := by rw [Bool.eq_iff_iff, hl.1]; simp
    have e2 : (lessF (Fl.sgn x) (Fl.sgn y) X Y).2 = decide (Fl.ev x = Fl.ev y) := by rw [Bool.eq_iff_iff, hl.2]; simp
    rw [e1, e2] at hr
    exact hr
end Go.Proofs.Ytebldhppnacdjaa
