/- FloatsSums: for any two words of 64 bits the law returns true; no condition. -/
import Derived.Test.YtebldhppnacdjaaFz
import Derived.Test.YtebldhppnacdjaaFl
import Derived.Test.YtebldhppnacdjaaLw
set_option linter.unusedVariables false
namespace Go.Proofs.Ytebldhppnacdjaa.floatsSums
open Go.ChangeShapes Go.WideShapes Go.ChangeAt Go.RowKit
theorem own : ownKnob Try.prog.godebug = none := by kernel_rfl
theorem laidOut : laidOutB Try.prog = true := by kernel_rfl
theorem below_drewN (w : World) (n : Nat) : Below w.heap.size w (w.drewN n) := ⟨rfl, rfl, rfl, Nat.le_refl _, fun _ _ => rfl⟩
theorem op_canon (F : Nat → Nat → Option Nat) (h : ∀ x y, Fl.infR < Fl.rung x ∨ Fl.infR < Fl.rung y → F x y = none) (x y : Nat) : Fl.res (F (Fl.canon x) (Fl.canon y)) = Fl.res (F x y) := by
  have ny : ∀ {a : Nat}, Fl.nan a = true → Fl.infR < Fl.rung a := fun h => by unfold Fl.nan at h; simpa using h
  have nn : Fl.infR < Fl.rung Fl.NONE := ny Fl.nan_NONE
  cases hx : Fl.nan x with
  | true => rw [Fl.canon_nan hx, h _ _ (Or.inl nn), h _ _ (Or.inl (ny hx))]
  | false =>
    cases hy : Fl.nan y with
    | true => rw [Fl.canon_nan hy, h _ _ (Or.inr nn), h _ _ (Or.inr (ny hy))]
    | false => rw [Fl.canon_num hx, Fl.canon_num hy]
set_option maxHeartbeats 1000000 in
set_option maxRecDepth 100000 in
theorem core (x y a b r1 r2 r3 r4 : Nat)
    (OX : Hid (∀ w : World, Calls Try.prog 14 #[.int .u64 (x : Int)] w fun r w' => r = .returned (.int .u64 (a : Int)) ∧ w = w'))
    (OY : Hid (∀ w : World, Calls Try.prog 14 #[.int .u64 (y : Int)] w fun r w' => r = .returned (.int .u64 (b : Int)) ∧ w = w'))
    (ON : Hid (∀ w : World, Calls Try.prog 13 #[.int .u64 (x : Int)] w fun r w' => r = .returned (.int .u64 (a : Int)) ∧ w = w'))
    (A1 : Hid (∀ w : World, Calls Try.prog 15 #[.int .u64 (a : Int), .int .u64 (b : Int)] w fun r w' => r = .returned (.int .u64 (r1 : Int)) ∧ Below w.heap.size w w'))
    (A2 : Hid (∀ w : World, Calls Try.prog 16 #[.int .u64 (x : Int), .int .u64 (y : Int), .bool false] w fun r w' => r = .returned (.int .u64 (r1 : Int)) ∧ Below w.heap.size w w'))
    (A3 : Hid (∀ w : World, Calls Try.prog 15 #[.int .u64 (x : Int), .int .u64 (y : Int)] w fun r w' => r = .returned (.int .u64 (r1 : Int)) ∧ Below w.heap.size w w'))
    (S1 : Hid (∀ w : World, Calls Try.prog 17 #[.int .u64 (a : Int), .int .u64 (b : Int)] w fun r w' => r = .returned (.int .u64 (r2 : Int)) ∧ Below w.heap.size w w'))
    (S2 : Hid (∀ w : World, Calls Try.prog 16 #[.int .u64 (x : Int), .int .u64 (y : Int), .bool true] w fun r w' => r = .returned (.int .u64 (r2 : Int)) ∧ Below w.heap.size w w'))
    (M1 : Hid (∀ w : World, Calls Try.prog 18 #[.int .u64 (a : Int), .int .u64 (b : Int)] w fun r w' => r = .returned (.int .u64 (r3 : Int)) ∧ Below w.heap.size w w'))
    (M2 : Hid (∀ w : World, Calls Try.prog 19 #[.int .u64 (x : Int), .int .u64 (y : Int)] w fun r w' => r = .returned (.int .u64 (r3 : Int)) ∧ Below w.heap.size w w'))
    (Q1 : Hid (∀ w : World, Calls Try.prog 20 #[.int .u64 (a : Int), .int .u64 (b : Int)] w fun r w' => r = .returned (.int .u64 (r4 : Int)) ∧ Below w.heap.size w w'))
    (Q2 : Hid (∀ w : World, Calls Try.prog 21 #[.int .u64 (x : Int), .int .u64 (y : Int)] w fun r w' => r = .returned (.int .u64 (r4 : Int)) ∧ Below w.heap.size w w')) (w : World) :
    Calls Try.prog 4 #[.int .u64 x, .int .u64 y] w fun r w' => r = .returned (.bool true) ∧ Below w.heap.size w w' := by
  go_enter Try.func4, Try.ntmps4
  have hb : Below w.heap.size w w := Below.refl _ _
  go_wp2_with (first
    | (go_at_call 9; ((with_reducible refine (lives_any _).mono ?_); rintro e w1 ⟨rfl, h1⟩; replace hb := hb.trans (h1.mono hb.size); clear h1))
    | (go_at_call 14; first | ((with_reducible refine (OX.out _).mono ?_); rintro e w' ⟨rfl, rfl⟩) | ((with_reducible refine (OY.out _).mono ?_); rintro e w' ⟨rfl, rfl⟩))
    | (go_at_call 13; ((with_reducible refine (ON.out _).mono ?_); rintro e w' ⟨rfl, rfl⟩))
    | (go_at_call 15; first | ((with_reducible refine (A1.out _).mono ?_); rintro e w1 ⟨rfl, h1⟩; replace hb := hb.trans (h1.mono hb.size); clear h1) | ((with_reducible refine (A3.out _).mono ?_); rintro e w1 ⟨rfl, h1⟩; replace hb := hb.trans (h1.mono hb.size); clear h1))
    | (go_at_call 16; first | ((with_reducible refine (A2.out _).mono ?_); rintro e w1 ⟨rfl, h1⟩; replace hb := hb.trans (h1.mono hb.size); clear h1) | ((with_reducible refine (S2.out _).mono ?_); rintro e w1 ⟨rfl, h1⟩; replace hb := hb.trans (h1.mono hb.size); clear h1))
    | (go_at_call 17; ((with_reducible refine (S1.out _).mono ?_); rintro e w1 ⟨rfl, h1⟩; replace hb := hb.trans (h1.mono hb.size); clear h1))
    | (go_at_call 18; ((with_reducible refine (M1.out _).mono ?_); rintro e w1 ⟨rfl, h1⟩; replace hb := hb.trans (h1.mono hb.size); clear h1))
    | (go_at_call 19; ((with_reducible refine (M2.out _).mono ?_); rintro e w1 ⟨rfl, h1⟩; replace hb := hb.trans (h1.mono hb.size); clear h1))
    | (go_at_call 20; ((with_reducible refine (Q1.out _).mono ?_); rintro e w1 ⟨rfl, h1⟩; replace hb := hb.trans (h1.mono hb.size); clear h1))
    | (go_at_call 21; ((with_reducible refine (Q2.out _).mono ?_); rintro e w1 ⟨rfl, h1⟩; replace hb := hb.trans (h1.mono hb.size); clear h1)))
  go_ret
  exact ⟨rfl, hb⟩
theorem sub_nan {x y : Nat} (h : Fl.infR < Fl.rung x ∨ Fl.infR < Fl.rung y) : Fl.D.sub x y = none := by
  unfold Ieee.Format.sub
  rcases h with h | h
  · rw [Fl.read_nan h]; rfl
  · rw [Fl.read_nan h]; cases Fl.D.read x <;> rfl
theorem walk (x y : Nat) (hx : x < 2 ^ 64) (hy : y < 2 ^ 64) (w : World) :
    Calls Try.prog 4 #[.int .u64 x, .int .u64 y] w fun r w' => r = .returned (.bool true) ∧ Below w.heap.size w w' := by
  refine core x y (Fl.canon x) (Fl.canon y) (Fl.res (Fl.D.add x y)) (Fl.res (Fl.D.sub x y)) (Fl.res (Fl.D.mul x y)) (Fl.res (Fl.D.div x y)) (Lib.hid fun w => of_any x w) (Lib.hid fun w => of_any y w) (Lib.hid fun w => one_any x hx w)
    (Lib.hid fun w => ?_) (Lib.hid fun w => ?_) (Lib.hid fun w => ?_) (Lib.hid fun w => ?_) (Lib.hid fun w => ?_) (Lib.hid fun w => ?_) (Lib.hid fun w => rmul_any x y hx hy w) (Lib.hid fun w => ?_) (Lib.hid fun w => rdiv_any x y hx hy w) w
  · refine (add_any (Fl.canon x) (Fl.canon y) w).mono ?_
    rintro e w' ⟨h, n, rfl⟩
    rw [Fl.canon_canon, Fl.canon_canon, op_canon _ (fun _ _ => Fl.add_nan)] at h
    exact ⟨h, below_drewN _ _⟩
  · have := radd_any x y hx hy false w
    rw [addY_false] at this
    exact this
  · refine (add_any x y w).mono ?_
    rintro e w' ⟨h, n, rfl⟩
    rw [op_canon _ (fun _ _ => Fl.add_nan)] at h
    exact ⟨h, below_drewN _ _⟩
  · refine (sub_any (Fl.canon x) (Fl.canon y) w).mono ?_
    rintro e w' ⟨h, n, rfl⟩
    rw [Fl.canon_canon, Fl.canon_canon, op_canon _ (fun _ _ => sub_nan)] at h
    exact ⟨h, below_drewN _ _⟩
  · have := radd_any x y hx hy true w
    rw [addY_true, ← Fl.sub_flip x y hy] at this
    exact this
  · refine (mul_any (Fl.canon x) (Fl.canon y) w).mono ?_
    rintro e w' ⟨h, n, rfl⟩
    rw [Fl.canon_canon, Fl.canon_canon, op_canon _ (fun _ _ => Fl.mul_nan)] at h
    exact ⟨h, below_drewN _ _⟩
  · refine (div_any (Fl.canon x) (Fl.canon y) w).mono ?_
    rintro e w' ⟨h, n, rfl⟩
    rw [Fl.canon_canon, Fl.canon_canon, op_canon _ (fun _ _ => Fl.div_nan)] at h
    exact ⟨h, below_drewN _ _⟩
theorem nat_of {a : Int} (h : (Lit.int .u64 a).wf = true) : ∃ n : Nat, a = n ∧ n < 2 ^ 64 := by
  have := bounds_u64 h
  exact ⟨a.toNat, by omega, by omega⟩
set_option maxRecDepth 100000 in
theorem lifted (os : Os) (started : os.Started) (H : Type) (enc : TypeId × Value → H) :
    ReturnsInHanded {} Try.checked os 4 .any (Rows.floatsSumsSpec.pre6 enc Try.prog Try.f4 Rows.floatsSumsRow.domain false) (Rows.floatsSumsSpec.post enc Try.prog Try.f4 false true false false) := by
  refine returnsInHanded_of_change (C := Try.checked) own started (by kernel_rfl) Try.func4
    (ChangeSpec.witness6 (enc := enc) (C := Try.checked) false ⟨#[], #[.int .u64 0, .int .u64 0], []⟩ 8 (by kernel_rfl) (by kernel_rfl) (by kernel_rfl) (by kernel_rfl)) ?_
  intro W base args ds gs before hval0 hW hcnd _
  have hval : ∀ (j : Nat) t v, Try.f4.params[j]? = some t → args[j]? = some v → Value.okWide Try.prog W .any base t v := hval0
  have hW' := hW
  obtain ⟨p, q, hA0, hV, rfl, hfz, hnd⟩ := hW
  have hA : DataW.TrodAll enc Try.prog W 0 (fun _ => true) true Try.f4.params.toList args.toList ds p := hA0
  rw [Try.params4] at hA hval
  obtain ⟨v0, vs0, d0, ds0, p0, q0, hargs, rfl, rfl, h0, r0⟩ := trodAll_cons hA
  obtain ⟨v1, vs1, d1, ds1, p1, q1, rfl, rfl, rfl, h1, r1⟩ := trodAll_cons r0
  obtain ⟨rfl, rfl, rfl⟩ := trodAll_nil r1
  obtain rfl : args = #[v0, v1] := by cases args; simp_all
  obtain ⟨rfl, rfl⟩ := trodVars_none hV
  obtain ⟨a0, rfl, rfl, rfl, w0⟩ := open_int Try.underlying22 (hval 0 22 v0 rfl rfl) h0
  obtain ⟨n0, rfl, l0⟩ := nat_of w0
  obtain ⟨a1, rfl, rfl, rfl, w1⟩ := open_int Try.underlying22 (hval 1 22 v1 rfl rfl) h1
  obtain ⟨n1, rfl, l1⟩ := nat_of w1
  refine (walk n0 n1 l0 l1 W).mono fun e W' ⟨he, hg⟩ => ?_
  subst he
  exact ⟨_, rfl, law_post laidOut (by kernel_rfl) rfl rfl Try.underlying4 rfl hW' hg⟩
theorem proved : Rows.FloatsSumsSaid :=
  OpenClaim.holds_of_wide 4 Try.f4 rfl rfl rfl rfl rfl rfl rfl ⟨rfl, rfl, rfl, rfl, rfl⟩ rfl rfl rfl rfl rfl (by kernel_rfl) Try.func4 (by kernel_rfl)
    (of_decide_eq_true (by kernel_rfl)) (by unfold Func.isWrapper; first | (rw [if_pos (by decide +kernel)]; kernel_rfl) | (rw [if_neg (by decide +kernel)]; exact ⟨rfl, rfl⟩))
    (fun os started H enc _ => lifted os started H enc)
end Go.Proofs.Ytebldhppnacdjaa.floatsSums
