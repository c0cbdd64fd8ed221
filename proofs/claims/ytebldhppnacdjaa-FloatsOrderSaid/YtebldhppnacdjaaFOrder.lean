/- FloatsOrder: for any two words of 64 bits the law returns true; no condition. -/
import Derived.Test.YtebldhppnacdjaaFo
import Derived.Test.YtebldhppnacdjaaLw
set_option linter.unusedVariables false
namespace Go.Proofs.Ytebldhppnacdjaa.floatsOrder
open Go.ChangeShapes Go.WideShapes Go.ChangeAt Go.RowKit
theorem own : ownKnob Try.prog.godebug = none := by kernel_rfl
theorem laidOut : laidOutB Try.prog = true := by kernel_rfl
theorem nan_canon (x : Nat) : Fl.nan (Fl.canon x) = Fl.nan x := by
  cases h : Fl.nan x with
  | true => rw [Fl.canon_nan h]; rfl
  | false => rw [Fl.canon_num h, h]
theorem order_canon (x y : Nat) : Fl.D.order (Fl.canon x) (Fl.canon y) = Fl.D.order x y := by
  have ny : ∀ {a : Nat}, Fl.nan a = true → Fl.infR < Fl.rung a := fun h => by unfold Fl.nan at h; simpa using h
  cases hx : Fl.nan x with
  | true => rw [Fl.order_nan_left (ny hx), Fl.order_nan_left (ny (by rw [nan_canon]; exact hx))]
  | false =>
    cases hy : Fl.nan y with
    | true => rw [Fl.order_nan_right (ny hy), Fl.order_nan_right (ny (by rw [nan_canon]; exact hy))]
    | false => rw [Fl.canon_num hx, Fl.canon_num hy]
theorem kind_canon (x : Nat) : Fl.kindF (Fl.canon x) = Fl.kindF x := by
  cases hx : Fl.nan x with
  | true => rw [Fl.canon_nan hx]; unfold Fl.kindF; rw [if_pos hx]; rfl
  | false => rw [Fl.canon_num hx]
set_option maxHeartbeats 1000000 in
set_option maxRecDepth 100000 in
theorem core (x y : Nat) (s i o : Bool) (e : Int) (m : Nat) (k : Int) (L E G : Bool)
    (CL : Hid (∀ w : World, Calls Try.prog 22 #[.int .u64 (x : Int), .int .u64 (y : Int)] w fun r w' => r = .returned (.bool L) ∧ w = w'))
    (CE : Hid (∀ w : World, Calls Try.prog 23 #[.int .u64 (x : Int), .int .u64 (y : Int)] w fun r w' => r = .returned (.bool E) ∧ w = w'))
    (CG : Hid (∀ w : World, Calls Try.prog 22 #[.int .u64 (y : Int), .int .u64 (x : Int)] w fun r w' => r = .returned (.bool G) ∧ w = w'))
    (CK : Hid (∀ w : World, Calls Try.prog 24 #[.int .u64 (x : Int)] w fun r w' => r = .returned (.int .i64 k) ∧ w = w'))
    (CP : Hid (∀ w : World, Calls Try.prog 26 #[.int .u64 (x : Int)] w fun r w' => r = .returned (.tuple #[.bool s, .int .i64 e, .int .u64 (m : Int), .bool i, .bool o]) ∧ w = w'))
    (CR : Hid (∀ w : World, Calls Try.prog 25 #[.int .u64 (x : Int), .int .u64 (y : Int)] w fun r w' => r = .returned (.tuple #[.bool L, .bool E]) ∧ Below w.heap.size w w'))
    (hLG : L = true → G = false) (hk : (o = true ∧ k = 4) ∨ (o = false ∧ i = true ∧ k = 3) ∨ (o = false ∧ i = false ∧ m = 0 ∧ k = 0) ∨ (o = false ∧ i = false ∧ m ≠ 0 ∧ m < 4503599627370496 ∧ k = 1) ∨ (o = false ∧ i = false ∧ 4503599627370496 ≤ m ∧ k = 2)) (w : World) :
    Calls Try.prog 6 #[.int .u64 x, .int .u64 y] w fun r w' => r = .returned (.bool true) ∧ Below w.heap.size w w' := by
  rcases hk with ⟨rfl, rfl⟩ | ⟨rfl, rfl, rfl⟩ | ⟨rfl, rfl, rfl, rfl⟩ | ⟨rfl, rfl, h1, h2, rfl⟩ | ⟨rfl, rfl, h1, rfl⟩
  all_goals
    try (have t0 : ((m : Int) == 0) = false := by simp; omega)
    try (have t5 : decide ((m : Int) < 4503599627370496) = true := by simp; omega)
    try (have t5 : decide ((m : Int) < 4503599627370496) = false := by simp; omega)
    try clear h1
    try clear h2
    cases L
    all_goals
      try (obtain rfl : G = false := hLG rfl)
      clear hLG
      go_enter Try.func6, Try.ntmps6
      go_wp2_with (first
        | (go_at_call 9; ((with_reducible refine (lives_any _).mono ?_); rintro e w1 ⟨rfl, hb1⟩))
        | (go_at_call 22; first | ((with_reducible refine (CL.out _).mono ?_); rintro e w' ⟨rfl, rfl⟩) | ((with_reducible refine (CG.out _).mono ?_); rintro e w' ⟨rfl, rfl⟩))
        | (go_at_call 23; ((with_reducible refine (CE.out _).mono ?_); rintro e w' ⟨rfl, rfl⟩))
        | (go_at_call 24; ((with_reducible refine (CK.out _).mono ?_); rintro e w' ⟨rfl, rfl⟩))
        | (go_at_call 26; ((with_reducible refine (CP.out _).mono ?_); rintro e w' ⟨rfl, rfl⟩))
        | (go_at_call 25; ((with_reducible refine (CR.out _).mono ?_); rintro e w2 ⟨rfl, hb2⟩)))
      all_goals
        go_ret
        exact ⟨rfl, hb1.trans (hb2.mono hb1.size)⟩
theorem walk (x y : Nat) (hx : x < 2 ^ 64) (hy : y < 2 ^ 64) (w : World) :
    Calls Try.prog 6 #[.int .u64 x, .int .u64 y] w fun r w' => r = .returned (.bool true) ∧ Below w.heap.size w w' := by
  obtain ⟨s, e, m, i, o, hp⟩ : ∃ s e m i o, partsF x = (s, e, m, i, o) := ⟨_, _, _, _, _, rfl⟩
  refine core x y s i o e m (Fl.kindF x) (Fl.D.order x y == some .lt) (Fl.D.order x y == some .eq) (Fl.D.order y x == some .lt) (Lib.hid fun w => ?_) (Lib.hid fun w => ?_) (Lib.hid fun w => ?_) (Lib.hid fun w => ?_) (Lib.hid fun w => ?_) (Lib.hid fun w => ?_) ?_ ?_ w
  · have := less_any x y w; rw [order_canon] at this; exact this
  · have := equal_any x y w; rw [order_canon] at this; exact this
  · have := less_any y x w; rw [order_canon] at this; exact this
  · have := kind_any x hx w; rw [kind_canon] at this; exact this
  · exact parts_c x hx _ _ _ _ _ hp w
  · exact rless_any x y hx hy w
  · intro h
    have nn : ∀ {a : Nat}, Fl.nan a = false → Fl.rung a ≤ Fl.infR := fun h => Fl.rung_le_of h
    have ny : ∀ {a : Nat}, Fl.nan a = true → Fl.infR < Fl.rung a := fun h => by unfold Fl.nan at h; simpa using h
    cases hnx : Fl.nan x with
    | true => rw [Fl.order_nan_right (ny hnx)]; rfl
    | false =>
      cases hny : Fl.nan y with
      | true => rw [Fl.order_nan_left (ny hny)]; rfl
      | false =>
        rw [Fl.order_ev (nn hnx) (nn hny), Fl.cmp_lt] at h
        rw [Fl.order_ev (nn hny) (nn hnx), Fl.cmp_lt]
        simp at h ⊢; omega
  · unfold partsF at hp
    unfold Fl.kindF
    by_cases h1 : Fl.nan x = true
    · rw [if_pos h1] at hp ⊢
      simp only [Prod.mk.injEq] at hp
      exact Or.inl ⟨hp.2.2.2.2.symm, rfl⟩
    · rw [if_neg h1] at hp ⊢
      by_cases h2 : Fl.rung x = Fl.infR
      · rw [if_pos h2] at hp ⊢
        simp only [Prod.mk.injEq] at hp
        exact Or.inr (Or.inl ⟨hp.2.2.2.2.symm, hp.2.2.2.1.symm, rfl⟩)
      · rw [if_neg h2] at hp ⊢
        simp only [Prod.mk.injEq] at hp
        obtain ⟨-, -, hm, hi, ho⟩ := hp
        unfold Fl.magR at hm
        right; right
        by_cases h3 : Fl.rung x = 0
        · rw [if_pos h3]; rw [if_pos (by omega)] at hm
          exact Or.inl ⟨ho.symm, hi.symm, by omega, rfl⟩
        · rw [if_neg h3]
          by_cases h4 : Fl.rung x < 2 ^ 52
          · rw [if_pos h4]; rw [if_pos h4] at hm
            exact Or.inr (Or.inl ⟨ho.symm, hi.symm, by omega, by omega, rfl⟩)
          · rw [if_neg h4]; rw [if_neg h4] at hm
            exact Or.inr (Or.inr ⟨ho.symm, hi.symm, by omega, rfl⟩)
theorem nat_of {a : Int} (h : (Lit.int .u64 a).wf = true) : ∃ n : Nat, a = n ∧ n < 2 ^ 64 := by
  have := bounds_u64 h
  exact ⟨a.toNat, by omega, by omega⟩
set_option maxRecDepth 100000 in
theorem lifted (os : Os) (started : os.Started) (H : Type) (enc : TypeId × Value → H) :
    ReturnsInHanded {} Try.checked os 6 .any (Rows.floatsOrderSpec.pre6 enc Try.prog Try.f6 Rows.floatsOrderRow.domain false) (Rows.floatsOrderSpec.post enc Try.prog Try.f6 false true false false) := by
  refine returnsInHanded_of_change (C := Try.checked) own started (by kernel_rfl) Try.func6
    (ChangeSpec.witness6 (enc := enc) (C := Try.checked) false ⟨#[], #[.int .u64 0, .int .u64 0], []⟩ 8 (by kernel_rfl) (by kernel_rfl) (by kernel_rfl) (by kernel_rfl)) ?_
  intro W base args ds gs before hval0 hW hcnd _
  have hval : ∀ (j : Nat) t v, Try.f6.params[j]? = some t → args[j]? = some v → Value.okWide Try.prog W .any base t v := hval0
  have hW' := hW
  obtain ⟨p, q, hA0, hV, rfl, hfz, hnd⟩ := hW
  have hA : DataW.TrodAll enc Try.prog W 0 (fun _ => true) true Try.f6.params.toList args.toList ds p := hA0
  rw [Try.params6] at hA hval
  obtain ⟨v0, vs0, d0, ds0, p0, q0, hargs, rfl, rfl, h0, r0⟩ := trodAll_cons hA
  obtain ⟨v1, vs1, d1, ds1, p1, q1, rfl, rfl, rfl, h1, r1⟩ := trodAll_cons r0
  obtain ⟨rfl, rfl, rfl⟩ := trodAll_nil r1
  obtain rfl : args = #[v0, v1] := by cases args; simp_all
  obtain ⟨rfl, rfl⟩ := trodVars_none hV
  obtain ⟨a0, rfl, rfl, rfl, w0⟩ := open_int Try.underlying22 (hval 0 22 v0 rfl rfl) h0
  obtain ⟨n0, rfl, l0⟩ := nat_of w0
  obtain ⟨a1, rfl, rfl, rfl, w1⟩ := open_int Try.underlying22 (hval 1 22 v1 rfl rfl) h1
  obtain ⟨n1, rfl, l1⟩ := nat_of w1
  refine (walk n0 n1 l0 l1 W).mono fun e W' ⟨he, hg⟩ => ?_
  subst he
  exact ⟨_, rfl, law_post laidOut (by kernel_rfl) rfl rfl Try.underlying4 rfl hW' hg⟩
theorem proved : Rows.FloatsOrderSaid :=
  OpenClaim.holds_of_wide 6 Try.f6 rfl rfl rfl rfl rfl rfl rfl ⟨rfl, rfl, rfl, rfl, rfl⟩ rfl rfl rfl rfl rfl (by kernel_rfl) Try.func6 (by kernel_rfl)
    (of_decide_eq_true (by kernel_rfl)) (by unfold Func.isWrapper; first | (rw [if_pos (by decide +kernel)]; kernel_rfl) | (rw [if_neg (by decide +kernel)]; exact ⟨rfl, rfl⟩))
    (fun os started H enc _ => lifted os started H enc)
end Go.Proofs.Ytebldhppnacdjaa.floatsOrder

