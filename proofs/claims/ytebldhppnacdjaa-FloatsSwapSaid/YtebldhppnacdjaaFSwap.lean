/- FloatsSwap: for any two words of 64 bits the law returns true; no condition. -/
import Derived.Test.YtebldhppnacdjaaFl
import Derived.Test.YtebldhppnacdjaaLw
set_option linter.unusedVariables false
namespace Go.Proofs.Ytebldhppnacdjaa.floatsSwap
open Go.ChangeShapes Go.WideShapes Go.ChangeAt Go.RowKit
theorem own : ownKnob Try.prog.godebug = none := by kernel_rfl
theorem laidOut : laidOutB Try.prog = true := by kernel_rfl
theorem equal_c (a b : Nat) (r : Bool) (ha : Fl.canon a = a) (hb : Fl.canon b = b) (h : (Fl.D.order a b == some .eq) = r) (w : World) :
    Calls Try.prog 23 #[.int .u64 a, .int .u64 b] w fun e w' => e = .returned (.bool r) ∧ w = w' := by
  have := equal_any a b w
  rw [ha, hb, h] at this
  exact this
theorem kind_c (a : Nat) (hl : a < 2 ^ 64) (k : Int) (ha : Fl.canon a = a) (h : Fl.kindF a = k) (w : World) :
    Calls Try.prog 24 #[.int .u64 a] w fun e w' => e = .returned (.int .i64 k) ∧ w = w' := by
  have := kind_any a hl w
  rw [ha, h] at this
  exact this
theorem of_c (a b : Nat) (h : Fl.canon a = b) (w : World) : Calls Try.prog 14 #[.int .u64 a] w fun e w' => e = .returned (.int .u64 b) ∧ w = w' := by
  have := of_any a w
  rw [h] at this
  exact this
theorem of_0 (w : World) : Calls Try.prog 14 #[.int .u64 0] w fun e w' => e = .returned (.int .u64 0) ∧ w = w' := of_any 0 w
theorem add_c (a b r : Nat) (ha : Fl.canon a = a) (hb : Fl.canon b = b) (h : Fl.res (Fl.D.add a b) = r) (w : World) :
    Calls Try.prog 15 #[.int .u64 a, .int .u64 b] w fun e w' => e = .returned (.int .u64 r) ∧ ∃ n, w' = w.drewN n := by
  have := add_any a b w
  rw [ha, hb, h] at this
  exact this
theorem sub_c (a b r : Nat) (ha : Fl.canon a = a) (hb : Fl.canon b = b) (h : Fl.res (Fl.D.sub a b) = r) (w : World) :
    Calls Try.prog 17 #[.int .u64 a, .int .u64 b] w fun e w' => e = .returned (.int .u64 r) ∧ ∃ n, w' = w.drewN n := by
  have := sub_any a b w
  rw [ha, hb, h] at this
  exact this
theorem mul_c (a b r : Nat) (ha : Fl.canon a = a) (hb : Fl.canon b = b) (h : Fl.res (Fl.D.mul a b) = r) (w : World) :
    Calls Try.prog 18 #[.int .u64 a, .int .u64 b] w fun e w' => e = .returned (.int .u64 r) ∧ ∃ n, w' = w.drewN n := by
  have := mul_any a b w
  rw [ha, hb, h] at this
  exact this
theorem add_0 (a r : Nat) (ha : Fl.canon a = a) (h : Fl.res (Fl.D.add a 0) = r) (w : World) :
    Calls Try.prog 15 #[.int .u64 a, .int .u64 0] w fun e w' => e = .returned (.int .u64 r) ∧ ∃ n, w' = w.drewN n := add_c a 0 r ha rfl h w
theorem sub_0 (a : Nat) (ha : Fl.canon a = a) (h : Fl.res (Fl.D.sub a a) = 0) (w : World) :
    Calls Try.prog 17 #[.int .u64 a, .int .u64 a] w fun e w' => e = .returned (.int .u64 0) ∧ ∃ n, w' = w.drewN n := sub_c a a 0 ha ha h w
theorem float_one : floatOfInt .f64 1 = Fl.ONE := Fl.whole_one
set_option maxHeartbeats 400000 in
theorem whole_1 (w : World) : Calls Try.prog 27 #[.int .i64 1] w fun e w' => e = .returned (.int .u64 (Fl.ONE : Int)) ∧ w = w' := by
  have h := float_one
  have HN : Hid (Fl.canon Fl.ONE = Fl.ONE) := Lib.hid (by decide)
  go_enter Try.func27, Try.ntmps27
  go_wp2_with (go_at_call 34; refine (of2_any _ _).mono ?_; rintro e w' ⟨rfl, rfl⟩; rw [HN.out])
  go_ret
  exact ⟨rfl, rfl⟩
set_option maxHeartbeats 1000000 in
theorem walk_nan (x y A B S M : Nat) (kA : Int) (Hx : Hid (Fl.canon x = A)) (Hy : Hid (Fl.canon y = B)) (HA : Hid (Fl.canon A = A)) (HB : Hid (Fl.canon B = B))
    (LA : Hid (A < 2 ^ 64)) (HS1 : Hid (Fl.res (Fl.D.add A B) = S)) (HS2 : Hid (Fl.res (Fl.D.add B A) = S)) (HM1 : Hid (Fl.res (Fl.D.mul A B) = M)) (HM2 : Hid (Fl.res (Fl.D.mul B A) = M))
    (HkA : Hid (Fl.kindF A = kA)) (t4 : (kA == 4) = true) (Hsub : Hid (Fl.res (Fl.D.sub A A) = Fl.NONE)) (w : World) :
    Calls Try.prog 7 #[.int .u64 x, .int .u64 y] w fun e w' => e = .returned (.bool true) ∧ Below w.heap.size w w' := by
  have HN : Hid (Fl.canon Fl.NONE = Fl.NONE) := Lib.hid (by decide)
  have LN : Hid (Fl.NONE < 2 ^ 64) := Lib.hid (by decide)
  have HkN : Hid (Fl.kindF Fl.NONE = 4) := Lib.hid (by decide)
  have HO : Hid (Fl.canon Fl.ONE = Fl.ONE) := Lib.hid (by decide)
  go_enter Try.func7, Try.ntmps7
  go_wp2_with (first
    | (go_at_call 9; ((with_reducible refine (lives_any _).mono ?_); rintro e w1 ⟨rfl, hb⟩))
    | (go_at_call 14; ((with_reducible refine (of_c x A Hx.out _).mono ?_); rintro e w' ⟨rfl, rfl⟩))
    | (go_at_call 14; ((with_reducible refine (of_c y B Hy.out _).mono ?_); rintro e w' ⟨rfl, rfl⟩))
    | (go_at_call 14; ((with_reducible refine (of_0 _).mono ?_); rintro e w' ⟨rfl, rfl⟩))
    | (go_at_call 15; ((with_reducible refine (add_c A B S HA.out HB.out HS1.out _).mono ?_); rintro e w' ⟨rfl, n, rfl⟩))
    | (go_at_call 15; ((with_reducible refine (add_c B A S HB.out HA.out HS2.out _).mono ?_); rintro e w' ⟨rfl, n, rfl⟩))
    | (go_at_call 18; ((with_reducible refine (mul_c A B M HA.out HB.out HM1.out _).mono ?_); rintro e w' ⟨rfl, n, rfl⟩))
    | (go_at_call 18; ((with_reducible refine (mul_c B A M HB.out HA.out HM2.out _).mono ?_); rintro e w' ⟨rfl, n, rfl⟩))
    | (go_at_call 24; ((with_reducible refine (kind_c A LA.out kA HA.out HkA.out _).mono ?_); rintro e w' ⟨rfl, rfl⟩))
    | (go_at_call 24; ((with_reducible refine (kind_c Fl.NONE LN.out 4 HN.out HkN.out _).mono ?_); rintro e w' ⟨rfl, rfl⟩))
    | (go_at_call 17; ((with_reducible refine (sub_c A A Fl.NONE HA.out HA.out Hsub.out _).mono ?_); rintro e w' ⟨rfl, n, rfl⟩)))
  go_ret
  exact ⟨rfl, hb.os, hb.tape, hb.output, hb.size, hb.block⟩
set_option maxHeartbeats 1000000 in
theorem walk_inf (x y A B S M : Nat) (kA : Int) (Hx : Hid (Fl.canon x = A)) (Hy : Hid (Fl.canon y = B)) (HA : Hid (Fl.canon A = A)) (HB : Hid (Fl.canon B = B))
    (LA : Hid (A < 2 ^ 64)) (HS1 : Hid (Fl.res (Fl.D.add A B) = S)) (HS2 : Hid (Fl.res (Fl.D.add B A) = S)) (HM1 : Hid (Fl.res (Fl.D.mul A B) = M)) (HM2 : Hid (Fl.res (Fl.D.mul B A) = M))
    (HkA : Hid (Fl.kindF A = kA)) (t4 : (kA == 4) = false) (t3 : (kA == 3) = true) (Hsub : Hid (Fl.res (Fl.D.sub A A) = Fl.NONE)) (Hadd : Hid (Fl.res (Fl.D.add A 0) = A)) (w : World) :
    Calls Try.prog 7 #[.int .u64 x, .int .u64 y] w fun e w' => e = .returned (.bool true) ∧ Below w.heap.size w w' := by
  have HN : Hid (Fl.canon Fl.NONE = Fl.NONE) := Lib.hid (by decide)
  have LN : Hid (Fl.NONE < 2 ^ 64) := Lib.hid (by decide)
  have HkN : Hid (Fl.kindF Fl.NONE = 4) := Lib.hid (by decide)
  have HO : Hid (Fl.canon Fl.ONE = Fl.ONE) := Lib.hid (by decide)
  go_enter Try.func7, Try.ntmps7
  go_wp2_with (first
    | (go_at_call 9; ((with_reducible refine (lives_any _).mono ?_); rintro e w1 ⟨rfl, hb⟩))
    | (go_at_call 14; ((with_reducible refine (of_c x A Hx.out _).mono ?_); rintro e w' ⟨rfl, rfl⟩))
    | (go_at_call 14; ((with_reducible refine (of_c y B Hy.out _).mono ?_); rintro e w' ⟨rfl, rfl⟩))
    | (go_at_call 14; ((with_reducible refine (of_0 _).mono ?_); rintro e w' ⟨rfl, rfl⟩))
    | (go_at_call 15; ((with_reducible refine (add_c A B S HA.out HB.out HS1.out _).mono ?_); rintro e w' ⟨rfl, n, rfl⟩))
    | (go_at_call 15; ((with_reducible refine (add_c B A S HB.out HA.out HS2.out _).mono ?_); rintro e w' ⟨rfl, n, rfl⟩))
    | (go_at_call 18; ((with_reducible refine (mul_c A B M HA.out HB.out HM1.out _).mono ?_); rintro e w' ⟨rfl, n, rfl⟩))
    | (go_at_call 18; ((with_reducible refine (mul_c B A M HB.out HA.out HM2.out _).mono ?_); rintro e w' ⟨rfl, n, rfl⟩))
    | (go_at_call 24; ((with_reducible refine (kind_c A LA.out kA HA.out HkA.out _).mono ?_); rintro e w' ⟨rfl, rfl⟩))
    | (go_at_call 24; ((with_reducible refine (kind_c Fl.NONE LN.out 4 HN.out HkN.out _).mono ?_); rintro e w' ⟨rfl, rfl⟩))
    | (go_at_call 17; ((with_reducible refine (sub_c A A Fl.NONE HA.out HA.out Hsub.out _).mono ?_); rintro e w' ⟨rfl, n, rfl⟩))
    | (go_at_call 15; ((with_reducible refine (add_0 A A HA.out Hadd.out _).mono ?_); rintro e w' ⟨rfl, n, rfl⟩)))
  go_ret
  exact ⟨rfl, hb.os, hb.tape, hb.output, hb.size, hb.block⟩
set_option maxHeartbeats 1000000 in
theorem walk_fin (x y A B S M : Nat) (kA : Int) (Hx : Hid (Fl.canon x = A)) (Hy : Hid (Fl.canon y = B)) (HA : Hid (Fl.canon A = A)) (HB : Hid (Fl.canon B = B))
    (LA : Hid (A < 2 ^ 64)) (HS1 : Hid (Fl.res (Fl.D.add A B) = S)) (HS2 : Hid (Fl.res (Fl.D.add B A) = S)) (HM1 : Hid (Fl.res (Fl.D.mul A B) = M)) (HM2 : Hid (Fl.res (Fl.D.mul B A) = M))
    (HkA : Hid (Fl.kindF A = kA)) (Z : Nat) (t4 : (kA == 4) = false) (t3 : (kA == 3) = false) (Hsub : Hid (Fl.res (Fl.D.sub A A) = 0)) (Hadd : Hid (Fl.res (Fl.D.add A 0) = Z)) (HZ : Hid (Fl.canon Z = Z)) (HE : Hid ((Fl.D.order Z A == some .eq) = true)) (HO2 : Hid (Fl.res (Fl.D.mul A Fl.ONE) = A)) (w : World) :
    Calls Try.prog 7 #[.int .u64 x, .int .u64 y] w fun e w' => e = .returned (.bool true) ∧ Below w.heap.size w w' := by
  have HN : Hid (Fl.canon Fl.NONE = Fl.NONE) := Lib.hid (by decide)
  have LN : Hid (Fl.NONE < 2 ^ 64) := Lib.hid (by decide)
  have HkN : Hid (Fl.kindF Fl.NONE = 4) := Lib.hid (by decide)
  have HO : Hid (Fl.canon Fl.ONE = Fl.ONE) := Lib.hid (by decide)
  go_enter Try.func7, Try.ntmps7
  go_wp2_with (first
    | (go_at_call 9; ((with_reducible refine (lives_any _).mono ?_); rintro e w1 ⟨rfl, hb⟩))
    | (go_at_call 14; ((with_reducible refine (of_c x A Hx.out _).mono ?_); rintro e w' ⟨rfl, rfl⟩))
    | (go_at_call 14; ((with_reducible refine (of_c y B Hy.out _).mono ?_); rintro e w' ⟨rfl, rfl⟩))
    | (go_at_call 14; ((with_reducible refine (of_0 _).mono ?_); rintro e w' ⟨rfl, rfl⟩))
    | (go_at_call 15; ((with_reducible refine (add_c A B S HA.out HB.out HS1.out _).mono ?_); rintro e w' ⟨rfl, n, rfl⟩))
    | (go_at_call 15; ((with_reducible refine (add_c B A S HB.out HA.out HS2.out _).mono ?_); rintro e w' ⟨rfl, n, rfl⟩))
    | (go_at_call 18; ((with_reducible refine (mul_c A B M HA.out HB.out HM1.out _).mono ?_); rintro e w' ⟨rfl, n, rfl⟩))
    | (go_at_call 18; ((with_reducible refine (mul_c B A M HB.out HA.out HM2.out _).mono ?_); rintro e w' ⟨rfl, n, rfl⟩))
    | (go_at_call 24; ((with_reducible refine (kind_c A LA.out kA HA.out HkA.out _).mono ?_); rintro e w' ⟨rfl, rfl⟩))
    | (go_at_call 24; ((with_reducible refine (kind_c Fl.NONE LN.out 4 HN.out HkN.out _).mono ?_); rintro e w' ⟨rfl, rfl⟩))
    | (go_at_call 17; ((with_reducible refine (sub_0 A HA.out Hsub.out _).mono ?_); rintro e w' ⟨rfl, n, rfl⟩))
    | (go_at_call 15; ((with_reducible refine (add_0 A Z HA.out Hadd.out _).mono ?_); rintro e w' ⟨rfl, n, rfl⟩))
    | (go_at_call 23; ((with_reducible refine (equal_c Z A true HZ.out HA.out HE.out _).mono ?_); rintro e w' ⟨rfl, rfl⟩))
    | (go_at_call 27; ((with_reducible refine (whole_1 _).mono ?_); rintro e w' ⟨rfl, rfl⟩))
    | (go_at_call 18; ((with_reducible refine (mul_c A Fl.ONE A HA.out HO.out HO2.out _).mono ?_); rintro e w' ⟨rfl, n, rfl⟩)))
  go_ret
  exact ⟨rfl, hb.os, hb.tape, hb.output, hb.size, hb.block⟩
theorem walk (x y : Nat) (hx : x < 2 ^ 64) (w : World) :
    Calls Try.prog 7 #[.int .u64 x, .int .u64 y] w fun e w' => e = .returned (.bool true) ∧ Below w.heap.size w w' := by
  obtain ⟨A, hA⟩ : ∃ A, Fl.canon x = A := ⟨_, rfl⟩
  obtain ⟨B, hB⟩ : ∃ A, Fl.canon y = A := ⟨_, rfl⟩
  have cA : Fl.canon A = A := by rw [← hA]; exact Fl.canon_canon x
  have cB : Fl.canon B = B := by rw [← hB]; exact Fl.canon_canon y
  have lA : A < 2 ^ 64 := by rw [← hA]; exact Fl.canon_lt hx
  have sc : Fl.res (Fl.D.add B A) = Fl.res (Fl.D.add A B) := by rw [Fl.add_comm]
  have mc : Fl.res (Fl.D.mul B A) = Fl.res (Fl.D.mul A B) := by rw [Fl.mul_comm]
  cases nA : Fl.nan A with
  | true =>
    have hr : Fl.infR < Fl.rung A := by unfold Fl.nan at nA; simpa using nA
    exact walk_nan x y A B _ _ 4 (Lib.hid hA) (Lib.hid hB) (Lib.hid cA) (Lib.hid cB) (Lib.hid lA) (Lib.hid rfl) (Lib.hid sc) (Lib.hid rfl) (Lib.hid mc) (Lib.hid (by unfold Fl.kindF; rw [if_pos nA])) rfl (Lib.hid (by rw [Fl.sub_nan hr]; rfl)) w
  | false =>
    have hle := Fl.rung_le_of nA
    by_cases hi : Fl.rung A = Fl.infR
    · exact walk_inf x y A B _ _ 3 (Lib.hid hA) (Lib.hid hB) (Lib.hid cA) (Lib.hid cB) (Lib.hid lA) (Lib.hid rfl) (Lib.hid sc) (Lib.hid rfl) (Lib.hid mc) (Lib.hid (by unfold Fl.kindF; rw [if_neg (by simp [nA]), if_pos hi])) rfl rfl
        (Lib.hid (by rw [Fl.sub_inf hi]; rfl)) (Lib.hid (by rw [Fl.add_inf lA hi]; exact cA)) w
    · have hf : Fl.rung A < Fl.infR := by omega
      have hz : Fl.canon (if Fl.rung A = 0 then 0 else A) = if Fl.rung A = 0 then 0 else A := by
        by_cases h0 : Fl.rung A = 0
        · rw [if_pos h0]; rfl
        · rw [if_neg h0]; exact cA
      have he : (Fl.D.order (if Fl.rung A = 0 then 0 else A) A == some .eq) = true := by
        by_cases h0 : Fl.rung A = 0
        · rw [if_pos h0, Fl.order_ev (by decide) (by omega), Fl.cmp_eq, Fl.ev_zero_iff.2 h0, Fl.ev_zero_iff.2 (show Fl.rung 0 = 0 by decide)]; rfl
        · rw [if_neg h0, Fl.order_ev (by omega) (by omega), Fl.cmp_eq]; simp
      have k3 : (Fl.kindF A == 4) = false ∧ (Fl.kindF A == 3) = false := by
        unfold Fl.kindF
        rw [if_neg (by simp [nA]), if_neg hi]
        split
        · exact ⟨rfl, rfl⟩
        · split <;> exact ⟨rfl, rfl⟩
      exact walk_fin x y A B _ _ (Fl.kindF A) (Lib.hid hA) (Lib.hid hB) (Lib.hid cA) (Lib.hid cB) (Lib.hid lA) (Lib.hid rfl) (Lib.hid sc) (Lib.hid rfl) (Lib.hid mc) (Lib.hid rfl) (if Fl.rung A = 0 then 0 else A) k3.1 k3.2
        (Lib.hid (by rw [Fl.sub_fin hf]; rfl)) (Lib.hid (by rw [Fl.add_zero lA hf]; exact hz)) (Lib.hid hz) (Lib.hid he) (Lib.hid (by rw [Fl.mul_one lA hf]; exact cA)) w
theorem nat_of {a : Int} (h : (Lit.int .u64 a).wf = true) : ∃ n : Nat, a = n ∧ n < 2 ^ 64 := by
  have := bounds_u64 h
  exact ⟨a.toNat, by omega, by omega⟩
set_option maxRecDepth 100000 in
theorem lifted (os : Os) (started : os.Started) (H : Type) (enc : TypeId × Value → H) :
    ReturnsInHanded {} Try.checked os 7 .any (Rows.floatsSwapSpec.pre6 enc Try.prog Try.f7 Rows.floatsSwapRow.domain false) (Rows.floatsSwapSpec.post enc Try.prog Try.f7 false true false false) := by
  refine returnsInHanded_of_change (C := Try.checked) own started (by kernel_rfl) Try.func7
    (ChangeSpec.witness6 (enc := enc) (C := Try.checked) false ⟨#[], #[.int .u64 0, .int .u64 0], []⟩ 8 (by kernel_rfl) (by kernel_rfl) (by kernel_rfl) (by kernel_rfl)) ?_
  intro W base args ds gs before hval0 hW hcnd _
  have hval : ∀ (j : Nat) t v, Try.f7.params[j]? = some t → args[j]? = some v → Value.okWide Try.prog W .any base t v := hval0
  have hW' := hW
  obtain ⟨p, q, hA0, hV, rfl, hfz, hnd⟩ := hW
  have hA : DataW.TrodAll enc Try.prog W 0 (fun _ => true) true Try.f7.params.toList args.toList ds p := hA0
  rw [Try.params7] at hA hval
  obtain ⟨v0, vs0, d0, ds0, p0, q0, hargs, rfl, rfl, h0, r0⟩ := trodAll_cons hA
  obtain ⟨v1, vs1, d1, ds1, p1, q1, rfl, rfl, rfl, h1, r1⟩ := trodAll_cons r0
  obtain ⟨rfl, rfl, rfl⟩ := trodAll_nil r1
  obtain rfl : args = #[v0, v1] := by cases args; simp_all
  obtain ⟨rfl, rfl⟩ := trodVars_none hV
  obtain ⟨a0, rfl, rfl, rfl, w0⟩ := open_int Try.underlying22 (hval 0 22 v0 rfl rfl) h0
  obtain ⟨n0, rfl, l0⟩ := nat_of w0
  obtain ⟨a1, rfl, rfl, rfl, w1⟩ := open_int Try.underlying22 (hval 1 22 v1 rfl rfl) h1
  obtain ⟨n1, rfl, l1⟩ := nat_of w1
  refine (walk n0 n1 l0 W).mono fun e W' ⟨he, hg⟩ => ?_
  subst he
  exact ⟨_, rfl, law_post laidOut (by kernel_rfl) rfl rfl Try.underlying4 rfl hW' hg⟩
theorem proved : Rows.FloatsSwapSaid :=
  OpenClaim.holds_of_wide 7 Try.f7 rfl rfl rfl rfl rfl rfl rfl ⟨rfl, rfl, rfl, rfl, rfl⟩ rfl rfl rfl rfl rfl (by kernel_rfl) Try.func7 (by kernel_rfl)
    (of_decide_eq_true (by kernel_rfl)) (by unfold Func.isWrapper; first | (rw [if_pos (by decide +kernel)]; kernel_rfl) | (rw [if_neg (by decide +kernel)]; exact ⟨rfl, rfl⟩))
    (fun os started H enc _ => lifted os started H enc)
end Go.Proofs.Ytebldhppnacdjaa.floatsSwap

