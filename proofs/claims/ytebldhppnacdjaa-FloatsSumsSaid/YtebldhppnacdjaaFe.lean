/- Walks: the reference's Add. -/
import Derived.Test.YtebldhppnacdjaaFa
import Derived.Test.YtebldhppnacdjaaFi
import Derived.Laws.BitsAllLaws
set_option linter.unusedVariables false
namespace Go.Proofs.Ytebldhppnacdjaa
open Go.RowKit
def addY (y : Nat) (minus : Bool) : Nat := if minus then Fl.flip y else y
structure XorF (y : Nat) : Prop where
  out : bits .xor .u64 (y : Int) 9223372036854775808 = (Fl.flip y : Int)
theorem xor_t1 {y : Nat} (h : y < 2 ^ 64) : y < 18446744073709551616 := by omega
theorem xor_t2 : 9223372036854775808 < 18446744073709551616 := by decide
theorem xor_t3 {y : Nat} (h : y < 2 ^ 64) : bits .xor .u64 (y : Int) ((9223372036854775808 : Nat) : Int) = ((y ^^^ 9223372036854775808 : Nat) : Int) := u64_xor_nat y 9223372036854775808 (xor_t1 h) xor_t2
theorem xor_t4 {y : Nat} (h : y < 2 ^ 64) : bits .xor .u64 (y : Int) ((9223372036854775808 : Nat) : Int) = (Fl.flip y : Int) := by
  have := xor_t3 h
  rw [Fl.xor_flip y h] at this
  exact this
theorem xor_t5 : ((9223372036854775808 : Nat) : Int) = (9223372036854775808 : Int) := rfl
theorem xorF_of {y : Nat} (h : y < 2 ^ 64) : XorF y := ⟨by rw [← xor_t5]; exact xor_t4 h⟩
theorem addY_true (y : Nat) : addY y true = Fl.flip y := if_pos rfl
theorem addY_false (y : Nat) : addY y false = y := if_neg (by decide)
theorem xorV {y Y : Nat} (h : Hid (XorF y)) (hY : Hid (addY y true = Y)) : Value.int .u64 (bits .xor .u64 (y : Int) 9223372036854775808) = .int .u64 (Y : Int) := by
  rw [← hY.out, h.out.out, addY_true]
set_option maxRecDepth 20000 in
set_option maxHeartbeats 1000000 in
theorem add_ends (x y Y : Nat) (hy : y < 2 ^ 64) (minus s t i j o p : Bool) (e f m n R : Int) (hY : Hid (addY y minus = Y))
    (PX : Hid (∀ w : World, Calls Try.prog 26 #[.int .u64 (x : Int)] w fun r w' => r = .returned (.tuple #[.bool s, .int .i64 e, .int .u64 m, .bool i, .bool o]) ∧ w = w'))
    (PY : Hid (∀ w : World, Calls Try.prog 26 #[.int .u64 (Y : Int)] w fun r w' => r = .returned (.tuple #[.bool t, .int .i64 f, .int .u64 n, .bool j, .bool p]) ∧ w = w'))
    (hend : (o = true ∧ R = 9221120237041090561) ∨ (o = false ∧ p = true ∧ R = 9221120237041090561) ∨ (o = false ∧ p = false ∧ i = true ∧ j = true ∧ (s = !t) ∧ R = 9221120237041090561) ∨ (o = false ∧ p = false ∧ i = true ∧ j = true ∧ (s = t) ∧ R = x) ∨ (o = false ∧ p = false ∧ i = true ∧ j = false ∧ R = x) ∨ (o = false ∧ p = false ∧ i = false ∧ j = true ∧ R = Y) ∨ (o = false ∧ p = false ∧ i = false ∧ j = false ∧ m = 0 ∧ n = 0 ∧ R = if (s && t) = true then 9223372036854775808 else 0)) (w : World) :
    Calls Try.prog 16 #[.int .u64 x, .int .u64 y, .bool minus] w fun r w' => r = .returned (.int .u64 R) ∧ w = w' := by
  have HX : Hid (XorF y) := Lib.hid (xorF_of hy)
  clear hy
  go_enter Try.func16, Try.ntmps16
  go_upto_if 20 with (fail)
  go_cut [1] (fun v1 wc => w = wc ∧ v1 = .int .u64 Y)
  case first =>
    clear hend PX PY
    cases minus
    · go_wp2
      go_meet
      case rel => exact ⟨rfl, by rw [← hY.out, addY_false]⟩
    · go_wp2
      go_meet
      case rel => exact ⟨rfl, xorV HX hY⟩
  case rest =>
    obtain ⟨rfl, rfl⟩ := hcut
    clear HX hY
    rcases hend with ⟨rfl, rfl⟩ | ⟨rfl, rfl, rfl⟩ | ⟨rfl, rfl, rfl, rfl, hst, rfl⟩ | ⟨rfl, rfl, rfl, rfl, hst, rfl⟩ | ⟨rfl, rfl, rfl, rfl, rfl⟩ | ⟨rfl, rfl, rfl, rfl, rfl⟩ | ⟨rfl, rfl, rfl, rfl, rfl, rfl, rfl⟩
    all_goals
      cases t
      all_goals
        try (simp only [Bool.not_false, Bool.not_true] at hst)
        try subst hst
        try cases s
        all_goals
          go_wp2_with (go_at_call 26; first | ((with_reducible refine (PX.out _).mono ?_); rintro e w' ⟨rfl, rfl⟩) | ((with_reducible refine (PY.out _).mono ?_); rintro e w' ⟨rfl, rfl⟩))
          go_ret
          exact ⟨rfl, rfl⟩
abbrev RndTo (s : Bool) (C : Nat) (g : Int) (more : Bool) (K : Int) : Prop := ∀ (v : Value) (w : World), Rd w v (Fl.dg C) → Calls Try.prog 28 #[.bool s, v, .int .i64 g, .bool more] w fun r w' => r = .returned (.int .u64 K) ∧ Below w.heap.size w w'
set_option maxRecDepth 20000 in
set_option maxHeartbeats 2000000 in
theorem add_num (x y Y : Nat) (hy : y < 2 ^ 64) (minus s t i j o p : Bool) (e f m n R : Int) (hY : Hid (addY y minus = Y))
    (PX : Hid (∀ w : World, Calls Try.prog 26 #[.int .u64 (x : Int)] w fun r w' => r = .returned (.tuple #[.bool s, .int .i64 e, .int .u64 m, .bool i, .bool o]) ∧ w = w'))
    (PY : Hid (∀ w : World, Calls Try.prog 26 #[.int .u64 (Y : Int)] w fun r w' => r = .returned (.tuple #[.bool t, .int .i64 f, .int .u64 n, .bool j, .bool p]) ∧ w = w'))
    (ho : o = false) (hp : p = false) (hi : i = false) (hj : j = false) (hz : m ≠ 0 ∨ (m = 0 ∧ n ≠ 0)) (he1 : -2000 ≤ e) (he2 : e ≤ 4000) (hf1 : -2000 ≤ f) (hf2 : f ≤ 4000) (A B : Nat) (G a b : Int) (t0 : (e ≤ f ∧ G = e ∧ a = 0 ∧ b = f - e) ∨ (f < e ∧ G = f ∧ a = e - f ∧ b = 0))
    (D1 : Hid (∀ w : World, Calls Try.prog 29 #[.int .u64 m, .int .i64 a] w fun e w' => (∃ v', e = .returned v' ∧ Rd w' v' (Fl.dg A)) ∧ Below w.heap.size w w'))
    (D2 : Hid (∀ w : World, Calls Try.prog 29 #[.int .u64 n, .int .i64 b] w fun e w' => (∃ v', e = .returned v' ∧ Rd w' v' (Fl.dg B)) ∧ Below w.heap.size w w'))
    (LA : Hid ((Fl.dg A).length ≤ 90000)) (LB : Hid ((Fl.dg B).length ≤ 90000))
    (hR : (s = t ∧ Hid (RndTo s (A + B) G false R)) ∨ (s = !t ∧ ((Hid (cmpF A B = 1) ∧ Hid (B ≤ A) ∧ Hid (RndTo s (A - B) G false R)) ∨ (Hid (cmpF A B = 0) ∧ R = 0) ∨ (Hid (cmpF A B = -1) ∧ Hid (A ≤ B) ∧ Hid (RndTo t (B - A) G false R))))) (w : World) :
    Calls Try.prog 16 #[.int .u64 x, .int .u64 y, .bool minus] w fun r w' => r = .returned (.int .u64 R) ∧ Below w.heap.size w w' := by
  have HX : Hid (XorF y) := Lib.hid (xorF_of hy)
  clear hy
  go_enter Try.func16, Try.ntmps16
  go_upto_if 20 with (fail)
  go_cut [1] (fun v1 wc => w = wc ∧ v1 = .int .u64 Y)
  case first =>
    clear hR hz D1 D2 PX PY
    cases minus
    · go_wp2
      go_meet
      case rel => exact ⟨rfl, by rw [← hY.out, addY_false]⟩
    · go_wp2
      go_meet
      case rel => exact ⟨rfl, xorV HX hY⟩
  case rest =>
    obtain ⟨rfl, rfl⟩ := hcut
    clear HX hY
    subst ho hp hi hj
    have t1 : (m == 0) = false ∨ ((m == 0) = true ∧ (n == 0) = false) := by
      rcases hz with h | ⟨h, h2⟩
      · left; simpa using h
      · right; exact ⟨by simpa using h, by simpa using h2⟩
    clear hz
    rcases t0 with ⟨t0, rfl, rfl, rfl⟩ | ⟨t0, rfl, rfl, rfl⟩ <;> rcases t1 with t1 | ⟨t1, t2⟩
    all_goals
      rcases hR with ⟨hst, RND⟩ | ⟨hst, ⟨HC, LE, RND⟩ | ⟨HC, rfl⟩ | ⟨HC, LE, RND⟩⟩
      all_goals
        cases t
        all_goals
          try (simp only [Bool.not_false, Bool.not_true] at hst)
          subst hst
          go_wp2_with (first
          | (go_at_call 26; first | ((with_reducible refine (PX.out _).mono ?_); rintro e w' ⟨rfl, rfl⟩) | ((with_reducible refine (PY.out _).mono ?_); rintro e w' ⟨rfl, rfl⟩))
          | (go_at_call 29; first | ((with_reducible refine (D1.out _).mono ?_); rintro e w1 ⟨⟨v1, rfl, hv1⟩, hb1⟩) | ((with_reducible refine (D2.out _).mono ?_); rintro e w2 ⟨⟨v2, rfl, hv2⟩, hb2⟩))
          | (go_at_call 36; ((with_reducible refine (dadd_any _ _ _ _ _ (hv1.below hb2) hv2 LA.out LB.out).mono ?_); rintro e w3 ⟨⟨v3, rfl, hv3⟩, hb3⟩))
          | (go_at_call 37; ((with_reducible refine (cmp_any _ _ _ _ _ (hv1.below hb2) hv2).mono ?_); rintro e w' ⟨rfl, rfl⟩; rw [HC.out]))
          | (go_at_call 38; first | ((with_reducible refine (dsub_any _ _ A B _ LE.out (hv1.below hb2) hv2 LA.out).mono ?_); rintro e w3 ⟨⟨v3, rfl, hv3⟩, hb3⟩) | ((with_reducible refine (dsub_any _ _ B A _ LE.out hv2 (hv1.below hb2) LB.out).mono ?_); rintro e w3 ⟨⟨v3, rfl, hv3⟩, hb3⟩))
          | (go_at_call 28; ((with_reducible refine (RND.out _ _ hv3).mono ?_); rintro e w4 ⟨rfl, hb4⟩)))
          go_ret
          first
            | exact ⟨rfl, hb1.trans ((hb2.trans ((hb3.trans (hb4.mono hb3.size)).mono hb2.size)).mono hb1.size)⟩
            | exact ⟨rfl, hb1.trans (hb2.mono hb1.size)⟩
end Go.Proofs.Ytebldhppnacdjaa
