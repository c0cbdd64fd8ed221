/- Walks: the reference's Mul. -/
import Derived.Test.YtebldhppnacdjaaFe
set_option linter.unusedVariables false
namespace Go.Proofs.Ytebldhppnacdjaa
open Go.RowKit
set_option maxRecDepth 20000 in
set_option maxHeartbeats 1000000 in
theorem mul_ends (x y : Nat) (s t i j o p : Bool) (e f m n : Int)
    (PX : Hid (∀ w : World, Calls Try.prog 26 #[.int .u64 (x : Int)] w fun r w' => r = .returned (.tuple #[.bool s, .int .i64 e, .int .u64 m, .bool i, .bool o]) ∧ w = w'))
    (PY : Hid (∀ w : World, Calls Try.prog 26 #[.int .u64 (y : Int)] w fun r w' => r = .returned (.tuple #[.bool t, .int .i64 f, .int .u64 n, .bool j, .bool p]) ∧ w = w'))
    (hend : (o = true) ∨ (o = false ∧ p = true) ∨ (o = false ∧ p = false ∧ i = true ∧ j = false ∧ n = 0) ∨ (o = false ∧ p = false ∧ i = false ∧ j = true ∧ m = 0)) (w : World) :
    Calls Try.prog 19 #[.int .u64 x, .int .u64 y] w fun r w' => r = .returned (.int .u64 9221120237041090561) ∧ w = w' := by
  rcases hend with rfl | ⟨rfl, rfl⟩ | ⟨rfl, rfl, rfl, rfl, rfl⟩ | ⟨rfl, rfl, rfl, rfl, rfl⟩
  all_goals
    go_enter Try.func19, Try.ntmps19
    go_wp2_with (go_at_call 26; first | ((with_reducible refine (PX.out _).mono ?_); rintro e w' ⟨rfl, rfl⟩) | ((with_reducible refine (PY.out _).mono ?_); rintro e w' ⟨rfl, rfl⟩))
    go_ret
    exact ⟨rfl, rfl⟩
set_option maxRecDepth 20000 in
set_option maxHeartbeats 1000000 in
theorem mul_infs (x y : Nat) (s t i j o p q : Bool) (e f m n R : Int)
    (PX : Hid (∀ w : World, Calls Try.prog 26 #[.int .u64 (x : Int)] w fun r w' => r = .returned (.tuple #[.bool s, .int .i64 e, .int .u64 m, .bool i, .bool o]) ∧ w = w'))
    (PY : Hid (∀ w : World, Calls Try.prog 26 #[.int .u64 (y : Int)] w fun r w' => r = .returned (.tuple #[.bool t, .int .i64 f, .int .u64 n, .bool j, .bool p]) ∧ w = w'))
    (ho : o = false) (hp : p = false) (hq : q = (s ^^ t)) (B : Nat)
    (hend : (i = true ∧ j = true) ∨ (i = true ∧ j = false ∧ n ≠ 0) ∨ (i = false ∧ j = true ∧ m ≠ 0))
    (D1 : Hid (∀ w : World, Calls Try.prog 29 #[.int .u64 1, .int .i64 2000] w fun e w' => (∃ v', e = .returned v' ∧ Rd w' v' (Fl.dg B)) ∧ Below w.heap.size w w'))
    (RND : Hid (RndTo q B 0 false R)) (w : World) :
    Calls Try.prog 19 #[.int .u64 x, .int .u64 y] w fun r w' => r = .returned (.int .u64 R) ∧ Below w.heap.size w w' := by
  subst ho hp
  have hend2 : (i = true ∧ j = true) ∨ (i = true ∧ j = false ∧ (n == 0) = false) ∨ (i = false ∧ j = true ∧ (m == 0) = false) := by simpa using hend
  clear hend
  rcases hend2 with ⟨rfl, rfl⟩ | ⟨rfl, rfl, t1⟩ | ⟨rfl, rfl, t1⟩
  all_goals
    cases s <;> cases t <;> cases q
    all_goals first
      | (exact absurd hq (by decide))
      | (clear hq
         go_enter Try.func19, Try.ntmps19
         go_wp2_with (first
           | (go_at_call 26; first | ((with_reducible refine (PX.out _).mono ?_); rintro e w' ⟨rfl, rfl⟩) | ((with_reducible refine (PY.out _).mono ?_); rintro e w' ⟨rfl, rfl⟩))
           | (go_at_call 29; ((with_reducible refine (D1.out _).mono ?_); rintro e w1 ⟨⟨v1, rfl, hv1⟩, hb1⟩))
           | (go_at_call 28; ((with_reducible refine (RND.out _ _ hv1).mono ?_); rintro e w2 ⟨rfl, hb2⟩)))
         go_ret
         exact ⟨rfl, hb1.trans (hb2.mono hb1.size)⟩)
/-- a row of digits, with what it holds. -/
def RowAt (w : World) (b off L : Nat) (n : Nat) : Prop := L = (Fl.dg n).length ∧ b < w.heap.size ∧ ∀ j, j < L → w.cell? ⟨b, off + j, none⟩ = some (.int .u8 ((n / 2 ^ j % 2 : Nat) : Int))
theorem Rd.row {w : World} {v : Value} {n : Nat} (h : Rd w v (Fl.dg n)) : ∃ b off cap L : Nat, v = .slice (some ⟨b, off, none⟩) L cap ∧ L ≤ cap ∧ L ≤ 100000 ∧ Hid (RowAt w b off L n) := by
  obtain ⟨b, off, cap, h1, h2, h3, h4, h5⟩ := h
  exact ⟨b, off, cap, _, h1, h2, h3, Lib.hid ⟨rfl, h4, fun j hj => by rw [h5 j hj, Fl.dg_getD]⟩⟩
theorem RowAt.below {w w' : World} {b off L n : Nat} (h : RowAt w b off L n) {base : Nat} (hb : Below base w w') (hbase : b < base) {k : Nat} (hk : k < L) : w'.cell? ⟨b, off + k, none⟩ = some (.int .u8 ((n / 2 ^ k % 2 : Nat) : Int)) := by
  rw [← h.2.2 k hk]
  exact hb.cell (p := ⟨b, off + k, none⟩) hbase
set_option maxRecDepth 20000 in
set_option maxHeartbeats 2000000 in
theorem mul_num (x y : Nat) (s t i j o p q : Bool) (e f : Int) (m n : Nat) (R : Int)
    (PX : Hid (∀ w : World, Calls Try.prog 26 #[.int .u64 (x : Int)] w fun r w' => r = .returned (.tuple #[.bool s, .int .i64 e, .int .u64 m, .bool i, .bool o]) ∧ w = w'))
    (PY : Hid (∀ w : World, Calls Try.prog 26 #[.int .u64 (y : Int)] w fun r w' => r = .returned (.tuple #[.bool t, .int .i64 f, .int .u64 n, .bool j, .bool p]) ∧ w = w'))
    (ho : o = false) (hp : p = false) (hi : i = false) (hj : j = false) (hq : q = (s ^^ t)) (hm : m < 2 ^ 64) (hn : n < 2 ^ 64) (he1 : -2000 ≤ e) (he2 : e ≤ 4000) (hf1 : -2000 ≤ f) (hf2 : f ≤ 4000)
    (RND : Hid (RndTo q (m * n) (e + f) false R)) (w : World) :
    Calls Try.prog 19 #[.int .u64 x, .int .u64 y] w fun r w' => r = .returned (.int .u64 R) ∧ Below w.heap.size w w' := by
  subst ho hp hi hj
  have DN : Hid (∀ w : World, Calls Try.prog 29 #[.int .u64 (n : Int), .int .i64 0] w fun e w' => (∃ b off cap L : Nat, e = .returned (.slice (some ⟨b, off, none⟩) L cap) ∧ L ≤ cap ∧ L ≤ 64 ∧ Hid (RowAt w' b off L n)) ∧ Below w.heap.size w w') := Lib.hid fun w =>
    (dof_any n 0 hn (by omega) w).mono fun r w' ⟨⟨v, h1, h2⟩, h3⟩ => by
      rw [Nat.pow_zero, Nat.mul_one] at h2
      obtain ⟨b, off, cap, L, k1, k2, k3, k4⟩ := h2.row
      exact ⟨⟨b, off, cap, L, by rw [h1, k1], k2, by rw [k4.out.1]; exact Fl.dg_len_le hn, k4⟩, h3⟩
  have DM : Hid (∀ (k : Nat) (w : World), k ≤ 64 → Calls Try.prog 29 #[.int .u64 (m : Int), .int .i64 (k : Int)] w fun e w' => (∃ v', e = .returned v' ∧ Rd w' v' (Fl.dg (m * 2 ^ k))) ∧ Below w.heap.size w w') := Lib.hid fun k w hk => dof_any m k hm (by omega) w
  have LA : Hid (∀ k : Nat, (Fl.dg (m * (n % 2 ^ k))).length ≤ 90000) := Lib.hid fun k => Nat.le_trans (Fl.dg_len_le (k := 128) (by
    have h1 : n % 2 ^ k ≤ n := Nat.mod_le _ _
    have h2 : n % 2 ^ k < 2 ^ 64 := Nat.lt_of_le_of_lt h1 hn
    rw [show (2 : Nat) ^ 128 = 2 ^ 64 * 2 ^ 64 by decide]
    exact Nat.mul_lt_mul'' hm h2)) (by decide)
  have LB : Hid (∀ k : Nat, k ≤ 64 → (Fl.dg (m * 2 ^ k)).length ≤ 90000) := Lib.hid fun k hk => Nat.le_trans (Fl.dg_len_le (k := 64 + k) (by
    rw [Nat.pow_add]
    exact Nat.mul_lt_mul_of_pos_right hm (Nat.two_pow_pos _))) (by omega)
  have HE := Lib.hid (Ow_empty w w.heap.size (Nat.le_refl _))
  clear hm hn
  cases s <;> cases t <;> cases q
  all_goals first
    | (exact absurd hq (by decide))
    | (clear hq
       go_enter Try.func19, Try.ntmps19
       go_wp2_with (first
         | (go_at_call 26; first | ((with_reducible refine (PX.out _).mono ?_); rintro e w' ⟨rfl, rfl⟩) | ((with_reducible refine (PY.out _).mono ?_); rintro e w' ⟨rfl, rfl⟩))
         | (go_at_call 29; ((with_reducible refine (DN.out _).mono ?_); rintro e w2 ⟨⟨b, off, cap, L, rfl, hc1, hc2, HRow⟩, hb2⟩)))
       have hbel : Below w.heap.size w w2 := ((Below.refl _ _).alloc (Nat.le_refl _) _).trans (hb2.mono (by simp))
       have hrd : Rd w2 (.slice (some ⟨w.heap.size, 0, none⟩) 0 0) (Fl.dg 0) := by rw [Fl.dg_zero]; exact (HE.out.rd (by simp)).below hb2
       have hsz2 := hb2.size
       clear hb2
       go_loopw [16, 75] (fun a i wr => ∃ k : Nat, k ≤ L ∧ i = .int .i64 (k : Int) ∧ Rd wr a (Fl.dg (m * (n % 2 ^ k))) ∧ Below w.heap.size w wr ∧ Below w2.heap.size w2 wr) (fun _ i _ => L - (intOf i).toNat)
       case atStart => exact ⟨0, by omega, rfl, by simpa [Nat.mod_one] using hrd, hbel, Below.refl _ _⟩
       case round =>
         obtain ⟨k, hk, rfl, ha, hbr, hb2r⟩ := hrel
         clear hrd hbel
         by_cases hlt : k < L
         · obtain ⟨d, hd⟩ : ∃ d : Nat, n / 2 ^ k % 2 = d := ⟨_, rfl⟩
           have hcell := HRow.out.below hb2r HRow.out.2.1 hlt
           rw [hd] at hcell
           have hstep : n % 2 ^ (k + 1) = n % 2 ^ k + 2 ^ k * d := by rw [Fl.mod_succ, hd]
           have hdd : d = 0 ∨ d = 1 := by omega
           rcases hdd with rfl | rfl
           · have HS : Hid (n % 2 ^ (k + 1) = n % 2 ^ k) := Lib.hid (by rw [hstep, Nat.mul_zero, Nat.add_zero])
             clear hstep hd
             go_wp2
             go_roundw
             case rel => exact ⟨k + 1, by omega, by go_num, by rw [HS.out]; exact ha, hbr, hb2r⟩
             case measure => simp [intOf]; omega
           · have HS : Hid (m * (n % 2 ^ k) + m * 2 ^ k = m * (n % 2 ^ (k + 1))) := Lib.hid (by rw [hstep, Nat.mul_one, Nat.mul_add])
             clear hstep hd
             go_wp2_with (first
               | (go_at_call 29; ((with_reducible refine (DM.out _ _ (by omega)).mono ?_); rintro e w3 ⟨⟨v3, rfl, hv3⟩, hb3⟩))
               | (go_at_call 36; ((with_reducible refine (dadd_any _ _ _ _ _ (ha.below hb3) hv3 (LA.out _) (LB.out _ (by omega))).mono ?_); rintro e w4 ⟨⟨v4, rfl, hv4⟩, hb4⟩)))
             rw [HS.out] at hv4
             have g1 := hbr.size
             have g2 := hb2r.size
             have g3 := hb3.size
             go_roundw
             case rel => exact ⟨k + 1, by omega, by go_num, hv4, hbr.trans ((hb3.trans (hb4.mono g3)).mono g1), hb2r.trans ((hb3.trans (hb4.mono g3)).mono g2)⟩
             case measure => simp [intOf]; omega
         · have hkL : k = L := by omega
           have hn : n % 2 ^ k = n := by rw [hkL, HRow.out.1]; exact Nat.mod_eq_of_lt (Fl.dg_lt n)
           rw [hn] at ha
           clear hn hkL
           go_wp2_with (go_at_call 28; ((with_reducible refine (RND.out _ _ ha).mono ?_); rintro e w5 ⟨rfl, hb5⟩))
           go_ret
           exact ⟨rfl, hbr.trans (hb5.mono hbr.size)⟩)
end Go.Proofs.Ytebldhppnacdjaa
