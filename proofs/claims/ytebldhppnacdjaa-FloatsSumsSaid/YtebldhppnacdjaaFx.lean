/- Walks: the reference's Div. -/
import Derived.Test.YtebldhppnacdjaaFv
import Derived.Test.YtebldhppnacdjaaFq
set_option linter.unusedVariables false
namespace Go.Proofs.Ytebldhppnacdjaa
open Go.RowKit
set_option maxRecDepth 20000 in
set_option maxHeartbeats 1000000 in
theorem div_ends (x y : Nat) (s t i j o p : Bool) (e f m n : Int)
    (PX : Hid (∀ w : World, Calls Try.prog 26 #[.int .u64 (x : Int)] w fun r w' => r = .returned (.tuple #[.bool s, .int .i64 e, .int .u64 m, .bool i, .bool o]) ∧ w = w'))
    (PY : Hid (∀ w : World, Calls Try.prog 26 #[.int .u64 (y : Int)] w fun r w' => r = .returned (.tuple #[.bool t, .int .i64 f, .int .u64 n, .bool j, .bool p]) ∧ w = w'))
    (hend : (o = true) ∨ (o = false ∧ p = true) ∨ (o = false ∧ p = false ∧ i = true ∧ j = true) ∨ (o = false ∧ p = false ∧ i = false ∧ j = false ∧ m = 0 ∧ n = 0)) (w : World) :
    Calls Try.prog 21 #[.int .u64 x, .int .u64 y] w fun r w' => r = .returned (.int .u64 9221120237041090561) ∧ w = w' := by
  rcases hend with rfl | ⟨rfl, rfl⟩ | ⟨rfl, rfl, rfl, rfl⟩ | ⟨rfl, rfl, rfl, rfl, rfl, rfl⟩
  all_goals
    go_enter Try.func21, Try.ntmps21
    go_wp2_with (go_at_call 26; first | ((with_reducible refine (PX.out _).mono ?_); rintro e w' ⟨rfl, rfl⟩) | ((with_reducible refine (PY.out _).mono ?_); rintro e w' ⟨rfl, rfl⟩))
    go_ret
    exact ⟨rfl, rfl⟩
set_option maxRecDepth 20000 in
set_option maxHeartbeats 1000000 in
theorem div_infs (x y : Nat) (s t i j o p q : Bool) (e f m n R : Int)
    (PX : Hid (∀ w : World, Calls Try.prog 26 #[.int .u64 (x : Int)] w fun r w' => r = .returned (.tuple #[.bool s, .int .i64 e, .int .u64 m, .bool i, .bool o]) ∧ w = w'))
    (PY : Hid (∀ w : World, Calls Try.prog 26 #[.int .u64 (y : Int)] w fun r w' => r = .returned (.tuple #[.bool t, .int .i64 f, .int .u64 n, .bool j, .bool p]) ∧ w = w'))
    (ho : o = false) (hp : p = false) (hq : q = (s ^^ t)) (B : Nat)
    (hend : (i = true ∧ j = false) ∨ (i = false ∧ j = false ∧ m ≠ 0 ∧ n = 0))
    (D1 : Hid (∀ w : World, Calls Try.prog 29 #[.int .u64 1, .int .i64 2000] w fun e w' => (∃ v', e = .returned v' ∧ Rd w' v' (Fl.dg B)) ∧ Below w.heap.size w w'))
    (RND : Hid (RndTo q B 0 false R)) (w : World) :
    Calls Try.prog 21 #[.int .u64 x, .int .u64 y] w fun r w' => r = .returned (.int .u64 R) ∧ Below w.heap.size w w' := by
  subst ho hp
  have hend2 : (i = true ∧ j = false) ∨ (i = false ∧ j = false ∧ (m == 0) = false ∧ n = 0) := by simpa using hend
  clear hend
  rcases hend2 with ⟨rfl, rfl⟩ | ⟨rfl, rfl, t1, rfl⟩
  all_goals
    cases s <;> cases t <;> cases q
    all_goals first
      | (exact absurd hq (by decide))
      | (clear hq
         go_enter Try.func21, Try.ntmps21
         go_wp2_with (first
           | (go_at_call 26; first | ((with_reducible refine (PX.out _).mono ?_); rintro e w' ⟨rfl, rfl⟩) | ((with_reducible refine (PY.out _).mono ?_); rintro e w' ⟨rfl, rfl⟩))
           | (go_at_call 29; ((with_reducible refine (D1.out _).mono ?_); rintro e w1 ⟨⟨v1, rfl, hv1⟩, hb1⟩))
           | (go_at_call 28; ((with_reducible refine (RND.out _ _ hv1).mono ?_); rintro e w2 ⟨rfl, hb2⟩)))
         go_ret
         exact ⟨rfl, hb1.trans (hb2.mono hb1.size)⟩)
set_option maxRecDepth 20000 in
set_option maxHeartbeats 1000000 in
theorem div_zero (x y : Nat) (s t i j o p q : Bool) (e f m n R : Int)
    (PX : Hid (∀ w : World, Calls Try.prog 26 #[.int .u64 (x : Int)] w fun r w' => r = .returned (.tuple #[.bool s, .int .i64 e, .int .u64 m, .bool i, .bool o]) ∧ w = w'))
    (PY : Hid (∀ w : World, Calls Try.prog 26 #[.int .u64 (y : Int)] w fun r w' => r = .returned (.tuple #[.bool t, .int .i64 f, .int .u64 n, .bool j, .bool p]) ∧ w = w'))
    (ho : o = false) (hp : p = false) (hq : q = (s ^^ t))
    (hend : (i = false ∧ j = true ∧ n = 0) ∨ (i = false ∧ j = false ∧ n ≠ 0 ∧ m = 0))
    (RND : Hid (RndTo q 0 0 false R)) (w : World) :
    Calls Try.prog 21 #[.int .u64 x, .int .u64 y] w fun r w' => r = .returned (.int .u64 R) ∧ Below w.heap.size w w' := by
  subst ho hp
  have HZ : Hid (Rd (w.alloc (.cells #[] 5)) (.slice (some ⟨w.heap.size, 0, none⟩) 0 0) (Fl.dg 0)) := Lib.hid (by rw [Fl.dg_zero]; exact (Ow_empty w w.heap.size (Nat.le_refl _)).rd (by simp))
  have hend2 : (i = false ∧ j = true ∧ n = 0) ∨ (i = false ∧ j = false ∧ (n == 0) = false ∧ m = 0) := by simpa using hend
  clear hend
  rcases hend2 with ⟨rfl, rfl, rfl⟩ | ⟨rfl, rfl, t1, rfl⟩
  all_goals
    cases s <;> cases t <;> cases q
    all_goals first
      | (exact absurd hq (by decide))
      | (clear hq
         go_enter Try.func21, Try.ntmps21
         go_wp2_with (first
           | (go_at_call 26; first | ((with_reducible refine (PX.out _).mono ?_); rintro e w' ⟨rfl, rfl⟩) | ((with_reducible refine (PY.out _).mono ?_); rintro e w' ⟨rfl, rfl⟩))
           | (go_at_call 28; ((with_reducible refine (RND.out _ _ HZ.out).mono ?_); rintro e w2 ⟨rfl, hb2⟩)))
         go_ret
         exact ⟨rfl, ((Below.refl _ _).alloc (Nat.le_refl _) _).trans (hb2.mono (by simp))⟩)
/-- what the row of the quotient holds while k digits are still to come. -/
def Quo (M N k L : Nat) (l : List Int) : Prop := l.length = L ∧ Fl.Bits l ∧ Fl.vl l = M / 2 ^ k / N * 2 ^ k ∧ ∀ j, j < k → l.getD j 0 = 0
theorem Quo.next0 {M N k L : Nat} {l : List Int} (h : Quo M N (k + 1) L l) (hq : M / 2 ^ k / N = 2 * (M / 2 ^ (k + 1) / N)) : Quo M N k L l :=
  ⟨h.1, h.2.1, by rw [h.2.2.1, hq, Nat.pow_succ, Nat.mul_comm 2, Nat.mul_assoc, Nat.mul_comm 2], fun j hj => h.2.2.2 j (by omega)⟩
theorem Quo.next1 {M N k L : Nat} {l : List Int} (h : Quo M N (k + 1) L l) (hk : k < L) (hq : M / 2 ^ k / N = 2 * (M / 2 ^ (k + 1) / N) + 1) : Quo M N k L (l.set k 1) :=
  ⟨by rw [List.length_set]; exact h.1, Fl.bits_set h.2.1 k, by rw [Fl.vl_set l k (by rw [h.1]; exact hk) (h.2.2.2 k (by omega)), h.2.2.1, hq, Nat.pow_succ, Nat.add_mul, Nat.one_mul, Nat.mul_comm 2, Nat.mul_assoc, Nat.mul_comm 2],
    fun j hj => by rw [Fl.getD_set_lt l hj]; exact h.2.2.2 j (by omega)⟩
set_option maxRecDepth 20000 in
set_option maxHeartbeats 4000000 in
theorem div_num (x y : Nat) (s t i j o p q more : Bool) (e f : Int) (m n M L : Nat) (R : Int)
    (PX : Hid (∀ w : World, Calls Try.prog 26 #[.int .u64 (x : Int)] w fun r w' => r = .returned (.tuple #[.bool s, .int .i64 e, .int .u64 m, .bool i, .bool o]) ∧ w = w'))
    (PY : Hid (∀ w : World, Calls Try.prog 26 #[.int .u64 (y : Int)] w fun r w' => r = .returned (.tuple #[.bool t, .int .i64 f, .int .u64 n, .bool j, .bool p]) ∧ w = w'))
    (ho : o = false) (hp : p = false) (hi : i = false) (hj : j = false) (hq : q = (s ^^ t)) (tm : ((m : Int) == 0) = false) (tn : ((n : Int) == 0) = false) (hN : 0 < n) (he1 : -2000 ≤ e) (he2 : e ≤ 4000) (hf1 : -2000 ≤ f) (hf2 : f ≤ 4000)
    (hL : L = (Fl.dg M).length) (hL2 : L ≤ 1000) (hn : n < 2 ^ 64)
    (DU : Hid (∀ w : World, Calls Try.prog 29 #[.int .u64 (m : Int), .int .i64 120] w fun e w' => (∃ v', e = .returned v' ∧ Rd w' v' (Fl.dg M)) ∧ Below w.heap.size w w'))
    (DN : Hid (∀ w : World, Calls Try.prog 29 #[.int .u64 (n : Int), .int .i64 0] w fun e w' => (∃ v', e = .returned v' ∧ Rd w' v' (Fl.dg n)) ∧ Below w.heap.size w w'))
    (hmore : more = decide (0 < M % n))
    (RND : Hid (RndTo q (M / n) (e - f - 120) more R)) (w : World) :
    Calls Try.prog 21 #[.int .u64 x, .int .u64 y] w fun r w' => r = .returned (.int .u64 R) ∧ Below w.heap.size w w' := by
  subst ho hp hi hj
  have HL := Lib.hid hL
  have HN := Lib.hid hN
  have HMore := Lib.hid hmore
  have hn65 : ∀ k, (Fl.dg (2 * (k % n) + 1)).length ≤ 70 ∧ (Fl.dg (2 * (k % n))).length ≤ 70 ∧ (Fl.dg (k % n)).length ≤ 70 := fun k => by
    have := Nat.mod_lt k hN
    exact ⟨Fl.dg_len_le (by omega), Fl.dg_len_le (by omega), Fl.dg_len_le (by omega)⟩
  have HLen := Lib.hid hn65
  have hmk : ∀ w : World, (Instr.makeSlice 48 (.int .i64 (L : Int)) (.int .i64 (L : Int))).run Try.prog w = .ok (.slice (some ⟨w.heap.size, 0, none⟩) L L) (w.alloc (.cells (Zs L) 5)) := fun w => make_run L (by omega) w
  have DU2 : Hid (∀ w : World, Calls Try.prog 29 #[.int .u64 (m : Int), .int .i64 120] w fun e w' => (∃ b off cap : Nat, e = .returned (.slice (some ⟨b, off, none⟩) L cap) ∧ L ≤ cap ∧ Hid (RowAt w' b off L M)) ∧ Below w.heap.size w w') := Lib.hid fun w =>
    (DU.out w).mono fun r w' ⟨⟨v, h1, h2⟩, h3⟩ => by
      obtain ⟨b, off, cap, L', k1, k2, k3, k4⟩ := h2.row
      have e1 : L' = L := by rw [HL.out, k4.out.1]
      subst e1
      exact ⟨⟨b, off, cap, by rw [h1, k1], k2, k4⟩, h3⟩
  clear hL hN hn hn65 hmore DU
  cases s <;> cases t <;> cases q
  all_goals first
    | (exact absurd hq (by decide))
    | (clear hq
       go_enter Try.func21, Try.ntmps21
       go_wp2_with (first
         | (go_at_call 26; first | ((with_reducible refine (PX.out _).mono ?_); rintro e w' ⟨rfl, rfl⟩) | ((with_reducible refine (PY.out _).mono ?_); rintro e w' ⟨rfl, rfl⟩))
         | (go_at_call 29; first | ((with_reducible refine (DU2.out _).mono ?_); rintro e w1 ⟨⟨b, off, cap, rfl, hc1, HRow⟩, hb1⟩) | ((with_reducible refine (DN.out _).mono ?_); rintro e w2 ⟨⟨v2, rfl, hv2⟩, hb2⟩)))
       have hbA : Below w.heap.size w w2 := hb1.trans (hb2.mono hb1.size)
       have hqb := Ow_make w2 w2.heap.size (Nat.le_refl _) L (by omega)
       have hq0 := hqb.alloc (.cells #[] 5)
       have hr0 : Rd ((w2.alloc (.cells (Zs L) 5)).alloc (.cells #[] 5)) (.slice (some ⟨w2.heap.size + 1, 0, none⟩) 0 0) [] := by
         have := (Ow_empty (w2.alloc (.cells (Zs L) 5)) w2.heap.size (by simp)).rd (by simp)
         simpa using this
       have hrb : b < w2.heap.size := Nat.lt_of_lt_of_le HRow.out.2.1 hb2.size
       have HRow2 : Hid (∀ (w' : World) (k : Nat), Below w2.heap.size w2 w' → k < L → w'.cell? ⟨b, off + k, none⟩ = some (.int .u8 ((M / 2 ^ k % 2 : Nat) : Int))) := Lib.hid (fun w' k hb hk => by
         rw [← HRow.out.below hb2 HRow.out.2.1 hk]
         exact hb.cell (p := ⟨b, off + k, none⟩) hrb)
       have hbel0 : Below w2.heap.size w2 ((w2.alloc (.cells (Zs L) 5)).alloc (.cells #[] 5)) := ((Below.refl _ _).alloc (Nat.le_refl _) _).alloc (by simp) _
       have HQ0 : Hid (Quo M n L L (List.replicate L 0)) := Lib.hid ⟨by simp, Fl.bits_zeros L, by
         have hz : M / 2 ^ L = 0 := Nat.div_eq_of_lt (by rw [HL.out]; exact Fl.dg_lt M)
         rw [Fl.vl_zeros, hz, Nat.zero_div, Nat.zero_mul], fun j hj => by simp [List.getD_eq_getElem?_getD, List.getElem?_replicate, hj]⟩
       have HR0 : Hid (M / 2 ^ L % n = 0) := Lib.hid (by rw [Nat.div_eq_of_lt (by rw [HL.out]; exact Fl.dg_lt M), Nat.zero_mod])
       obtain ⟨qb, hqbe⟩ : ∃ qb, qb = w2.heap.size := ⟨_, rfl⟩
       clear hb1 hb2 hqb
       go_loopw [19, 20] (fun rs i wr => ∃ (k : Nat) (l : List Int), k ≤ L ∧ i = .int .i64 ((k : Int) - 1) ∧ Rd wr rs (Fl.dg (M / 2 ^ k % n)) ∧ rs.ownBlock ≠ some w2.heap.size ∧ Ow wr w2.heap.size (.slice (some ⟨w2.heap.size, 0, none⟩) L L) l ∧ Below w2.heap.size w2 wr ∧ w2.heap.size < wr.heap.size ∧ Hid (Quo M n k L l)) (fun _ i _ => (intOf i + 1).toNat)
       case atStart => exact ⟨L, _, Nat.le_refl _, rfl, by rw [HR0.out, Fl.dg_zero]; exact hr0, by simp [Value.ownBlock], hq0, hbel0, by simp; omega, HQ0⟩
       case round =>
         obtain ⟨k, l, hk, rfl, hrs, hrsb, hqq, hbr, hsz, HQ⟩ := hrel
         clear hq0 hr0 hbel0 HQ0 HR0
         by_cases hk0 : k = 0
         · subst hk0
           have hqv : Fl.vl l = M / n := by have := HQ.out.2.2.1; rw [Nat.pow_zero, Nat.div_one, Nat.mul_one] at this; exact this
           have hrv : M / 2 ^ 0 % n = M % n := by rw [Nat.pow_zero, Nat.div_one]
           rw [hrv] at hrs
           have ht := trim_any _ _ HQ.out.2.1 wr (hqq.rd (by rw [HQ.out.1]; omega))
           rw [hqv] at ht
           have HT := Lib.hid ht
           obtain ⟨b3, o3, c3, n3, rfl, hn3, hn33, HRow3⟩ := hrs.row
           have hm3 : (0 < n3) ↔ more = true := by
             rw [HRow3.out.1, HMore.out, decide_eq_true_eq, Fl.dg_length]
             by_cases h0 : M % n = 0
             · rw [h0]; simp
             · rw [if_neg h0]; omega
           have HDec : Hid (decide (0 < n3) = more) := Lib.hid (by rw [Bool.eq_iff_iff, decide_eq_true_eq]; exact hm3)
           clear ht hqv hrv hm3 hrs hqq
           go_wp2_with (first
             | (go_at_call 39; ((with_reducible refine HT.out.mono ?_); rintro e w' ⟨⟨v', rfl, hv'⟩, rfl⟩))
             | (go_at_call 28; rw [HDec.out]; ((with_reducible refine (RND.out _ _ hv').mono ?_); rintro e w5 ⟨rfl, hb5⟩)))
           go_ret
           exact ⟨rfl, hbA.trans ((hbr.trans (hb5.mono (Nat.le_of_lt hsz))).mono hbA.size)⟩
         · obtain ⟨h, rfl⟩ : ∃ h, k = h + 1 := ⟨k - 1, by omega⟩
           obtain ⟨d, hd⟩ : ∃ d : Nat, M / 2 ^ h % 2 = d := ⟨_, rfl⟩
           have hcell := HRow2.out wr h hbr (by omega)
           rw [hd] at hcell
           have hdd : d = 0 ∨ d = 1 := by omega
           obtain ⟨r, hr1, hr2, hr3⟩ := Fl.div_step (M := M) (N := n) (k := h) HN.out hd
           rw [← hr1] at hrs
           have hbits : Fl.Bits ([(d : Int)] ++ Fl.dg r) := Fl.bits_append (Fl.bits_one (by omega)) (Fl.bits_dg r)
           have hvl : Fl.vl ([(d : Int)] ++ Fl.dg r) = 2 * r + d := by
             show (d : Int).toNat + 2 * Fl.vl (Fl.dg r) = _
             rw [Fl.vl_dg, Int.toNat_natCast]; omega
           have hlr : (Fl.dg r).length ≤ 70 := by rw [hr1]; exact (HLen.out _).2.2
           have HLL : Hid ([(d : Int)].length + (Fl.dg r).length ≤ 100000) := Lib.hid (by simp; omega)
           have HLT : Hid (([(d : Int)] ++ Fl.dg r).length ≤ 100000) := Lib.hid (by simp; omega)
           have hlr2 : (Fl.dg (2 * r + d)).length ≤ 90000 := by
             rw [hr1]; rcases hdd with rfl | rfl
             · exact Nat.le_trans (HLen.out _).2.1 (by decide)
             · exact Nat.le_trans (HLen.out _).1 (by decide)
           have HLR := Lib.hid hlr2
           have HNew := Lib.hid (Ow_new wr wr.heap.size (Nat.le_refl _) [(d : Int)] #[.int .u8 (d : Int)] rfl (by simp))
           have HBits := Lib.hid hbits
           have HVl := Lib.hid hvl
           have hcond : ((0 : Int) ≤ cmpF (2 * r + d) n ∧ n ≤ 2 * r + d ∧ M / 2 ^ h % n = 2 * r + d - n ∧ M / 2 ^ h / n = 2 * (M / 2 ^ (h + 1) / n) + 1) ∨ (¬ (0 : Int) ≤ cmpF (2 * r + d) n ∧ M / 2 ^ h % n = 2 * r + d ∧ M / 2 ^ h / n = 2 * (M / 2 ^ (h + 1) / n)) := by
             rcases hr3 with ⟨h1, h2, h3⟩ | ⟨h1, h2, h3⟩
             · right; exact ⟨by have := cmpF_lt.2 h1; omega, h2, h3⟩
             · left; exact ⟨by have := (not_congr cmpF_lt).2 (by omega : ¬ 2 * r + d < n); omega, h1, h2, h3⟩
           obtain ⟨c, hc⟩ : ∃ c, cmpF (2 * r + d) n = c := ⟨_, rfl⟩
           rw [hc] at hcond
           have HC := Lib.hid hc
           obtain ⟨hput1, hput2, -⟩ := hqq.put HQ.out.1 h (by omega) (by omega)
           clear hd hr1 hr2 hr3 hbits hvl hlr hlr2 hc hdd hk0 hput1 hput2
           rcases hcond with ⟨tc, hge, hrem, hquo⟩ | ⟨tc, hrem, hquo⟩
           · have HGe := Lib.hid hge
             have HRem := Lib.hid hrem
             have HQuo := Lib.hid hquo
             clear hge hrem hquo
             go_wp2_with (first
               | (at_builtin; refine wpList_append_O rfl _ _ 48 rfl wr.heap.size Try.underlying48 _ [(d : Int)] rfl HNew.out _ (Fl.dg r) rfl (hrs.alloc _) (by simp) HLL.out ?_; intro v4 w4 hown4 hbel4 hsz4; obtain ⟨g4, hg4, hg4'⟩ := hown4.block; have hrd4 := hown4.rd HLT.out; have hbW4 : Below wr.heap.size wr w4 := ((Below.refl _ _).alloc (Nat.le_refl _) _).trans hbel4; have hq4 := hqq.mono hbW4.block; have hbZ4 := hbr.trans (hbW4.mono (Nat.le_of_lt hsz)); have hv24 := hv2.below hbZ4)
               | (go_at_call 39; ((with_reducible refine (trim_own _ _ HBits.out _ hrd4).mono ?_); rintro e w' ⟨⟨v5, rfl, hv5, hv5b⟩, rfl⟩; rw [HVl.out] at hv5))
               | (go_at_call 37; ((with_reducible refine (cmp_any _ _ _ _ _ hv5 hv24).mono ?_); rintro e w' ⟨rfl, rfl⟩; rw [HC.out]))
               | (go_at_call 38; ((with_reducible refine (dsub_own _ _ _ _ _ HGe.out hv5 hv24 HLR.out).mono ?_); rintro e w6 ⟨⟨v6, rfl, hv6, g6, hg6, hg6'⟩, hb6⟩; have hq6 := hq4.mono hb6.block; obtain ⟨hp1, hp2, hp3⟩ := hq6.put HQ.out.1 h (by omega) (by omega))))
             have s4 := hbW4.size
             have s6 := hb6.size
             have hb6' := (hbZ4.trans (hb6.mono (by omega))).setCell (p := ⟨w2.heap.size, h, none⟩) (Nat.le_refl _) (.int .u8 1)
             have hne6 : v6.ownBlock ≠ some w2.heap.size := by rw [hg6]; intro e; have := Option.some.inj e; omega
             go_roundw
             case rel => exact ⟨h, l.set h 1, by omega, by go_num, by rw [HRem.out]; exact hv6.setCell hne6 _, hne6, hp3, hb6', by simp; omega, Lib.hid (HQ.out.next1 (by omega) HQuo.out)⟩
             case measure => simp [intOf]
           · have HRem := Lib.hid hrem
             have HQuo := Lib.hid hquo
             clear hrem hquo
             go_wp2_with (first
               | (at_builtin; refine wpList_append_O rfl _ _ 48 rfl wr.heap.size Try.underlying48 _ [(d : Int)] rfl HNew.out _ (Fl.dg r) rfl (hrs.alloc _) (by simp) HLL.out ?_; intro v4 w4 hown4 hbel4 hsz4; obtain ⟨g4, hg4, hg4'⟩ := hown4.block; have hrd4 := hown4.rd HLT.out; have hbW4 : Below wr.heap.size wr w4 := ((Below.refl _ _).alloc (Nat.le_refl _) _).trans hbel4; have hq4 := hqq.mono hbW4.block; have hbZ4 := hbr.trans (hbW4.mono (Nat.le_of_lt hsz)); have hv24 := hv2.below hbZ4)
               | (go_at_call 39; ((with_reducible refine (trim_own _ _ HBits.out _ hrd4).mono ?_); rintro e w' ⟨⟨v5, rfl, hv5, hv5b⟩, rfl⟩; rw [HVl.out] at hv5))
               | (go_at_call 37; ((with_reducible refine (cmp_any _ _ _ _ _ hv5 hv24).mono ?_); rintro e w' ⟨rfl, rfl⟩; rw [HC.out]))
               | (go_at_call 38; ((with_reducible refine (dsub_own _ _ _ _ _ HGe.out hv5 hv24 HLR.out).mono ?_); rintro e w6 ⟨⟨v6, rfl, hv6, g6, hg6, hg6'⟩, hb6⟩; have hq6 := hq4.mono hb6.block; obtain ⟨hp1, hp2, hp3⟩ := hq6.put HQ.out.1 h (by omega) (by omega))))
             have s4 := hbW4.size
             have hne5 : v5.ownBlock ≠ some w2.heap.size := by rw [hv5b, hg4]; intro e; have := Option.some.inj e; omega
             go_roundw
             case rel => exact ⟨h, l, by omega, by go_num, by rw [HRem.out]; exact hv5, hne5, hq4, hbZ4, by omega, Lib.hid (HQ.out.next0 HQuo.out)⟩
             case measure => simp [intOf])
end Go.Proofs.Ytebldhppnacdjaa
