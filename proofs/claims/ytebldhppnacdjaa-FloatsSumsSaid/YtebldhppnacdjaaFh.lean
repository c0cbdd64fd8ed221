/- Walks: the reference's rows of digits: Cmp, add, sub. -/
import Derived.Test.YtebldhppnacdjaaFg
set_option linter.unusedVariables false
namespace Go.Proofs.Ytebldhppnacdjaa
open Go.RowKit
theorem bit_c (v : Value) (l : List Int) (m : Nat) (d : Int) (w : World) (h : Rd w v l) (hd : l.getD m 0 = d) :
    Calls Try.prog 42 #[v, .int .i64 (m : Int)] w fun e w' => e = .returned (.int .u8 d) ∧ w = w' := by
  have := bit_any v l (m : Int) (by omega) w h
  rw [Int.toNat_natCast, hd] at this
  exact this
def cmpF (a b : Nat) : Int := if a < b then -1 else if a = b then 0 else 1
set_option maxHeartbeats 400000 in
theorem cmp_any (u v : Value) (a b : Nat) (w : World) (hu : Rd w u (Fl.dg a)) (hv : Rd w v (Fl.dg b)) :
    Calls Try.prog 37 #[u, v] w fun e w' => e = .returned (.int .i64 (cmpF a b)) ∧ w = w' := by
  have HU := Lib.hid hu
  have HV := Lib.hid hv
  obtain ⟨b1, o1, p1, rfl, h12, h13, -, -⟩ := hu
  obtain ⟨b2, o2, p2, rfl, h22, h23, -, -⟩ := hv
  obtain ⟨n1, e1⟩ : ∃ n1, n1 = (Fl.dg a).length := ⟨_, rfl⟩
  obtain ⟨n2, e2⟩ : ∃ n2, n2 = (Fl.dg b).length := ⟨_, rfl⟩
  have ha := Fl.dg_lt a
  have hb := Fl.dg_lt b
  rw [← e1] at HU h12 h13 ha ⊢
  rw [← e2] at HV h22 h23 hb ⊢
  have HA : Hid (∀ k, n1 ≤ k → n2 ≤ k → a / 2 ^ k = b / 2 ^ k) := Lib.hid (fun k h1 h2 => by
    rw [Nat.div_eq_of_lt (Nat.lt_of_lt_of_le ha (Nat.pow_le_pow_right (by decide) h1)), Nat.div_eq_of_lt (Nat.lt_of_lt_of_le hb (Nat.pow_le_pow_right (by decide) h2))])
  clear ha hb e1 e2
  by_cases hmx : (n1 : Int) < n2
  all_goals
    go_enter Try.func37, Try.ntmps37
    go_wp2
    go_loop [5] (fun i => ∃ k : Nat, k ≤ 100000 ∧ i = .int .i64 ((k : Int) - 1) ∧ Hid (a / 2 ^ k = b / 2 ^ k)) (fun i => (intOf i + 1).toNat)
    case atStart => first | exact ⟨n2, by omega, rfl, Lib.hid (HA.out n2 (by omega) (by omega))⟩ | exact ⟨n1, by omega, rfl, Lib.hid (HA.out n1 (by omega) (by omega))⟩
    case round =>
      obtain ⟨k, hk, rfl, HK⟩ := hrel
      by_cases h0 : k = 0
      · have hab : a = b := by have := HK.out; rw [h0] at this; simpa using this
        have HC : Hid (cmpF a b = 0) := Lib.hid (by unfold cmpF; rw [if_neg (by omega), if_pos hab])
        have h00 : ¬ ((1 : Int) ≤ k) := by omega
        clear hab h0
        go_wp2
        go_ret
        exact ⟨by rw [HC.out]; rfl, rfl⟩
      · obtain ⟨m, rfl⟩ : ∃ m, k = m + 1 := ⟨k - 1, by omega⟩
        have g1 := Fl.dg_getD a m
        have g2 := Fl.dg_getD b m
        have d1 := Fl.div_succ a m
        have d2 := Fl.div_succ b m
        rw [HK.out] at d1
        have la : ∀ {x y : Nat}, x / 2 ^ m < y / 2 ^ m → x < y := fun {x y} h => by
          rcases Nat.lt_or_ge x y with h1 | h1
          · exact h1
          · have := Nat.div_le_div_right (c := 2 ^ m) h1; omega
        obtain ⟨x, hx⟩ : ∃ x : Nat, x = a / 2 ^ m % 2 := ⟨_, rfl⟩
        obtain ⟨y, hy⟩ : ∃ x : Nat, x = b / 2 ^ m % 2 := ⟨_, rfl⟩
        rw [← hx] at g1 d1
        rw [← hy] at g2 d2
        have B1 : Hid (Calls Try.prog 42 #[.slice (some ⟨b1, o1, none⟩) n1 p1, .int .i64 (m : Int)] w fun e w'' => e = .returned (.int .u8 (x : Int)) ∧ w = w'') := Lib.hid (bit_c _ _ m _ _ HU.out g1)
        have B2 : Hid (Calls Try.prog 42 #[.slice (some ⟨b2, o2, none⟩) n2 p2, .int .i64 (m : Int)] w fun e w'' => e = .returned (.int .u8 (y : Int)) ∧ w = w'') := Lib.hid (bit_c _ _ m _ _ HV.out g2)
        have HCmp : Hid (cmpF a b = if x = y then cmpF a b else if y < x then 1 else -1) := Lib.hid (by
          by_cases hxy : x = y
          · rw [if_pos hxy]
          · rw [if_neg hxy]
            by_cases hlt : y < x
            · rw [if_pos hlt]
              have h1 : b < a := la (by omega)
              unfold cmpF; rw [if_neg (by omega), if_neg (by omega)]
            · rw [if_neg hlt]
              have h1 : a < b := la (by omega)
              unfold cmpF; rw [if_pos h1])
        have HEq : Hid (x = y → a / 2 ^ m = b / 2 ^ m) := Lib.hid (fun h => by omega)
        clear g1 g2 d1 d2 hx hy la HK h0
        rcases Nat.lt_trichotomy x y with h | h | h
        · have HR : Hid (cmpF a b = -1) := Lib.hid (by rw [HCmp.out, if_neg (by omega), if_neg (by omega)])
          have t1 : ((x : Int) != y) = true := by simp; omega
          have t2 : ¬ ((y : Int) < x) := by omega
          clear h
          go_wp2_with (go_at_call 42; first | ((with_reducible refine B1.out.mono ?_); rintro e w' ⟨rfl, rfl⟩) | ((with_reducible refine B2.out.mono ?_); rintro e w' ⟨rfl, rfl⟩))
          go_ret
          exact ⟨by rw [HR.out]; rfl, rfl⟩
        · have HR := Lib.hid (HEq.out h)
          have t1 : ((x : Int) != y) = false := by simp; omega
          clear h
          go_wp2_with (go_at_call 42; first | ((with_reducible refine B1.out.mono ?_); rintro e w' ⟨rfl, rfl⟩) | ((with_reducible refine B2.out.mono ?_); rintro e w' ⟨rfl, rfl⟩))
          go_round
          case rel => exact ⟨m, by omega, rfl, HR⟩
          case measure => simp [intOf]
        · have HR : Hid (cmpF a b = 1) := Lib.hid (by rw [HCmp.out, if_neg (by omega), if_pos h])
          have t1 : ((x : Int) != y) = true := by simp; omega
          have t2 : (y : Int) < x := by omega
          clear h
          go_wp2_with (go_at_call 42; first | ((with_reducible refine B1.out.mono ?_); rintro e w' ⟨rfl, rfl⟩) | ((with_reducible refine B2.out.mono ?_); rintro e w' ⟨rfl, rfl⟩))
          go_ret
          exact ⟨by rw [HR.out]; rfl, rfl⟩
theorem Ow_empty (w : World) (base : Nat) (hb : base ≤ w.heap.size) : Ow (w.alloc (.cells #[] 5)) base (.slice (some ⟨w.heap.size, 0, none⟩) 0 0) [] := Ow_new w base hb [] #[] rfl (by simp)
theorem add_end {a b k c : Nat} {l : List Int} (h1 : a < 2 ^ k) (h2 : b < 2 ^ k) (h0 : c = 0) (h : Fl.vl l + c * 2 ^ k = a % 2 ^ k + b % 2 ^ k) : Fl.vl l = a + b := by
  subst h0
  rw [Nat.mod_eq_of_lt h1, Nat.mod_eq_of_lt h2] at h
  omega
theorem add_step {a b k c x y r c' : Nat} {l : List Int} (hx : a / 2 ^ k % 2 = x) (hy : b / 2 ^ k % 2 = y) (hr : (x + y + c) % 2 = r) (hc : (x + y + c) / 2 = c') (hl : l.length = k) (h : Fl.vl l + c * 2 ^ k = a % 2 ^ k + b % 2 ^ k) :
    Fl.vl (l ++ [(r : Int)]) + c' * 2 ^ (k + 1) = a % 2 ^ (k + 1) + b % 2 ^ (k + 1) := by
  rw [Fl.vl_snoc, hl, Fl.mod_succ a, Fl.mod_succ b, hx, hy, Int.toNat_natCast, Nat.pow_succ]
  have e : x + y + c = 2 * c' + r := by omega
  generalize 2 ^ k = p at *
  have e1 : c' * (p * 2) + p * r = p * (2 * c' + r) := by rw [Nat.mul_add, Nat.mul_comm c', Nat.mul_assoc]
  have e2 : p * (x + y + c) = p * x + p * y + c * p := by rw [Nat.mul_add, Nat.mul_add, Nat.mul_comm p c]
  rw [← e, e2] at e1
  omega
set_option maxHeartbeats 1000000 in
theorem dadd_any (u v : Value) (a b : Nat) (w : World) (hu : Rd w u (Fl.dg a)) (hv : Rd w v (Fl.dg b)) (hla : (Fl.dg a).length ≤ 90000) (hlb : (Fl.dg b).length ≤ 90000) :
    Calls Try.prog 36 #[u, v] w fun e w' => (∃ v', e = .returned v' ∧ Rd w' v' (Fl.dg (a + b))) ∧ Below w.heap.size w w' := by
  have HU := Lib.hid hu
  have HV := Lib.hid hv
  obtain ⟨b1, o1, p1, rfl, h12, h13, -, -⟩ := hu
  obtain ⟨b2, o2, p2, rfl, h22, h23, -, -⟩ := hv
  obtain ⟨n1, e1⟩ : ∃ n1, n1 = (Fl.dg a).length := ⟨_, rfl⟩
  obtain ⟨n2, e2⟩ : ∃ n2, n2 = (Fl.dg b).length := ⟨_, rfl⟩
  have ha := Fl.dg_lt a
  have hb := Fl.dg_lt b
  rw [← e1] at HU h12 h13 ha hla ⊢
  rw [← e2] at HV h22 h23 hb hlb ⊢
  have HA := Lib.hid ha
  have HB := Lib.hid hb
  have HO := Lib.hid (Ow_empty w w.heap.size (Nat.le_refl _))
  clear ha hb e1 e2
  go_enter Try.func36, Try.ntmps36
  go_wp2
  go_loopw [5, 6, 7] (fun out cr i wr => ∃ (k c : Nat) (l : List Int), c ≤ 1 ∧ (k ≤ n1 ∨ k ≤ n2 ∨ (k = max n1 n2 + 1 ∧ c = 0)) ∧ i = .int .i64 k ∧ cr = .int .u8 c ∧ Ow wr w.heap.size out l ∧ Below w.heap.size w wr ∧ w.heap.size ≤ wr.heap.size ∧
      Hid (l.length = k ∧ Fl.Bits l ∧ Fl.vl l + c * 2 ^ k = a % 2 ^ k + b % 2 ^ k)) (fun _ _ i _ => max n1 n2 + 1 - (intOf i).toNat)
  case atStart => exact ⟨0, 0, [], by omega, by omega, rfl, rfl, HO.out, (Below.refl _ _).alloc (Nat.le_refl _) _, by simp, Lib.hid ⟨rfl, (fun x hx => by cases hx), by simp [Fl.vl, Nat.mod_one]⟩⟩
  case round =>
    obtain ⟨k, c, l, hc, hk, rfl, rfl, hown, hbel, hsz, HL⟩ := hrel
    have hk2 : k ≤ 90001 := by omega
    by_cases hgo : k < n1 ∨ k < n2 ∨ 0 < c
    · have hkm : k < max n1 n2 + 1 := by omega
      obtain ⟨x, hx⟩ : ∃ x : Nat, a / 2 ^ k % 2 = x := ⟨_, rfl⟩
      obtain ⟨y, hy⟩ : ∃ x : Nat, b / 2 ^ k % 2 = x := ⟨_, rfl⟩
      obtain ⟨r, hr⟩ : ∃ r : Nat, (x + y + c) % 2 = r := ⟨_, rfl⟩
      obtain ⟨c', hc'⟩ : ∃ r : Nat, (x + y + c) / 2 = r := ⟨_, rfl⟩
      have g1 := Fl.dg_getD a k
      have g2 := Fl.dg_getD b k
      rw [hx] at g1
      rw [hy] at g2
      have B1 : Hid (Calls Try.prog 42 #[.slice (some ⟨b1, o1, none⟩) n1 p1, .int .i64 (k : Int)] wr fun e w'' => e = .returned (.int .u8 (x : Int)) ∧ wr = w'') := Lib.hid (bit_c _ _ k _ _ (HU.out.below hbel) g1)
      have B2 : Hid (Calls Try.prog 42 #[.slice (some ⟨b2, o2, none⟩) n2 p2, .int .i64 (k : Int)] wr fun e w'' => e = .returned (.int .u8 (y : Int)) ∧ wr = w'') := Lib.hid (bit_c _ _ k _ _ (HV.out.below hbel) g2)
      have hxb : x ≤ 1 := by omega
      have hyb : y ≤ 1 := by omega
      have hr1 : r ≤ 1 := by omega
      have hc1 : c' ≤ 1 := by omega
      have i1 : ((x : Int) + y + c) % 2 = (r : Int) := by omega
      have i2 : ((x : Int) + y + c) / 2 = (c' : Int) := by omega
      have HS : Hid ((l ++ [(r : Int)]).length = k + 1 ∧ Fl.Bits (l ++ [(r : Int)]) ∧ Fl.vl (l ++ [(r : Int)]) + c' * 2 ^ (k + 1) = a % 2 ^ (k + 1) + b % 2 ^ (k + 1)) := Lib.hid
        ⟨by have := HL.out.1; simp; omega, Fl.bits_append HL.out.2.1 (Fl.bits_one (by omega)), add_step hx hy hr hc' HL.out.1 HL.out.2.2⟩
      have HK : Hid (k + 1 ≤ n1 ∨ k + 1 ≤ n2 ∨ (k + 1 = max n1 n2 + 1 ∧ c' = 0)) := Lib.hid (by
        by_cases h1 : k < n1
        · exact Or.inl h1
        · by_cases h2 : k < n2
          · exact Or.inr (Or.inl h2)
          · right; right
            have hx0 : x = 0 := by rw [← hx, Nat.div_eq_of_lt (Nat.lt_of_lt_of_le HA.out (Nat.pow_le_pow_right (by decide) (by omega)))]
            have hy0 : y = 0 := by rw [← hy, Nat.div_eq_of_lt (Nat.lt_of_lt_of_le HB.out (Nat.pow_le_pow_right (by decide) (by omega)))]
            exact ⟨by omega, by omega⟩)
      have HLL : Hid (l.length + [(r : Int)].length ≤ 100000) := Lib.hid (by have := HL.out.1; simp; omega)
      clear hx hy hr hc' g1 g2 hk HL
      have h3 : (k : Int) < n1 ∨ ((n1 : Int) ≤ k ∧ (k : Int) < n2) ∨ ((n1 : Int) ≤ k ∧ (n2 : Int) ≤ k ∧ (0 : Int) < c) := by omega
      clear hgo
      rcases h3 with h3 | ⟨h3, h4⟩ | ⟨h3, h4, h5⟩
      all_goals
        go_wp2_with (first
          | (go_at_call 42; first | ((with_reducible refine B1.out.mono ?_); rintro e w' ⟨rfl, rfl⟩) | ((with_reducible refine B2.out.mono ?_); rintro e w' ⟨rfl, rfl⟩))
          | (at_builtin; refine wpList_append_O rfl _ _ 48 rfl w.heap.size Try.underlying48 _ _ rfl (hown.alloc _) _ [(r : Int)] rfl (Rd_one _ _) (by simp; omega) HLL.out ?_; intro v' w' hown' hbel' hsz'))
        have hbel2 : Below w.heap.size w w' := (hbel.alloc hsz _).trans hbel'
        clear hown hbel hbel' B1 B2
        go_wp2
        go_roundw
        case rel => exact ⟨k + 1, c', _, hc1, HK.out, by go_num, by rw [i2], hown', hbel2, hsz', HS⟩
        case measure => simp [intOf]; omega
    · have hv : Fl.vl l = a + b := add_end (k := k) (c := c) (Nat.lt_of_lt_of_le HA.out (Nat.pow_le_pow_right (by decide) (by omega))) (Nat.lt_of_lt_of_le HB.out (Nat.pow_le_pow_right (by decide) (by omega))) (by omega) HL.out.2.2
      have hrd := hown.rd (by have := HL.out.1; omega)
      have ht := trim_any _ _ HL.out.2.1 wr hrd
      rw [hv] at ht
      have HT := Lib.hid ht
      have h3 : ¬ (k : Int) < n1 := by omega
      have h4 : ¬ (k : Int) < n2 := by omega
      have h5 : ¬ (0 : Int) < c := by omega
      clear ht hrd hown hv hgo hk
      go_wp2_with (go_at_call 39; ((with_reducible refine HT.out.mono ?_); rintro e w' ⟨⟨v', rfl, hv'⟩, rfl⟩))
      go_ret
      exact ⟨⟨v', rfl, hv'⟩, hbel⟩
theorem sub_step {a b k c x y r c' : Nat} {l : List Int} (hc0 : c ≤ 1) (hx : a / 2 ^ k % 2 = x) (hy : b / 2 ^ k % 2 = y) (hr : (2 + x - y - c) % 2 = r) (hc : 1 - (2 + x - y - c) / 2 = c') (hl : l.length = k) (h : Fl.vl l + b % 2 ^ k = a % 2 ^ k + c * 2 ^ k) :
    Fl.vl (l ++ [(r : Int)]) + b % 2 ^ (k + 1) = a % 2 ^ (k + 1) + c' * 2 ^ (k + 1) := by
  rw [Fl.vl_snoc, hl, Fl.mod_succ a, Fl.mod_succ b, hx, hy, Int.toNat_natCast, Nat.pow_succ]
  have e : r + y + c = x + 2 * c' := by omega
  generalize 2 ^ k = p at *
  have e1 : p * (r + y + c) = p * r + p * y + c * p := by rw [Nat.mul_add, Nat.mul_add, Nat.mul_comm p c]
  have e2 : p * (x + 2 * c') = p * x + c' * (p * 2) := by rw [Nat.mul_add, Nat.mul_comm c', Nat.mul_assoc, ← Nat.mul_assoc p 2, Nat.mul_comm p 2, Nat.mul_assoc]
  rw [e, e2] at e1
  omega
set_option maxHeartbeats 1000000 in
theorem dsub_any (u v : Value) (a b : Nat) (w : World) (hab : b ≤ a) (hu : Rd w u (Fl.dg a)) (hv : Rd w v (Fl.dg b)) (hla : (Fl.dg a).length ≤ 90000) :
    Calls Try.prog 38 #[u, v] w fun e w' => (∃ v', e = .returned v' ∧ Rd w' v' (Fl.dg (a - b))) ∧ Below w.heap.size w w' := by
  have HU := Lib.hid hu
  have HV := Lib.hid hv
  obtain ⟨b1, o1, p1, rfl, h12, h13, -, -⟩ := hu
  obtain ⟨b2, o2, p2, rfl, h22, h23, -, -⟩ := hv
  obtain ⟨n1, e1⟩ : ∃ n1, n1 = (Fl.dg a).length := ⟨_, rfl⟩
  obtain ⟨n2, e2⟩ : ∃ n2, n2 = (Fl.dg b).length := ⟨_, rfl⟩
  have ha := Fl.dg_lt a
  rw [← e1] at HU h12 h13 ha hla ⊢
  rw [← e2] at HV h22 h23 ⊢
  have HA := Lib.hid ha
  have HO := Lib.hid (Ow_empty w w.heap.size (Nat.le_refl _))
  have HAB := Lib.hid hab
  clear ha e1 e2 hab
  go_enter Try.func38, Try.ntmps38
  go_wp2
  go_loopw [5, 6, 12] (fun out cr i wr => ∃ (k c : Nat) (l : List Int), c ≤ 1 ∧ k ≤ n1 ∧ i = .int .i64 k ∧ cr = .int .u8 c ∧ Ow wr w.heap.size out l ∧ Below w.heap.size w wr ∧ w.heap.size ≤ wr.heap.size ∧
      Hid (l.length = k ∧ Fl.Bits l ∧ Fl.vl l + b % 2 ^ k = a % 2 ^ k + c * 2 ^ k)) (fun _ _ i _ => n1 - (intOf i).toNat)
  case atStart => exact ⟨0, 0, [], by omega, by omega, rfl, rfl, HO.out, (Below.refl _ _).alloc (Nat.le_refl _) _, by simp, Lib.hid ⟨rfl, (fun x hx => by cases hx), by simp [Fl.vl, Nat.mod_one]⟩⟩
  case round =>
    obtain ⟨k, c, l, hc, hk, rfl, rfl, hown, hbel, hsz, HL⟩ := hrel
    by_cases hgo : k < n1
    · obtain ⟨x, hx⟩ : ∃ x : Nat, a / 2 ^ k % 2 = x := ⟨_, rfl⟩
      obtain ⟨y, hy⟩ : ∃ x : Nat, b / 2 ^ k % 2 = x := ⟨_, rfl⟩
      obtain ⟨r, hr⟩ : ∃ r : Nat, (2 + x - y - c) % 2 = r := ⟨_, rfl⟩
      obtain ⟨c', hc'⟩ : ∃ r : Nat, 1 - (2 + x - y - c) / 2 = r := ⟨_, rfl⟩
      have g1 := Fl.dg_getD a k
      have g2 := Fl.dg_getD b k
      rw [hx] at g1
      rw [hy] at g2
      have B1 : Hid (Calls Try.prog 42 #[.slice (some ⟨b1, o1, none⟩) n1 p1, .int .i64 (k : Int)] wr fun e w'' => e = .returned (.int .u8 (x : Int)) ∧ wr = w'') := Lib.hid (bit_c _ _ k _ _ (HU.out.below hbel) g1)
      have B2 : Hid (Calls Try.prog 42 #[.slice (some ⟨b2, o2, none⟩) n2 p2, .int .i64 (k : Int)] wr fun e w'' => e = .returned (.int .u8 (y : Int)) ∧ wr = w'') := Lib.hid (bit_c _ _ k _ _ (HV.out.below hbel) g2)
      have hxb : x ≤ 1 := by omega
      have hyb : y ≤ 1 := by omega
      have hr1 : r ≤ 1 := by omega
      have hc1 : c' ≤ 1 := by omega
      have i1 : (2 + (x : Int) - y - c) % 2 = (r : Int) := by omega
      have i2 : 1 - (2 + (x : Int) - y - c) / 2 = (c' : Int) := by omega
      have HS : Hid ((l ++ [(r : Int)]).length = k + 1 ∧ Fl.Bits (l ++ [(r : Int)]) ∧ Fl.vl (l ++ [(r : Int)]) + b % 2 ^ (k + 1) = a % 2 ^ (k + 1) + c' * 2 ^ (k + 1)) := Lib.hid
        ⟨by have := HL.out.1; simp; omega, Fl.bits_append HL.out.2.1 (Fl.bits_one (by omega)), sub_step hc hx hy hr hc' HL.out.1 HL.out.2.2⟩
      have HLL : Hid (l.length + [(r : Int)].length ≤ 100000) := Lib.hid (by have := HL.out.1; simp; omega)
      clear hx hy hr hc' g1 g2 hk HL
      go_wp2_with (first
        | (go_at_call 42; first | ((with_reducible refine B1.out.mono ?_); rintro e w' ⟨rfl, rfl⟩) | ((with_reducible refine B2.out.mono ?_); rintro e w' ⟨rfl, rfl⟩))
        | (at_builtin; refine wpList_append_O rfl _ _ 48 rfl w.heap.size Try.underlying48 _ _ rfl (hown.alloc _) _ [(r : Int)] rfl (Rd_one _ _) (by simp; omega) HLL.out ?_; intro v' w' hown' hbel' hsz'))
      have hbel2 : Below w.heap.size w w' := (hbel.alloc hsz _).trans hbel'
      clear hown hbel hbel' B1 B2
      go_wp2
      go_roundw
      case rel => exact ⟨k + 1, c', _, hc1, by omega, by go_num, by rw [← i2], hown', hbel2, hsz', HS⟩
      case measure => simp [intOf]; omega
    · have hv : Fl.vl l = a - b := by
        have h1 := HL.out.2.2
        have e1 : k = n1 := by omega
        have h2 : a % 2 ^ k = a := Nat.mod_eq_of_lt (by rw [e1]; exact HA.out)
        have h3 : b % 2 ^ k = b := Nat.mod_eq_of_lt (by rw [e1]; exact Nat.lt_of_le_of_lt HAB.out HA.out)
        have h4 := Fl.vl_lt HL.out.2.1
        rw [HL.out.1] at h4
        have hab := HAB.out
        rw [h2, h3] at h1
        have hc2 : c = 0 ∨ c = 1 := by omega
        rcases hc2 with rfl | rfl <;> omega
      have hrd := hown.rd (by have := HL.out.1; omega)
      have ht := trim_any _ _ HL.out.2.1 wr hrd
      rw [hv] at ht
      have HT := Lib.hid ht
      clear ht hrd hown hv hk
      go_wp2_with (go_at_call 39; ((with_reducible refine HT.out.mono ?_); rintro e w' ⟨⟨v', rfl, hv'⟩, rfl⟩))
      go_ret
      exact ⟨⟨v', rfl, hv'⟩, hbel⟩
end Go.Proofs.Ytebldhppnacdjaa
