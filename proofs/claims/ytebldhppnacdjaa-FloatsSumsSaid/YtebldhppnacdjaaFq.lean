/- Walks: trim and sub again, with where the new row lies; plain facts for the quotient. -/
import Derived.Test.YtebldhppnacdjaaFh
set_option linter.unusedVariables false
namespace Fl
theorem vl_set : ∀ (l : List Int) (j : Nat), j < l.length → l.getD j 0 = 0 → vl (l.set j 1) = vl l + 2 ^ j
  | x :: l, 0, _, h => by
    have hx : x = 0 := h
    subst hx
    simp [vl]; omega
  | x :: l, j + 1, h, h0 => by
    have := vl_set l j (by simpa using h) (by simpa using h0)
    simp only [List.set_cons_succ, vl, this, Nat.pow_succ]
    omega
theorem bits_set {l : List Int} (h : Bits l) (j : Nat) : Bits (l.set j 1) := fun x hx => by
  rcases List.mem_or_eq_of_mem_set hx with h' | h'
  · exact h x h'
  · exact Or.inr h'
theorem getD_set_lt (l : List Int) {i j : Nat} (h : i < j) : (l.set j 1).getD i 0 = l.getD i 0 := by
  rw [List.getD_eq_getElem?_getD, List.getD_eq_getElem?_getD, List.getElem?_set_ne (by omega)]
theorem div_step {M N k d : Nat} (hN : 0 < N) (hd : M / 2 ^ k % 2 = d) : ∃ R, R = M / 2 ^ (k + 1) % N ∧ R < N ∧
    ((2 * R + d < N ∧ M / 2 ^ k % N = 2 * R + d ∧ M / 2 ^ k / N = 2 * (M / 2 ^ (k + 1) / N)) ∨ (N ≤ 2 * R + d ∧ M / 2 ^ k % N = 2 * R + d - N ∧ M / 2 ^ k / N = 2 * (M / 2 ^ (k + 1) / N) + 1)) := by
  refine ⟨_, rfl, Nat.mod_lt _ hN, ?_⟩
  have h1 := div_succ M k
  rw [hd] at h1
  have h2 := Nat.div_add_mod (M / 2 ^ (k + 1)) N
  have h3 := Nat.mod_lt (M / 2 ^ (k + 1)) hN
  have hd1 : d < 2 := by omega
  generalize M / 2 ^ (k + 1) % N = R at *
  generalize M / 2 ^ (k + 1) / N = Q at *
  have e : M / 2 ^ k = N * (2 * Q) + (2 * R + d) := by rw [h1, ← h2, Nat.mul_left_comm]; omega
  by_cases hlt : 2 * R + d < N
  · left
    refine ⟨hlt, ?_, ?_⟩
    · rw [e, Nat.mul_add_mod, Nat.mod_eq_of_lt hlt]
    · rw [e, Nat.mul_add_div hN, Nat.div_eq_of_lt hlt, Nat.add_zero]
  · right
    have e2 : M / 2 ^ k = N * (2 * Q + 1) + (2 * R + d - N) := by rw [e, Nat.mul_add, Nat.mul_one]; omega
    refine ⟨by omega, ?_, ?_⟩
    · rw [e2, Nat.mul_add_mod, Nat.mod_eq_of_lt (by omega)]
    · rw [e2, Nat.mul_add_div hN, Nat.div_eq_of_lt (by omega), Nat.add_zero]
end Fl
namespace Go.Proofs.Ytebldhppnacdjaa
open Go.RowKit
theorem Ow.block {w : World} {base : Nat} {v : Value} {l : List Int} (h : Ow w base v l) : ∃ g, v.ownBlock = some g ∧ base ≤ g := by
  obtain ⟨⟨-, h | ⟨g, cap, cur, rfl, hb, -⟩⟩, hne⟩ := h
  · exact absurd h.1 hne
  · exact ⟨g, rfl, hb⟩
theorem Rd.setCell {w : World} {v : Value} {l : List Int} (h : Rd w v l) {a : Addr} (ha : v.ownBlock ≠ some a.block) (u : Value) : Rd (w.setCell a u) v l := by
  obtain ⟨b, off, cap, rfl, h2, h3, h4, h5⟩ := h
  refine ⟨b, off, cap, rfl, h2, h3, by simpa using h4, fun j hj => ?_⟩
  rw [← h5 j hj]
  refine World.cell?_of_block (w := w) (a := ⟨b, off + j, none⟩) ?_
  exact Below.heap_setCell w a u b (fun e => ha (by simp [Value.ownBlock, e]))
/-- the row the quotient is written into. -/
theorem Ow.put {w : World} {base g n : Nat} {l : List Int} (h : Ow w base (.slice (some ⟨g, 0, none⟩) n n) l) (hn : l.length = n) (j : Nat) (hj : j < n) (hl : n ≤ 100000) :
    w.cell? ⟨g, j, none⟩ = some (.int .u8 (l.getD j 0)) ∧ w.frozen? ⟨g, j, none⟩ = false ∧ Ow (w.setCell ⟨g, j, none⟩ (.int .u8 1)) base (.slice (some ⟨g, 0, none⟩) n n) (l.set j 1) := by
  have h1 := h.1
  rw [hn] at h1
  refine ⟨?_, h1.frozenAt j, ⟨?_, by simp⟩⟩
  · rw [h1.cellAt j (by omega)]
    simp [hn, hj, List.getD]
  · have := (h1.stored j (.int .u8 1)).1
    rw [List.length_set, hn, List.map_set]
    exact this
set_option maxHeartbeats 400000 in
theorem trim_own (v : Value) (l : List Int) (hb : Fl.Bits l) (w : World) (h : Rd w v l) :
    Calls Try.prog 39 #[v] w fun e w' => (∃ v', e = .returned v' ∧ Rd w v' (Fl.dg (Fl.vl l)) ∧ v'.ownBlock = v.ownBlock) ∧ w = w' := by
  obtain ⟨b, off, cap, rfl, h2, h3, h4, h5⟩ := h
  go_enter Try.func39, Try.ntmps39
  go_wp2
  go_loop [0] (fun u => ∃ k : Nat, k ≤ l.length ∧ u = .slice (some ⟨b, off, none⟩) k cap ∧ Hid (∀ j, k ≤ j → j < l.length → l.getD j 0 = 0)) (fun u => match u with | .slice _ n _ => n | _ => 0)
  case atStart => exact ⟨l.length, Nat.le_refl _, rfl, Lib.hid (fun j h1 h2 => by omega)⟩
  case round =>
    obtain ⟨k, hk, rfl, HZ⟩ := hrel
    have hfin : (k = 0 ∨ l.getD (k - 1) 0 = 1) → Rd w (.slice (some ⟨b, off, none⟩) k cap) (Fl.dg (Fl.vl l)) := by
      intro he
      have e := Fl.trim_eq hb k hk HZ.out he
      have hl : (Fl.dg (Fl.vl l)).length = k := by rw [← e]; simp; omega
      refine ⟨b, off, cap, by rw [hl], by omega, by omega, h4, fun j hj => ?_⟩
      rw [h5 j (by omega), ← e, List.getD_eq_getElem?_getD, List.getD_eq_getElem?_getD, List.getElem?_take, if_pos (by omega)]
    by_cases h0 : k = 0
    · have HF := Lib.hid (hfin (Or.inl h0))
      have h00 : ¬ ((0 : Int) < k) := by omega
      clear h5 hfin h0
      go_wp2
      go_ret
      exact ⟨⟨_, rfl, HF.out, rfl⟩, rfl⟩
    · obtain ⟨m, rfl⟩ : ∃ m, k = m + 1 := ⟨k - 1, by omega⟩
      have hc := h5 m (by omega)
      rw [Nat.add_sub_cancel] at hfin
      rcases Fl.bits_getD hb m with hx | hx
      · rw [hx] at hc
        have HZ2 : Hid (∀ j, m ≤ j → j < l.length → l.getD j 0 = 0) := Lib.hid (fun j h1 h2 => by
          by_cases e : j = m
          · rw [e]; exact hx
          · exact HZ.out j (by omega) h2)
        clear h5 hfin h0 hx
        go_wp2
        go_round
        case rel => exact ⟨m, by omega, rfl, HZ2⟩
        case measure => simp
      · have HF := Lib.hid (hfin (Or.inr hx))
        rw [hx] at hc
        clear h5 hfin h0 hx
        go_wp2
        go_ret
        exact ⟨⟨_, rfl, HF.out, rfl⟩, rfl⟩
set_option maxHeartbeats 1000000 in
theorem dsub_own (u v : Value) (a b : Nat) (w : World) (hab : b ≤ a) (hu : Rd w u (Fl.dg a)) (hv : Rd w v (Fl.dg b)) (hla : (Fl.dg a).length ≤ 90000) :
    Calls Try.prog 38 #[u, v] w fun e w' => (∃ v', e = .returned v' ∧ Rd w' v' (Fl.dg (a - b)) ∧ ∃ g, v'.ownBlock = some g ∧ w.heap.size ≤ g) ∧ Below w.heap.size w w' := by
  have HU := Lib.hid hu
  have HV := Lib.hid hv
  obtain ⟨b1, o1, p1, rfl, h12, h13, -, -⟩ := hu
  obtain ⟨b2, o2, p2, rfl, h22, h23, -, -⟩ := hv
  obtain ⟨n1, e1⟩ : ∃ n1, n1 = (Fl.dg a).length := ⟨_, rfl⟩
  obtain ⟨n2, e2⟩ : ∃ n2, n2 = (Fl.dg b).length := ⟨_, rfl⟩
  have ha := Fl.dg_lt a
  rw [← e1] at HU h12 h13 ha hla ⊢
  rw [← e2] at HV h22 h23 ⊢
  have HA := Lib.hid ha
  have HO := Lib.hid (Ow_empty w w.heap.size (Nat.le_refl _))
  have HAB := Lib.hid hab
  clear ha e1 e2 hab
  go_enter Try.func38, Try.ntmps38
  go_wp2
  go_loopw [5, 6, 12] (fun out cr i wr => ∃ (k c : Nat) (l : List Int), c ≤ 1 ∧ k ≤ n1 ∧ i = .int .i64 k ∧ cr = .int .u8 c ∧ Ow wr w.heap.size out l ∧ Below w.heap.size w wr ∧ w.heap.size ≤ wr.heap.size ∧
      Hid (l.length = k ∧ Fl.Bits l ∧ Fl.vl l + b % 2 ^ k = a % 2 ^ k + c * 2 ^ k)) (fun _ _ i _ => n1 - (intOf i).toNat)
  case atStart => exact ⟨0, 0, [], by omega, by omega, rfl, rfl, HO.out, (Below.refl _ _).alloc (Nat.le_refl _) _, by simp, Lib.hid ⟨rfl, (fun x hx => by cases hx), by simp [Fl.vl, Nat.mod_one]⟩⟩
  case round =>
    obtain ⟨k, c, l, hc, hk, rfl, rfl, hown, hbel, hsz, HL⟩ := hrel
    by_cases hgo : k < n1
    · obtain ⟨x, hx⟩ : ∃ x : Nat, a / 2 ^ k % 2 = x := ⟨_, rfl⟩
      obtain ⟨y, hy⟩ : ∃ x : Nat, b / 2 ^ k % 2 = x := ⟨_, rfl⟩
      obtain ⟨r, hr⟩ : ∃ r : Nat, (2 + x - y - c) % 2 = r := ⟨_, rfl⟩
      obtain ⟨c', hc'⟩ : ∃ r : Nat, 1 - (2 + x - y - c) / 2 = r := ⟨_, rfl⟩
      have g1 := Fl.dg_getD a k
      have g2 := Fl.dg_getD b k
      rw [hx] at g1
      rw [hy] at g2
      have B1 : Hid (Calls Try.prog 42 #[.slice (some ⟨b1, o1, none⟩) n1 p1, .int .i64 (k : Int)] wr fun e w'' => e = .returned (.int .u8 (x : Int)) ∧ wr = w'') := Lib.hid (bit_c _ _ k _ _ (HU.out.below hbel) g1)
      have B2 : Hid (Calls Try.prog 42 #[.slice (some ⟨b2, o2, none⟩) n2 p2, .int .i64 (k : Int)] wr fun e w'' => e = .returned (.int .u8 (y : Int)) ∧ wr = w'') := Lib.hid (bit_c _ _ k _ _ (HV.out.below hbel) g2)
      have hxb : x ≤ 1 := by omega
      have hyb : y ≤ 1 := by omega
      have hr1 : r ≤ 1 := by omega
      have hc1 : c' ≤ 1 := by omega
      have i1 : (2 + (x : Int) - y - c) % 2 = (r : Int) := by omega
      have i2 : 1 - (2 + (x : Int) - y - c) / 2 = (c' : Int) := by omega
      have HS : Hid ((l ++ [(r : Int)]).length = k + 1 ∧ Fl.Bits (l ++ [(r : Int)]) ∧ Fl.vl (l ++ [(r : Int)]) + b % 2 ^ (k + 1) = a % 2 ^ (k + 1) + c' * 2 ^ (k + 1)) := Lib.hid
        ⟨by have := HL.out.1; simp; omega, Fl.bits_append HL.out.2.1 (Fl.bits_one (by omega)), sub_step hc hx hy hr hc' HL.out.1 HL.out.2.2⟩
      have HLL : Hid (l.length + [(r : Int)].length ≤ 100000) := Lib.hid (by have := HL.out.1; simp; omega)
      clear hx hy hr hc' g1 g2 hk HL
      go_wp2_with (first
        | (go_at_call 42; first | ((with_reducible refine B1.out.mono ?_); rintro e w' ⟨rfl, rfl⟩) | ((with_reducible refine B2.out.mono ?_); rintro e w' ⟨rfl, rfl⟩))
        | (at_builtin; refine wpList_append_O rfl _ _ 48 rfl w.heap.size Try.underlying48 _ _ rfl (hown.alloc _) _ [(r : Int)] rfl (Rd_one _ _) (by simp; omega) HLL.out ?_; intro v' w' hown' hbel' hsz'))
      have hbel2 : Below w.heap.size w w' := (hbel.alloc hsz _).trans hbel'
      clear hown hbel hbel' B1 B2
      go_wp2
      go_roundw
      case rel => exact ⟨k + 1, c', _, hc1, by omega, by go_num, by rw [← i2], hown', hbel2, hsz', HS⟩
      case measure => simp [intOf]; omega
    · have hv : Fl.vl l = a - b := by
        have h1 := HL.out.2.2
        have e1 : k = n1 := by omega
        have h2 : a % 2 ^ k = a := Nat.mod_eq_of_lt (by rw [e1]; exact HA.out)
        have h3 : b % 2 ^ k = b := Nat.mod_eq_of_lt (by rw [e1]; exact Nat.lt_of_le_of_lt HAB.out HA.out)
        have h4 := Fl.vl_lt HL.out.2.1
        rw [HL.out.1] at h4
        have hab := HAB.out
        rw [h2, h3] at h1
        have hc2 : c = 0 ∨ c = 1 := by omega
        rcases hc2 with rfl | rfl <;> omega
      have hrd := hown.rd (by have := HL.out.1; omega)
      obtain ⟨g, hg1, hg2⟩ := hown.block
      have ht := trim_own _ _ HL.out.2.1 wr hrd
      rw [hv, hg1] at ht
      have HT := Lib.hid ht
      clear ht hrd hown hv hk
      go_wp2_with (go_at_call 39; ((with_reducible refine HT.out.mono ?_); rintro e w' ⟨⟨v', rfl, hv', hg⟩, rfl⟩))
      go_ret
      exact ⟨⟨v', rfl, hv', g, hg, hg2⟩, hbel⟩
end Go.Proofs.Ytebldhppnacdjaa
