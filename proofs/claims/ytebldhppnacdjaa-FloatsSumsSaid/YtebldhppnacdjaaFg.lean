/- Walks: the reference's rows of digits: trim, bit, Of, Cmp. -/
import Derived.Test.YtebldhppnacdjaaFr
import Derived.Test.YtebldhppnacdjaaFd
import Derived.Laws.MakeOwn
set_option linter.unusedVariables false
namespace Go.Proofs.Ytebldhppnacdjaa
open Go.RowKit
/-- a slice value reads as a row of bytes. -/
def Rd (w : World) (v : Value) (l : List Int) : Prop :=
  ∃ b off cap, v = .slice (some ⟨b, off, none⟩) l.length cap ∧ l.length ≤ cap ∧ l.length ≤ 100000 ∧ b < w.heap.size ∧ ∀ j, j < l.length → w.cell? ⟨b, off + j, none⟩ = some (.int .u8 (l.getD j 0))
theorem Rd.mono {w w' : World} {v : Value} {l : List Int} (h : Rd w v l) (hb : ∀ k, k < w.heap.size → w'.heap[k]? = w.heap[k]?) (hs : w.heap.size ≤ w'.heap.size) : Rd w' v l := by
  obtain ⟨b, off, cap, h1, h2, h3, h4, h5⟩ := h
  exact ⟨b, off, cap, h1, h2, h3, by omega, fun j hj => by rw [← h5 j hj]; exact World.cell?_of_block (w := w) (a := ⟨b, off + j, none⟩) (hb b h4)⟩
theorem Rd.below {w w' : World} {v : Value} {l : List Int} (h : Rd w v l) (hb : Below w.heap.size w w') : Rd w' v l := h.mono hb.block hb.size
theorem OwnsX.rd {w : World} {base : Nat} {v : Value} {l : List Int} (h : OwnsX w base v (l.map (Value.int .u8))) (hl : l.length ≤ 100000) (hne : v ≠ .slice none 0 0) : Rd w v l := by
  rcases h with h | ⟨g, h1, h2, h3, h4, h5⟩
  · rcases h.2 with ⟨h', _⟩ | ⟨g, cap, cur, rfl, _, hg, hle, _, hcs, htk⟩
    · exact absurd h' hne
    · refine ⟨g, 0, cap, by rw [List.length_map], by simpa using hle, hl, (Array.getElem?_eq_some_iff.1 hg).1, fun j hj => ?_⟩
      rw [Nat.zero_add, cell_of_row w g j cur 5 _ hg]
      have h9 : (l.map (Value.int .u8))[j]? = some (Value.int .u8 (l.getD j 0)) := by simp [hj, List.getD]
      rw [← htk, List.getElem?_take] at h9
      split at h9
      · simpa using h9
      · cases h9
  · refine ⟨g, 0, l.length, by rw [h1, List.length_map], Nat.le_refl _, hl, h3, fun j hj => ?_⟩
    rw [Nat.zero_add]
    exact h5 j _ (by simp [hj, List.getD])
/-- a slice value owns a row of bytes, from block 'base' on. -/
def Ow (w : World) (base : Nat) (v : Value) (l : List Int) : Prop := w.ownsRow base 5 1 v l.length (l.map (Value.int .u8)) ∧ v ≠ .slice none 0 0
theorem Ow.rd {w : World} {base : Nat} {v : Value} {l : List Int} (h : Ow w base v l) (hl : l.length ≤ 100000) : Rd w v l := by
  refine OwnsX.rd (base := base) (Or.inl ?_) hl h.2
  rw [List.length_map]; exact h.1
theorem Ow.mono {w w' : World} {base : Nat} {v : Value} {l : List Int} (h : Ow w base v l) (hb : ∀ k, k < w.heap.size → w'.heap[k]? = w.heap[k]?) : Ow w' base v l := by
  refine ⟨⟨h.1.1, ?_⟩, h.2⟩
  rcases h.1.2 with h' | ⟨g, cap, cur, e1, e2, e3, e4⟩
  · exact Or.inl h'
  · exact Or.inr ⟨g, cap, cur, e1, e2, by rw [hb g (Array.getElem?_eq_some_iff.1 e3).1]; exact e3, e4⟩
theorem Ow_new (w : World) (base : Nat) (hb : base ≤ w.heap.size) (l : List Int) (c : Array Value) (hc : c.toList = l.map (Value.int .u8)) (hl : l.length ≤ 100000) : Ow (w.alloc (.cells c 5)) base (.slice (some ⟨w.heap.size, 0, none⟩) l.length l.length) l := by
  refine ⟨⟨by simp, Or.inr ⟨w.heap.size, l.length, c, rfl, hb, heap_alloc_new w _, Nat.le_refl _, by unfold maxLen; omega, ?_, ?_⟩⟩, by simp⟩
  · rw [← Array.length_toList, hc]; simp
  · rw [hc]; exact List.take_of_length_le (by simp)
theorem Ow_append (w : World) (base : Nat) (t : TypeId) (ht : Try.prog.underlying t = some (.slice 5)) (ty : TypeId) (v : Value) (xs : List Int) (hown : Ow w base v xs) (hb : base ≤ w.heap.size) (src : Value) (l : List Int) (hsrc : Rd w src l) (hlen : xs.length + l.length ≤ 100000) :
    ∃ v' w', (Builtin.append_ #[t, t] ty #[v, src]).run Try.prog w = .ok v' w' ∧ Ow w' base v' (xs ++ l) ∧ Below base w w' ∧ base ≤ w'.heap.size := by
  obtain ⟨i0, hi, hz0, hz1, hz2⟩ := info_parts Try.info5
  obtain ⟨b, off, cap, rfl, h2, h3, h4, h5⟩ := hsrc
  have hnew : ∀ (j : Nat) (u : Value), (l.map (Value.int .u8))[j]? = some u → w.cell? ((⟨b, off, none⟩ : Addr).add j) = some u := by
    intro j u hj
    have hadd : (⟨b, off, none⟩ : Addr).add j = ⟨b, off + j, none⟩ := by unfold Addr.add; split <;> simp_all
    have hjl : j < l.length := by
      rcases Nat.lt_or_ge j l.length with h | h
      · exact h
      · rw [List.getElem?_eq_none (by simpa using h)] at hj; cases hj
    rw [hadd, h5 j hjl, ← hj]
    simp [hjl, List.getD]
  obtain ⟨v', w', r1, r2, r3, r4⟩ := run_append_own (P := Try.prog) w base t ty 5 i0 (.int .u8 0) 1 1 ht hi hz0 hz1 hz2 rfl (by decide) v xs.length _ hown.1 ⟨b, off, none⟩ l.length cap (l.map (Value.int .u8)) (by simp) hnew (by intro u hu; obtain ⟨x, _, rfl⟩ := List.mem_map.1 hu; rfl) (by unfold maxLen; omega) (by omega) hb
  refine ⟨v', w', r1, ⟨by rw [List.length_append, List.map_append]; exact r2, fun h => hown.2 (r4.1 h).1⟩, ?_, ?_⟩
  · refine (Below.refl base w).grown r3 hb ?_
    intro k hk
    rcases hown.1.2 with ⟨h', _⟩ | ⟨g, cap, cur, rfl, hbg, _⟩
    · exact absurd h' hown.2
    · simp [Value.ownBlock] at hk; omega
  · have := r3.size; omega
theorem wpList_append_O {w : World} {ops : Array Oper} {rest : List Oper} {o : Oper} {a : Act} {Q : Exit → Act → World → Prop} (hgd : o.guard = none) (sl x : Operand) (t : TypeId)
    (ho : o.op = .call { callee := .builtin .append, args := #[sl, x], argTypes := #[t, t] }) (base : Nat) (ht : Try.prog.underlying t = some (.slice 5))
    (v : Value) (xs : List Int) (hs : a.eval sl = v) (hown : Ow w base v xs) (src : Value) (l : List Int) (hx : a.eval x = src) (hsrc : Rd w src l) (hb : base ≤ w.heap.size) (hlen : xs.length + l.length ≤ 100000)
    (h : ∀ v' w', Ow w' base v' (xs ++ l) → Below base w w' → base ≤ w'.heap.size → wpList Try.prog ops Q rest (a.put o.dst v') w') : wpList Try.prog ops Q (o :: rest) a w := by
  refine wpList_plain hgd fun K hK => ?_
  obtain ⟨v', w', hr, h2, h3, h4⟩ := Ow_append w base t ht o.type v xs hown hb src l hsrc hlen
  unfold Oper.wp execOp
  simp only [ho, resolve, invoke, builtin, Sem.run_bind, Sem.run_pure, Result.andThen_ok, List.map_toArray, List.map_cons, List.map_nil, hs, hx, hr]
  exact hK _ _ (h v' w' h2 h3 h4)
/-- a literal of one byte, laid anew. -/
theorem Rd_one (w : World) (x : Int) : Rd (w.alloc (.cells #[.int .u8 x] 5)) (.slice (some ⟨w.heap.size, 0, none⟩) 1 1) [x] := by
  have := (Ow_new w 0 (Nat.zero_le _) [x] #[.int .u8 x] rfl (by simp)).rd (by simp)
  exact this
theorem Ow.alloc {w : World} {base : Nat} {v : Value} {l : List Int} (h : Ow w base v l) (o : Obj) : Ow (w.alloc o) base v l := h.mono fun k hk => Below.heap_alloc w o k hk
theorem Rd.alloc {w : World} {v : Value} {l : List Int} (h : Rd w v l) (o : Obj) : Rd (w.alloc o) v l := h.mono (fun k hk => Below.heap_alloc w o k hk) (by simp)
set_option maxHeartbeats 400000 in
theorem bit_any (v : Value) (l : List Int) (i : Int) (hi : 0 ≤ i) (w : World) (h : Rd w v l) :
    Calls Try.prog 42 #[v, .int .i64 i] w fun e w' => e = .returned (.int .u8 (l.getD i.toNat 0)) ∧ w = w' := by
  obtain ⟨b, off, cap, rfl, h2, h3, h4, h5⟩ := h
  obtain ⟨k, rfl⟩ := Int.eq_ofNat_of_zero_le hi
  by_cases hk : k < l.length
  · obtain ⟨x, hx⟩ : ∃ x, l.getD k 0 = x := ⟨_, rfl⟩
    have hc := h5 k hk
    rw [hx] at hc
    rw [Int.toNat_natCast, hx]
    clear h5 hx
    go_enter Try.func42, Try.ntmps42
    go_wp2
    go_ret
    exact ⟨rfl, rfl⟩
  · have hz : l.getD k 0 = 0 := by rw [List.getD_eq_getElem?_getD, List.getElem?_eq_none (by omega)]; rfl
    have HZ := Lib.hid hz
    clear h5 hz
    go_enter Try.func42, Try.ntmps42
    go_wp2
    go_ret
    exact ⟨by rw [Int.toNat_natCast, HZ.out]; rfl, rfl⟩
set_option maxHeartbeats 400000 in
theorem trim_any (v : Value) (l : List Int) (hb : Fl.Bits l) (w : World) (h : Rd w v l) :
    Calls Try.prog 39 #[v] w fun e w' => (∃ v', e = .returned v' ∧ Rd w v' (Fl.dg (Fl.vl l))) ∧ w = w' := by
  obtain ⟨b, off, cap, rfl, h2, h3, h4, h5⟩ := h
  go_enter Try.func39, Try.ntmps39
  go_wp2
  go_loop [0] (fun u => ∃ k : Nat, k ≤ l.length ∧ u = .slice (some ⟨b, off, none⟩) k cap ∧ Hid (∀ j, k ≤ j → j < l.length → l.getD j 0 = 0)) (fun u => match u with | .slice _ n _ => n | _ => 0)
  case atStart => exact ⟨l.length, Nat.le_refl _, rfl, Lib.hid (fun j h1 h2 => by omega)⟩
  case round =>
    obtain ⟨k, hk, rfl, HZ⟩ := hrel
    have hfin : (k = 0 ∨ l.getD (k - 1) 0 = 1) → Rd w (.slice (some ⟨b, off, none⟩) k cap) (Fl.dg (Fl.vl l)) := by
      intro he
      have e := Fl.trim_eq hb k hk HZ.out he
      have hl : (Fl.dg (Fl.vl l)).length = k := by rw [← e]; simp; omega
      refine ⟨b, off, cap, by rw [hl], by omega, by omega, h4, fun j hj => ?_⟩
      rw [h5 j (by omega), ← e, List.getD_eq_getElem?_getD, List.getD_eq_getElem?_getD, List.getElem?_take, if_pos (by omega)]
    by_cases h0 : k = 0
    · have HF := Lib.hid (hfin (Or.inl h0))
      have h00 : ¬ ((0 : Int) < k) := by omega
      clear h5 hfin h0
      go_wp2
      go_ret
      exact ⟨⟨_, rfl, HF.out⟩, rfl⟩
    · obtain ⟨m, rfl⟩ : ∃ m, k = m + 1 := ⟨k - 1, by omega⟩
      have hc := h5 m (by omega)
      rw [Nat.add_sub_cancel] at hfin
      rcases Fl.bits_getD hb m with hx | hx
      · rw [hx] at hc
        have HZ2 : Hid (∀ j, m ≤ j → j < l.length → l.getD j 0 = 0) := Lib.hid (fun j h1 h2 => by
          by_cases e : j = m
          · rw [e]; exact hx
          · exact HZ.out j (by omega) h2)
        clear h5 hfin h0 hx
        go_wp2
        go_round
        case rel => exact ⟨m, by omega, rfl, HZ2⟩
        case measure => simp
      · have HF := Lib.hid (hfin (Or.inr hx))
        rw [hx] at hc
        clear h5 hfin h0 hx
        go_wp2
        go_ret
        exact ⟨⟨_, rfl, HF.out⟩, rfl⟩
def Zs (n : Nat) : Array Value := madeCells (Value.int .u8 0).cells (n * 1)
theorem Zs_list (n : Nat) : (Zs n).toList = (List.replicate n (0 : Int)).map (Value.int .u8) := by
  unfold Zs
  rw [Nat.mul_one]
  have := toList_madeCells_one (.int .u8 0) n
  rw [List.map_replicate]
  exact this
theorem make_run (n : Nat) (hn : n ≤ 100000) (w : World) : (Instr.makeSlice 48 (.int .i64 (n : Int)) (.int .i64 (n : Int))).run Try.prog w = .ok (.slice (some ⟨w.heap.size, 0, none⟩) n n) (w.alloc (.cells (Zs n) 5)) := by
  obtain ⟨i0, hi, hz0, hz1, hz2⟩ := info_parts Try.info5
  have := run_make (P := Try.prog) w 48 5 i0 (.int .u8 0) Try.underlying48 hi hz0 .i64 .i64 (n : Int) (n : Int) (by omega) (Int.le_refl _) (by rw [hz2]; omega) (by omega)
  rw [this, hz1]
  rfl
theorem Ow_make (w : World) (base : Nat) (hb : base ≤ w.heap.size) (n : Nat) (hn : n ≤ 100000) : Ow (w.alloc (.cells (Zs n) 5)) base (.slice (some ⟨w.heap.size, 0, none⟩) n n) (List.replicate n 0) := by
  have := Ow_new w base hb (List.replicate n 0) (Zs n) (Zs_list n) (by simpa using hn)
  simpa using this
set_option maxHeartbeats 400000 in
theorem dof_any (m up : Nat) (hm : m < 2 ^ 64) (hup : up ≤ 90000) (w : World) :
    Calls Try.prog 29 #[.int .u64 m, .int .i64 up] w fun e w' => (∃ v', e = .returned v' ∧ Rd w' v' (Fl.dg (m * 2 ^ up))) ∧ Below w.heap.size w w' := by
  have hmk := make_run up (by omega)
  have hz := Ow_make w w.heap.size (Nat.le_refl _) up (by omega)
  have HZ := Lib.hid hz
  clear hz
  go_enter Try.func29, Try.ntmps29
  go_wp2
  go_loopw [0, 5] (fun x v wr => ∃ k q : Nat, Hid (q = m / 2 ^ k) ∧ k ≤ 64 ∧ q < 2 ^ 64 ∧ x = .int .u64 q ∧ Ow wr w.heap.size v (List.replicate up 0 ++ (Fl.dg m).take k) ∧ Below w.heap.size w wr ∧ w.heap.size ≤ wr.heap.size ∧ Hid (k ≤ (Fl.dg m).length)) (fun x _ _ => (intOf x).toNat)
  case atStart => exact ⟨0, m, Lib.hid (by simp), by omega, hm, rfl, by simpa using HZ.out, (Below.refl _ _).alloc (Nat.le_refl _) _, by simp, Lib.hid (Nat.zero_le _)⟩
  case round =>
    obtain ⟨k, q, HQ, hk, hq, rfl, hown, hbel, hsz, HK⟩ := hrel
    by_cases hlt : 0 < q
    · obtain ⟨d, hd⟩ : ∃ d : Nat, q % 2 = d := ⟨_, rfl⟩
      obtain ⟨p, hp⟩ : ∃ p : Nat, q / 2 = p := ⟨_, rfl⟩
      have hd1 : (q : Int) % 2 = (d : Int) := by omega
      have hp1 : (q : Int) / 2 = (p : Int) := by omega
      have hd2 : d < 2 := by omega
      have hp2 : p < 2 ^ 64 := by omega
      have hpq : p < q := by omega
      have hkl : k < (Fl.dg m).length := by
        rcases Nat.lt_or_ge k (Fl.dg m).length with h | h
        · exact h
        · have h1 := Nat.lt_of_lt_of_le (Fl.dg_lt m) (Nat.pow_le_pow_right (by decide : 0 < 2) h)
          have h2 := HQ.out
          rw [Nat.div_eq_of_lt h1] at h2
          omega
      have hk64 : (Fl.dg m).length ≤ 64 := Fl.dg_len_le hm
      have HP : Hid (p = m / 2 ^ (k + 1)) := Lib.hid (by rw [← hp, HQ.out, Nat.div_div_eq_div_mul, Nat.pow_succ])
      have HT : Hid ((Fl.dg m).take (k + 1) = (Fl.dg m).take k ++ [(d : Int)]) := Lib.hid (by
        rw [List.take_succ_eq_append_getElem hkl]
        congr 2
        have := Fl.dg_getD m k
        rw [List.getD_eq_getElem?_getD, List.getElem?_eq_getElem hkl] at this
        rw [← hd, HQ.out]
        exact this)
      have HKL := Lib.hid hkl
      have hll : (List.replicate up (0 : Int) ++ (Fl.dg m).take k).length + [(d : Int)].length ≤ 100000 := by simp; omega
      have HLL := Lib.hid hll
      have hk' : k + 1 ≤ 64 := by omega
      clear hd hp hkl hk64 hll HQ
      go_wp2_with (at_builtin; refine wpList_append_O rfl _ _ 48 rfl w.heap.size Try.underlying48 _ _ rfl (hown.alloc _) _ [(d : Int)] rfl (Rd_one _ _) ?c1 HLL.out ?_)
      case c1 => simp; omega
      intro v' w' hown' hbel' hsz'
      rw [← HT.out] at hown'
      have hbel2 : Below w.heap.size w w' := (hbel.alloc hsz _).trans hbel'
      clear hown hbel hbel'
      go_wp2
      go_roundw
      case rel => exact ⟨k + 1, p, HP, hk', hp2, rfl, hown', hbel2, hsz', Lib.hid HKL.out⟩
      case measure => simp [intOf]; omega
    · have hl : (List.replicate up (0 : Int) ++ (Fl.dg m).take k) = List.replicate up 0 ++ Fl.dg m := by
        have h0 : m / 2 ^ k = 0 := by have := HQ.out; omega
        have h1 : m < 2 ^ k := by
          rcases Nat.lt_or_ge m (2 ^ k) with h | h
          · exact h
          · have := Nat.div_pos h (Nat.two_pow_pos k); omega
        rw [List.take_of_length_le (Fl.dg_len_le h1)]
      rw [hl] at hown
      have hlen : (List.replicate up (0 : Int) ++ Fl.dg m).length ≤ 100000 := by have := Fl.dg_len_le hm; simp; omega
      have hrd := hown.rd hlen
      have ht := trim_any _ _ (Fl.bits_append (Fl.bits_zeros up) (Fl.bits_dg m)) wr hrd
      rw [Fl.vl_shift] at ht
      have HT := Lib.hid ht
      clear ht hrd hlen hown hl
      go_wp2_with (go_at_call 39; ((with_reducible refine HT.out.mono ?_); rintro e w' ⟨⟨v', rfl, hv'⟩, rfl⟩))
      go_ret
      exact ⟨⟨v', rfl, hv'⟩, hbel⟩
end Go.Proofs.Ytebldhppnacdjaa
