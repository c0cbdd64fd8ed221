/- Walks: a row of bytes that grows; the text of a number of one digit. -/
import Derived.Test.YtoakfninndkgaaaGreatDoorXJa
import Derived.Lib.AppendStr
import Derived.WalkKit
import Derived.WalkSpells
import Derived.WalkLawsBesides
import Derived.Lib.Hide
import Derived.Laws.OwnMore
import Derived.Laws.MakeOwn
import Derived.Laws.CopyRow
import Derived.Lib.AppendZerosOnto
import Derived.Lib.Overlaps
import Derived.OwnWalk
import Derived.Carry
import Derived.OneCell
import Derived.BigRegion
import Derived.BigQuiet
import Derived.Deep.QuietTactic
import Derived.Deep.LoopGhost
import Derived.Deep.DeepCutAuto
import Derived.Deep.CutBlock
import Derived.Deep.RegionHeld3
set_option linter.unusedVariables false
namespace Go.Proofs.YtoakfninndkgaaaGreatDoor.Val
open Go.RowKit
theorem Tryz.info5 : (Tryz.prog.info? 5).map (fun i => (i.zero, i.size, i.bytes)) = some (some (.int .u8 0), 1, 1) := by kernel_rfl
theorem ownsRow_ge {w : World} {base : Nat} {e : TypeId} {size : Nat} {v : Value} {n : Nat} {xs : List Value} (h : w.ownsRow base e size v n xs) : ∀ g, v.ownBlock = some g → base ≤ g := by
  intro g hg
  rcases h.2 with h' | ⟨g', cap, cur, rfl, e2, -⟩
  · rw [h'.1] at hg; cases hg
  · cases hg; exact e2
/-- a slice of bytes of one's own, from block base on. -/
def BOwn (w : World) (base : Nat) (v : Value) (l : List Int) : Prop := w.ownsRow base 5 1 v l.length (l.map (Value.int .u8))
theorem BOwn.mono {w w' : World} {base : Nat} {v : Value} {l : List Int} (h : BOwn w base v l) (hb : ∀ k, k < w.heap.size → w'.heap[k]? = w.heap[k]?) : BOwn w' base v l := by
  refine ⟨h.1, ?_⟩
  rcases h.2 with h' | ⟨g, cap, cur, e1, e2, e3, e4⟩
  · exact Or.inl h'
  · exact Or.inr ⟨g, cap, cur, e1, e2, by rw [hb g (Array.getElem?_eq_some_iff.1 e3).1]; exact e3, e4⟩
theorem BOwn.alloc {w : World} {base : Nat} {v : Value} {l : List Int} (h : BOwn w base v l) (o : Obj) : BOwn (w.alloc o) base v l := h.mono (fun k hk => Below.heap_alloc w o k hk)
theorem BOwn.drew {w : World} {base : Nat} {v : Value} {l : List Int} (h : BOwn w base v l) : BOwn w.drew base v l := h.mono (fun k hk => rfl)
theorem BOwn.nil (w : World) (base : Nat) : BOwn w base (.slice none 0 0) [] := World.ownsRow_nil _ _ _ _
theorem bown_str (w : World) (base : Nat) (ty : TypeId) (v : Value) (l : List Int) (h : BOwn w base v l) (s : ByteArray) (m : List Int) (hm : Lib.strCells s = m.map (Value.int .u8)) (hlen : l.length + m.length ≤ 100000) (hb : base ≤ w.heap.size) :
    ∃ v' w', (Builtin.append_ #[123, 9] ty #[v, .string s]).run Tryz.prog w = .ok v' w' ∧ BOwn w' base v' (l ++ m) ∧ Below base w w' ∧ base ≤ w'.heap.size ∧ w.grownBy w' v.ownBlock := by
  obtain ⟨i0, hi, hz0, hz1, hz2⟩ := info_parts Tryz.info5
  have hsz : s.size = m.length := by
    have := congrArg List.length hm
    rw [Lib.strCells_length, List.length_map] at this
    exact this
  obtain ⟨v', w', r1, r2, r3, r4⟩ := Lib.run_append_own_string (P := Tryz.prog) w base 123 9 ty 5 i0 Tryz.underlying123 Tryz.underlying9 hi hz0 hz1 hz2 v l.length _ h s (by unfold maxLen; omega) (by omega) hb
  refine ⟨v', w', r1, ?_, (Below.refl base w).grown r3 hb (ownsRow_ge h), by have := r3.size; omega, r3⟩
  unfold BOwn
  rw [List.length_append, List.map_append, ← hm, ← hsz]
  exact r2
theorem bown_byte (w : World) (base : Nat) (ty : TypeId) (v : Value) (l : List Int) (h : BOwn w base v l) (B c : Nat) (x : Int) (hB : w.heap[B]? = some (.cells #[.int .u8 x] 5 (0, 0))) (hlen : l.length ≤ 99999) (hb : base ≤ w.heap.size) :
    ∃ v' w', (Builtin.append_ #[123, 123] ty #[v, .slice (some ⟨B, 0, none⟩) 1 c]).run Tryz.prog w = .ok v' w' ∧ BOwn w' base v' (l ++ [x]) ∧ Below base w w' ∧ base ≤ w'.heap.size ∧ w.grownBy w' v.ownBlock := by
  obtain ⟨i0, hi, hz0, hz1, hz2⟩ := info_parts Tryz.info5
  have hnews : ∀ (j : Nat) (u : Value), [Value.int .u8 x][j]? = some u → w.cell? ((⟨B, 0, none⟩ : Addr).add j) = some u := by
    intro j u hj
    have hadd : (⟨B, 0, none⟩ : Addr).add j = ⟨B, j, none⟩ := by unfold Addr.add; split <;> simp_all
    rw [hadd, cell_of_row w B j _ 5 _ hB]
    simpa using hj
  obtain ⟨v', w', r1, r2, r3, r4⟩ := run_append_own (P := Tryz.prog) w base 123 ty 5 i0 (.int .u8 0) 1 1 Tryz.underlying123 hi hz0 hz1 hz2 rfl (by decide) v l.length _ h ⟨B, 0, none⟩ 1 c [.int .u8 x] rfl hnews (by intro u hu; simp at hu; subst hu; rfl) (by unfold maxLen; omega) (by omega) hb
  refine ⟨v', w', r1, ?_, (Below.refl base w).grown r3 hb (ownsRow_ge h), by have := r3.size; omega, r3⟩
  unfold BOwn
  rw [List.length_append, List.map_append]
  exact r2
theorem wpList_bstr {w : World} {ops : Array Oper} {rest : List Oper} {o : Oper} {a : Act} {Q : Exit → Act → World → Prop} (hgd : o.guard = none) (sl x : Operand)
    (ho : o.op = .call { callee := .builtin .append, args := #[sl, x], argTypes := #[123, 9] }) (base : Nat) (v : Value) (l : List Int) (hs : a.eval sl = v) (h : BOwn w base v l) (s : ByteArray) (m : List Int) (hx : a.eval x = .string s) (hm : Lib.strCells s = m.map (Value.int .u8)) (hlen : l.length + m.length ≤ 100000) (hb : base ≤ w.heap.size)
    (hK : ∀ v' w', BOwn w' base v' (l ++ m) → Below base w w' → base ≤ w'.heap.size → w.grownBy w' v.ownBlock → wpList Tryz.prog ops Q rest (a.put o.dst v') w') : wpList Tryz.prog ops Q (o :: rest) a w := by
  refine wpList_plain hgd fun K hK' => ?_
  obtain ⟨v', w', hr, h2, h3, h4, h5⟩ := bown_str w base o.type v l h s m hm hlen hb
  unfold Oper.wp execOp
  simp only [ho, resolve, invoke, builtin, Sem.run_bind, Sem.run_pure, Result.andThen_ok, List.map_toArray, List.map_cons, List.map_nil, hs, hx, hr]
  exact hK' _ _ (hK v' w' h2 h3 h4 h5)
theorem wpList_bbyte {w : World} {ops : Array Oper} {rest : List Oper} {o : Oper} {a : Act} {Q : Exit → Act → World → Prop} (hgd : o.guard = none) (sl x : Operand)
    (ho : o.op = .call { callee := .builtin .append, args := #[sl, x], argTypes := #[123, 123] }) (base : Nat) (v : Value) (l : List Int) (hs : a.eval sl = v) (h : BOwn w base v l) (B c : Nat) (y : Int) (hx : a.eval x = .slice (some ⟨B, 0, none⟩) 1 c) (hB : w.heap[B]? = some (.cells #[.int .u8 y] 5 (0, 0))) (hlen : l.length ≤ 99999) (hb : base ≤ w.heap.size)
    (hK : ∀ v' w', BOwn w' base v' (l ++ [y]) → Below base w w' → base ≤ w'.heap.size → w.grownBy w' v.ownBlock → wpList Tryz.prog ops Q rest (a.put o.dst v') w') : wpList Tryz.prog ops Q (o :: rest) a w := by
  refine wpList_plain hgd fun K hK' => ?_
  obtain ⟨v', w', hr, h2, h3, h4, h5⟩ := bown_byte w base o.type v l h B c y hB hlen hb
  unfold Oper.wp execOp
  simp only [ho, resolve, invoke, builtin, Sem.run_bind, Sem.run_pure, Result.andThen_ok, List.map_toArray, List.map_cons, List.map_nil, hs, hx, hr]
  exact hK' _ _ (hK v' w' h2 h3 h4 h5)
theorem step_bstr {w : World} {ops : Array Oper} {o : Oper} {a : Act} {K : Act → World → Prop} {Q : Exit → Act → World → Prop} {E : Prop} (hgd : o.guard = none) (sl x : Operand)
    (ho : o.op = .call { callee := .builtin .append, args := #[sl, x], argTypes := #[123, 9] }) (base : Nat) (v : Value) (l : List Int) (hs : a.eval sl = v) (h : BOwn w base v l) (s : ByteArray) (m : List Int) (hx : a.eval x = .string s) (hm : Lib.strCells s = m.map (Value.int .u8)) (hlen : l.length + m.length ≤ 100000) (hb : base ≤ w.heap.size)
    (hK : ∀ v' w', BOwn w' base v' (l ++ m) → Below base w w' → base ≤ w'.heap.size → w.grownBy w' v.ownBlock → K (a.put o.dst v') w') :
    if Region.wanted o (yielded ops a.tmps) = true then Oper.wp Tryz.prog o a w K Q else E := by
  have hw : Region.wanted o (yielded ops a.tmps) = true := by simp [Region.wanted, hgd]
  rw [if_pos hw]
  obtain ⟨v', w', hr, h2, h3, h4, h5⟩ := bown_str w base o.type v l h s m hm hlen hb
  unfold Oper.wp execOp
  simp only [ho, resolve, invoke, builtin, Sem.run_bind, Sem.run_pure, Result.andThen_ok, List.map_toArray, List.map_cons, List.map_nil, hs, hx, hr]
  exact hK v' w' h2 h3 h4 h5
theorem BOwn.apart {w : World} {base Y : Nat} {v : Value} {l : List Int} {c : Array Value} (h : BOwn w base v l) (hY : w.heap[Y]? = some (.cells c 70 (0, 0))) : v.ownBlock ≠ some Y := by
  intro hv
  rcases h.2 with h' | ⟨g, cap, cur, e1, e2, e3, e4⟩
  · rw [h'.1] at hv; cases hv
  · rw [e1] at hv
    cases hv
    rw [e3] at hY
    simp at hY
set_option maxRecDepth 20000 in
set_option maxHeartbeats 2000000 in
theorem uint_1 (w : World) (base : Nat) (v : Value) (l : List Int) (h : BOwn w base v l) (hlen : l.length ≤ 9999) (hb : base ≤ w.heap.size) : Calls Tryz.prog 97 #[v, .int .u64 1, .int .i64 10] w fun e w' => ∃ v', e = .returned v' ∧ BOwn w' base v' (l ++ [49]) ∧ w.grownBy w' v.ownBlock ∧ base ≤ w'.heap.size := by
  have H := Lib.hid h
  clear h
  go_enter Tryz.func97, Tryz.ntmps97
  go_wp2_with (first
    | (at_builtin; refine wpList_bstr rfl _ _ rfl base v l rfl H.out _ [49] rfl (by kernel_rfl) (by simp; omega) hb ?_; intro v' w' hown' hbel' hsz' hgr')
    | go_in)
  go_ret
  exact ⟨v', rfl, hown', hgr', hsz'⟩
theorem int_1 (w : World) (base : Nat) (v : Value) (l : List Int) (h : BOwn w base v l) (hlen : l.length ≤ 9999) (hb : base ≤ w.heap.size) : Calls Tryz.prog 68 #[v, .int .i64 1, .int .i64 10] w fun e w' => ∃ v', e = .returned v' ∧ BOwn w' base v' (l ++ [49]) ∧ w.grownBy w' v.ownBlock ∧ base ≤ w'.heap.size := by
  have H := Lib.hid (uint_1 w base v l h hlen hb)
  clear h
  go_enter Tryz.func68, Tryz.ntmps68
  go_wp2_with (first
    | (go_at_call 97; ((with_reducible refine H.out.mono ?_); rintro e w' ⟨v', rfl, h1, h2, h3⟩))
    | go_in)
  go_ret
  exact ⟨v', rfl, h1, h2, h3⟩
set_option maxRecDepth 20000 in
set_option maxHeartbeats 2000000 in
theorem uint_2 (w : World) (base : Nat) (v : Value) (l : List Int) (h : BOwn w base v l) (hlen : l.length ≤ 9999) (hb : base ≤ w.heap.size) : Calls Tryz.prog 97 #[v, .int .u64 2, .int .i64 10] w fun e w' => ∃ v', e = .returned v' ∧ BOwn w' base v' (l ++ [50]) ∧ w.grownBy w' v.ownBlock ∧ base ≤ w'.heap.size := by
  have H := Lib.hid h
  clear h
  go_enter Tryz.func97, Tryz.ntmps97
  go_wp2_with (first
    | (at_builtin; refine wpList_bstr rfl _ _ rfl base v l rfl H.out _ [50] rfl (by kernel_rfl) (by simp; omega) hb ?_; intro v' w' hown' hbel' hsz' hgr')
    | go_in)
  go_ret
  exact ⟨v', rfl, hown', hgr', hsz'⟩
theorem int_2 (w : World) (base : Nat) (v : Value) (l : List Int) (h : BOwn w base v l) (hlen : l.length ≤ 9999) (hb : base ≤ w.heap.size) : Calls Tryz.prog 68 #[v, .int .i64 2, .int .i64 10] w fun e w' => ∃ v', e = .returned v' ∧ BOwn w' base v' (l ++ [50]) ∧ w.grownBy w' v.ownBlock ∧ base ≤ w'.heap.size := by
  have H := Lib.hid (uint_2 w base v l h hlen hb)
  clear h
  go_enter Tryz.func68, Tryz.ntmps68
  go_wp2_with (first
    | (go_at_call 97; ((with_reducible refine H.out.mono ?_); rintro e w' ⟨v', rfl, h1, h2, h3⟩))
    | go_in)
  go_ret
  exact ⟨v', rfl, h1, h2, h3⟩
end Go.Proofs.YtoakfninndkgaaaGreatDoor.Val
