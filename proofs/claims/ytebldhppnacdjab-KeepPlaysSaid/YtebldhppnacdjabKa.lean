/- Walks: a keep: its example, step by step. -/
import Derived.Test.YtebldhppnacdjabRows
import Derived.WalkKit
import Derived.WalkSpells
import Derived.WalkLawsBesides
import Derived.Lib.Hide
import Derived.Laws.OwnMore
import Derived.Laws.BytesArg
import Derived.Laws.MakeOwn
import Derived.Lib.SlBytesConst
import Derived.OwnWalk
import Derived.Lib.BufferMore
import Derived.Lib.ConvBytes
import Derived.Carry
import Derived.OneCell
import Derived.Deep.LoopGhost
set_option linter.unusedVariables false
namespace Go.Proofs.Ytebldhppnacdjab
open Go.RowKit
theorem Try.info5 : (Try.prog.info? 5).map (fun i => (i.zero, i.size, i.bytes)) = some (some (.int .u8 0), 1, 1) := by kernel_rfl
theorem equalIn_fn (d : Nat) (w : World) : (Op.equalIn (d + 1) 39 (.func (.func 9) #[] #[]) .nilFunc).run Try.prog w = .ok false w := by
  simp [Op.equalIn, run_underlying Try.underlying39]
@[go_sem] theorem eq_fn (w : World) : (binOp .eql 39 (.func (.func 9) #[] #[]) .nilFunc).run Try.prog w = .ok (.bool false) w := by
  simp only [binOp]
  simp [Op.equal, Op.maxDepth, equalIn_fn 9999]
@[go_sem] theorem eq_sl (a : Addr) (n c : Nat) (w : World) : (binOp .eql 29 (.slice (some a) n c) (.slice none 0 0)).run Try.prog w = .ok (.bool false) w := Lib.run_eql_slice_some_nil w a n c Try.underlying29
/-- a slice value reads as a row of bytes. -/
def Rd (w : World) (v : Value) (l : List Int) : Prop :=
  ∃ b off cap, v = .slice (some ⟨b, off, none⟩) l.length cap ∧ l.length ≤ cap ∧ l.length ≤ 100000 ∧ b < w.heap.size ∧ ∀ j, j < l.length → w.cell? ⟨b, off + j, none⟩ = some (.int .u8 (l.getD j 0))
theorem Rd.mono {w w' : World} {v : Value} {l : List Int} (h : Rd w v l) (hb : ∀ k, k < w.heap.size → w'.heap[k]? = w.heap[k]?) (hs : w.heap.size ≤ w'.heap.size) : Rd w' v l := by
  obtain ⟨b, off, cap, h1, h2, h3, h4, h5⟩ := h
  exact ⟨b, off, cap, h1, h2, h3, by omega, fun j hj => by rw [← h5 j hj]; exact World.cell?_of_block (w := w) (a := ⟨b, off + j, none⟩) (hb b h4)⟩
theorem Rd.below {w w' : World} {v : Value} {l : List Int} (h : Rd w v l) (hb : Below w.heap.size w w') : Rd w' v l := h.mono hb.block hb.size
/-- a slice value owns a row of bytes, from block 'base' on. -/
def Ow (w : World) (base : Nat) (v : Value) (l : List Int) : Prop := w.ownsRow base 5 1 v l.length (l.map (Value.int .u8)) ∧ v ≠ .slice none 0 0
theorem Ow.rd {w : World} {base : Nat} {v : Value} {l : List Int} (h : Ow w base v l) (hl : l.length ≤ 100000) : Rd w v l := by
  rcases h.1.2 with ⟨h', _⟩ | ⟨g, cap, cur, rfl, _, hg, hle, _, hcs, htk⟩
  · exact absurd h' h.2
  · refine ⟨g, 0, cap, rfl, hle, hl, (Array.getElem?_eq_some_iff.1 hg).1, fun j hj => ?_⟩
    rw [Nat.zero_add, cell_of_row w g j cur 5 _ hg]
    have h9 : (l.map (Value.int .u8))[j]? = some (Value.int .u8 (l.getD j 0)) := by simp [hj, List.getD]
    rw [← htk, List.getElem?_take] at h9
    split at h9
    · simpa using h9
    · cases h9
theorem Ow.mono {w w' : World} {base : Nat} {v : Value} {l : List Int} (h : Ow w base v l) (hb : ∀ k, k < w.heap.size → w'.heap[k]? = w.heap[k]?) : Ow w' base v l := by
  refine ⟨⟨h.1.1, ?_⟩, h.2⟩
  rcases h.1.2 with h' | ⟨g, cap, cur, e1, e2, e3, e4⟩
  · exact Or.inl h'
  · exact Or.inr ⟨g, cap, cur, e1, e2, by rw [hb g (Array.getElem?_eq_some_iff.1 e3).1]; exact e3, e4⟩
theorem Ow_new (w : World) (base : Nat) (hb : base ≤ w.heap.size) (l : List Int) (c : Array Value) (hc : c.toList = l.map (Value.int .u8)) (hl : l.length ≤ 100000) : Ow (w.alloc (.cells c 5)) base (.slice (some ⟨w.heap.size, 0, none⟩) l.length l.length) l := by
  refine ⟨⟨by simp, Or.inr ⟨w.heap.size, l.length, c, rfl, hb, heap_alloc_new w _, Nat.le_refl _, by unfold maxLen; omega, ?_, ?_⟩⟩, by simp⟩
  · rw [← Array.length_toList, hc]; simp
  · rw [hc]; exact List.take_of_length_le (by simp)
theorem Ow_append (w : World) (base : Nat) (t : TypeId) (ht : Try.prog.underlying t = some (.slice 5)) (ty : TypeId) (v : Value) (xs : List Int) (hown : Ow w base v xs) (hb : base ≤ w.heap.size) (src : Value) (l : List Int) (hsrc : Rd w src l) (hlen : xs.length + l.length ≤ 100000) :
    ∃ v' w', (Builtin.append_ #[t, t] ty #[v, src]).run Try.prog w = .ok v' w' ∧ Ow w' base v' (xs ++ l) ∧ Below base w w' ∧ base ≤ w'.heap.size := by
  obtain ⟨i0, hi, hz0, hz1, hz2⟩ := info_parts Try.info5
  obtain ⟨b, off, cap, rfl, h2, h3, h4, h5⟩ := hsrc
  have hnew : ∀ (j : Nat) (u : Value), (l.map (Value.int .u8))[j]? = some u → w.cell? ((⟨b, off, none⟩ : Addr).add j) = some u := by
    intro j u hj
    have hadd : (⟨b, off, none⟩ : Addr).add j = ⟨b, off + j, none⟩ := by unfold Addr.add; split <;> simp_all
    have hjl : j < l.length := by
      rcases Nat.lt_or_ge j l.length with h | h
      · exact h
      · rw [List.getElem?_eq_none (by simpa using h)] at hj; cases hj
    rw [hadd, h5 j hjl, ← hj]
    simp [hjl, List.getD]
  obtain ⟨v', w', r1, r2, r3, r4⟩ := run_append_own (P := Try.prog) w base t ty 5 i0 (.int .u8 0) 1 1 ht hi hz0 hz1 hz2 rfl (by decide) v xs.length _ hown.1 ⟨b, off, none⟩ l.length cap (l.map (Value.int .u8)) (by simp) hnew (by intro u hu; obtain ⟨x, _, rfl⟩ := List.mem_map.1 hu; rfl) (by unfold maxLen; omega) (by omega) hb
  refine ⟨v', w', r1, ⟨by rw [List.length_append, List.map_append]; exact r2, fun h => hown.2 (r4.1 h).1⟩, ?_, ?_⟩
  · refine (Below.refl base w).grown r3 hb ?_
    intro k hk
    rcases hown.1.2 with ⟨h', _⟩ | ⟨g, cap, cur, rfl, hbg, _⟩
    · exact absurd h' hown.2
    · simp [Value.ownBlock] at hk; omega
  · have := r3.size; omega
theorem wpList_append_O {w : World} {ops : Array Oper} {rest : List Oper} {o : Oper} {a : Act} {Q : Exit → Act → World → Prop} (hgd : o.guard = none) (sl x : Operand) (t : TypeId)
    (ho : o.op = .call { callee := .builtin .append, args := #[sl, x], argTypes := #[t, t] }) (base : Nat) (ht : Try.prog.underlying t = some (.slice 5))
    (v : Value) (xs : List Int) (hs : a.eval sl = v) (hown : Ow w base v xs) (src : Value) (l : List Int) (hx : a.eval x = src) (hsrc : Rd w src l) (hb : base ≤ w.heap.size) (hlen : xs.length + l.length ≤ 100000)
    (h : ∀ v' w', Ow w' base v' (xs ++ l) → Below base w w' → base ≤ w'.heap.size → wpList Try.prog ops Q rest (a.put o.dst v') w') : wpList Try.prog ops Q (o :: rest) a w := by
  refine wpList_plain hgd fun K hK => ?_
  obtain ⟨v', w', hr, h2, h3, h4⟩ := Ow_append w base t ht o.type v xs hown hb src l hsrc hlen
  unfold Oper.wp execOp
  simp only [ho, resolve, invoke, builtin, Sem.run_bind, Sem.run_pure, Result.andThen_ok, List.map_toArray, List.map_cons, List.map_nil, hs, hx, hr]
  exact hK _ _ (h v' w' h2 h3 h4)
/-- a literal of one byte, laid anew. -/
theorem Rd_one (w : World) (x : Int) : Rd (w.alloc (.cells #[.int .u8 x] 5)) (.slice (some ⟨w.heap.size, 0, none⟩) 1 1) [x] := by
  have := (Ow_new w 0 (Nat.zero_le _) [x] #[.int .u8 x] rfl (by simp)).rd (by simp)
  exact this
theorem Ow.alloc {w : World} {base : Nat} {v : Value} {l : List Int} (h : Ow w base v l) (o : Obj) : Ow (w.alloc o) base v l := h.mono fun k hk => Below.heap_alloc w o k hk
theorem Rd.alloc {w : World} {v : Value} {l : List Int} (h : Rd w v l) (o : Obj) : Rd (w.alloc o) v l := h.mono (fun k hk => Below.heap_alloc w o k hk) (by simp)

theorem flat_any (v : Value) (w : World) : Calls Try.prog 9 #[v] w fun e w' => e = .returned (.int .u64 7) ∧ w = w' := by
  go_enter Try.func9, Try.ntmps9
  go_wp2
  go_ret
  exact ⟨rfl, rfl⟩
theorem Ow.block {w : World} {base : Nat} {v : Value} {l : List Int} (h : Ow w base v l) : ∃ g, v.ownBlock = some g ∧ base ≤ g := by
  obtain ⟨⟨-, h | ⟨g, cap, cur, rfl, hb, -⟩⟩, hne⟩ := h
  · exact absurd h.1 hne
  · exact ⟨g, rfl, hb⟩
theorem clone_any (v : Value) (l : List Int) (w : World) (h : Rd w v l) (hl : l.length ≤ 1000) : Calls Try.prog 20 #[v] w fun e w' => (∃ v', e = .returned v' ∧ Rd w' v' l ∧ ∃ g, v'.ownBlock = some g ∧ w.heap.size ≤ g) ∧ Below w.heap.size w w' := by
  have HR := Lib.hid h
  have HO := Lib.hid (Ow_new w w.heap.size (Nat.le_refl _) [] #[] rfl (by simp))
  have HLL : Hid (([] : List Int).length + l.length ≤ 100000) := Lib.hid (by simp; omega)
  have HL2 : Hid (([] ++ l : List Int).length ≤ 100000) := Lib.hid (by simp; omega)
  obtain ⟨b, off, cap, rfl, -, -, -, -⟩ := h
  go_enter Try.func20, Try.ntmps20
  go_wp2_with (at_builtin; refine wpList_append_O rfl _ _ 29 rfl w.heap.size Try.underlying29 _ [] rfl HO.out _ l rfl (HR.out.alloc _) (by simp) HLL.out ?_; intro v' w' hown' hbel' hsz')
  have hbel : Below w.heap.size w w' := ((Below.refl _ _).alloc (Nat.le_refl _) _).trans hbel'
  have hrd := hown'.rd HL2.out
  have hblk := hown'.block
  go_wp2
  go_ret
  exact ⟨⟨_, rfl, hrd, hblk⟩, hbel⟩
theorem conv_bytes {w : World} {v : Value} {l : List Int} (h : Rd w v l) : (convert 29 9 v).run Try.prog w = .ok (.string (strOfNums l)) w := by
  obtain ⟨b, off, cap, rfl, h2, h3, h4, h5⟩ := h
  exact run_convert_bytes_arg (P := Try.prog) w 29 5 Try.underlying29 Try.underlying5 b off l.length cap l rfl h5 9 Try.underlying9
theorem equal_any (u v : Value) (l1 l2 : List Int) (r : Bool) (hr : Hid (((strOfNums l1).toList == (strOfNums l2).toList) = r)) (w : World) (h1 : Rd w u l1) (h2 : Rd w v l2) : Calls Try.prog 23 #[u, v] w fun e w' => e = .returned (.bool r) ∧ w = w' := by
  have c1 := conv_bytes h1
  have c2 := conv_bytes h2
  obtain ⟨b, off, cap, rfl, -, -, -, -⟩ := h1
  obtain ⟨b2, off2, cap2, rfl, -, -, -, -⟩ := h2
  generalize strOfNums l1 = s1 at *
  generalize strOfNums l2 = s2 at *
  go_enter Try.func23, Try.ntmps23
  go_wp2
  go_ret
  exact ⟨by rw [← hr.out]; rfl, rfl⟩
@[go_sem] theorem make_map (w : World) : (Instr.makeMap 49 none).run Try.prog w = .ok (.map (some w.heap.size)) (w.alloc (.map #[] 0)) := rfl
/-- a keep's own cells, and its map. -/
def KeepAt (w : World) (K M : Nat) (n now f m : Int) (es : Array MapEntry) (c : Nat) : Prop :=
  w.heap[K]? = some (.cells #[.int .i64 9, .func (.func 9) #[] #[], .map (some M), .int .i64 n, .int .i64 now, .int .i64 f, .int .i64 m] 51 (0, 0)) ∧ w.heap[M]? = some (.map es c) ∧ K ≠ M
theorem new_any (w : World) : Calls Try.prog 8 #[.int .i64 9, .func (.func 9) #[] #[]] w fun e w' => e = .returned (.tuple #[.pointer (some ⟨w.heap.size + 1, 0, none⟩), .int .i64 0]) ∧ KeepAt w' (w.heap.size + 1) w.heap.size 0 0 0 0 #[] 0 ∧ Below w.heap.size w w' := by
  go_enter Try.func8, Try.ntmps8
  go_wp2
  go_ret2
  refine ⟨rfl, ⟨?_, ?_, by omega⟩, ((Below.refl _ _).alloc (Nat.le_refl _) _).alloc (by simp) _⟩
  · have := heap_alloc_new (w.alloc (.map #[] 0)) (.cells #[.int .i64 9, .func (.func 9) #[] #[], .map (some w.heap.size), .int .i64 0, .int .i64 0, .int .i64 0, .int .i64 0] 51)
    simpa using this
  · rw [Below.heap_alloc _ _ _ (by simp)]
    exact heap_alloc_new w _
set_option maxHeartbeats 1000000 in
theorem clos_any (w : World) (B : Nat) (u v : Value) (x last : Int) (l1 l2 : List Int) (r : Bool) (hr : Hid (((strOfNums l1).toList == (strOfNums l2).toList) = r)) (hB : w.cell? ⟨B, 0, none⟩ = some v) (hBl : B < w.heap.size) (h1 : Rd w u l1) (h2 : Rd w v l2) :
    Calls Try.prog 22 #[.agg #[u, .int .i64 x, .int .i64 last], .pointer (some ⟨B, 0, none⟩)] w fun e w' => e = .returned (.bool r) ∧ Below w.heap.size w w' := by
  have H1 := Lib.hid h1
  have H2 := Lib.hid h2
  obtain ⟨b1, o1, c1, rfl, -, -, -, -⟩ := h1
  obtain ⟨b2, o2, c2, rfl, -, -, -, -⟩ := h2
  go_enter Try.func22, Try.ntmps22
  go_wp2_with (go_at_call 23; ((with_reducible refine (equal_any _ _ l1 l2 r hr _ (H1.out.alloc _) (H2.out.alloc _)).mono ?_); rintro e w' ⟨rfl, rfl⟩))
  go_ret
  exact ⟨rfl, (Below.refl _ _).alloc (Nat.le_refl _) _⟩
set_option maxHeartbeats 1000000 in
theorem at_first (w : World) (g kb ko : Nat) (n cap kc : Nat) (x last : Int) (b yc : Nat) (hn : 0 < n) (hn2 : n ≤ 10)
   (h0 : w.cell? ⟨g, 0, none⟩ = some (.slice (some ⟨kb, ko, none⟩) 1 kc)) (h1 : w.cell? ⟨g, 1, none⟩ = some (.int .i64 x)) (h2 : w.cell? ⟨g, 2, none⟩ = some (.int .i64 last))
   (h3 : Rd w (.slice (some ⟨kb, ko, none⟩) 1 kc) [97]) (h4 : Rd w (.slice (some ⟨b, 0, none⟩) 1 yc) [97]) (l1 : g < w.heap.size) : Calls Try.prog 18 #[.slice (some ⟨g, 0, none⟩) n cap, .slice (some ⟨b, 0, none⟩) 1 yc] w fun e w' => e = .returned (.int .i64 0) ∧ Below w.heap.size w w' := by
  have hn3 : (0 : Int) < n := by omega
  have HS : Hid (((strOfNums [97]).toList == (strOfNums [97]).toList) = true) := Lib.hid (by decide +kernel)
  have hcl : (w.alloc (.cells #[.slice (some ⟨b, 0, none⟩) 1 yc] 29)).cell? ⟨w.heap.size, 0, none⟩ = some (.slice (some ⟨b, 0, none⟩) 1 yc) := cell_of_one (heap_alloc_new w _)
  have HCl := Lib.hid hcl
  clear hcl
  have H3 := Lib.hid h3
  have H4 := Lib.hid h4
  clear h3 h4
  go_enter Try.func18, Try.ntmps18
  go_wp2
  go_loopw [8] (fun i wr => i = .int .i64 0 ∧ wr = w.alloc (.cells #[.slice (some ⟨b, 0, none⟩) 1 yc] 29)) (fun _ _ => 0)
  case atStart => exact ⟨rfl, rfl⟩
  case round =>
    obtain ⟨rfl, rfl⟩ := hrel
    go_wp2_with (go_at_call 22; ((with_reducible refine (clos_any _ _ _ _ _ _ _ _ _ HS HCl.out (by simp) (H3.out.alloc _) (H4.out.alloc _)).mono ?_); rintro e w' ⟨rfl, hbc⟩))
    go_ret
    exact ⟨rfl, ((Below.refl _ _).alloc (Nat.le_refl _) _).trans (hbc.mono (by simp))⟩
set_option maxHeartbeats 1000000 in
theorem at_miss (w : World) (g kb ko : Nat) (cap kc : Nat) (x last : Int) (b yc : Nat)
   (h0 : w.cell? ⟨g, 0, none⟩ = some (.slice (some ⟨kb, ko, none⟩) 1 kc)) (h1 : w.cell? ⟨g, 1, none⟩ = some (.int .i64 x)) (h2 : w.cell? ⟨g, 2, none⟩ = some (.int .i64 last))
   (h3 : Rd w (.slice (some ⟨kb, ko, none⟩) 1 kc) [97]) (h4 : Rd w (.slice (some ⟨b, 0, none⟩) 1 yc) [98]) (l1 : g < w.heap.size) : Calls Try.prog 18 #[.slice (some ⟨g, 0, none⟩) 1 cap, .slice (some ⟨b, 0, none⟩) 1 yc] w fun e w' => e = .returned (.int .i64 (-1)) ∧ Below w.heap.size w w' := by
  have HS : Hid (((strOfNums [97]).toList == (strOfNums [98]).toList) = false) := Lib.hid (by decide +kernel)
  have hcl : (w.alloc (.cells #[.slice (some ⟨b, 0, none⟩) 1 yc] 29)).cell? ⟨w.heap.size, 0, none⟩ = some (.slice (some ⟨b, 0, none⟩) 1 yc) := cell_of_one (heap_alloc_new w _)
  have HCl := Lib.hid hcl
  clear hcl
  have H3 := Lib.hid h3
  have H4 := Lib.hid h4
  clear h3 h4
  go_enter Try.func18, Try.ntmps18
  go_wp2
  go_loopw [8] (fun i wr => (i = .int .i64 0 ∧ wr = w.alloc (.cells #[.slice (some ⟨b, 0, none⟩) 1 yc] 29)) ∨ (i = .int .i64 1 ∧ Below w.heap.size w wr)) (fun i _ => 1 - (intOf i).toNat)
  case atStart => exact Or.inl ⟨rfl, rfl⟩
  case round =>
    rcases hrel with ⟨rfl, rfl⟩ | ⟨rfl, hb⟩
    · go_wp2_with (go_at_call 22; ((with_reducible refine (clos_any _ _ _ _ _ _ _ _ _ HS HCl.out (by simp) (H3.out.alloc _) (H4.out.alloc _)).mono ?_); rintro e w' ⟨rfl, hbc⟩))
      go_roundw
      case rel => exact Or.inr ⟨rfl, ((Below.refl _ _).alloc (Nat.le_refl _) _).trans (hbc.mono (by simp))⟩
      case measure => simp [intOf]
    · go_wp2
      go_ret
      exact ⟨rfl, hb⟩
set_option maxHeartbeats 1000000 in
theorem at_nil (w : World) (key : Value) (hk : ∃ b n c, key = .slice (some ⟨b, 0, none⟩) n c) : Calls Try.prog 18 #[.slice none 0 0, key] w fun e w' => e = .returned (.int .i64 (-1)) ∧ Below w.heap.size w w' := by
  obtain ⟨b, n, c, rfl⟩ := hk
  go_enter Try.func18, Try.ntmps18
  go_wp2
  go_loopw [8] (fun i wr => i = .int .i64 0 ∧ wr = w.alloc (.cells #[.slice (some ⟨b, 0, none⟩) n c] 29)) (fun _ _ => 0)
  case atStart => exact ⟨rfl, rfl⟩
  case round =>
    obtain ⟨rfl, rfl⟩ := hrel
    go_wp2
    go_ret
    exact ⟨rfl, (Below.refl _ _).alloc (Nat.le_refl _) _⟩
end Go.Proofs.Ytebldhppnacdjab
