/- Walks: an arena's plain functions. Walks: slices.Clone, and the clone of a head. Walks: the clone of a head. Walks: arena.right. Walks: arena.Var. Walks: arena.Head. -/
import Derived.Test.YtifilhkkgkihpaaGreatDoorAs04
import Derived.Deep.RegionLaw
import Derived.Deep.AppendLies
set_option linter.unusedSimpArgs false
set_option linter.unusedVariables false
set_option linter.unusedSimpArgs false
set_option linter.unusedVariables false
namespace Go.Proofs.YtifilhkkgkihpaaGreatDoor
open Go.RowKit
theorem ownsRow_mono {w w' : World} {base : Nat} {e : TypeId} {size : Nat} {v : Value} {n : Nat} {xs : List Value} (h : w.ownsRow base e size v n xs) (hb : ∀ g, v.ownBlock = some g → w'.heap[g]? = w.heap[g]?) : w'.ownsRow base e size v n xs := by
  refine ⟨h.1, ?_⟩
  rcases h.2 with h' | ⟨g, cap, cur, rfl, e2, e3, e4⟩
  · exact Or.inl h'
  · exact Or.inr ⟨g, cap, cur, rfl, e2, by rw [hb g rfl]; exact e3, e4⟩
/-- an arena as it lies: its box at A, its row of parts at base or behind it. -/
structure ArenaAt (w : World) (A base : Nat) (la : Option Addr) (ln lc : Nat) (most : Int) (ps : List Value) : Prop where
  box : w.heap[A]? = some (.cells #[.slice la ln lc, .int .i64 most] 84 (0, 0))
  own : w.ownsRow base 96 9 (.slice la ln lc) ln ps
  lt : A < base
  le : base ≤ w.heap.size
theorem ArenaAt.on {w w' : World} {A base : Nat} {la : Option Addr} {ln lc : Nat} {most : Int} {ps : List Value} (h : ArenaAt w A base la ln lc most ps) (hb : Below w.heap.size w w') : ArenaAt w' A base la ln lc most ps :=
  ⟨(hb.block A (Nat.lt_of_lt_of_le h.lt h.le)).trans h.box, ownsRow_mono h.own (fun g hg => hb.block g (h.own.lt g hg).2), h.lt, Nat.le_trans h.le hb.size⟩
end Go.Proofs.YtifilhkkgkihpaaGreatDoor
set_option linter.unusedSimpArgs false
set_option linter.unusedVariables false
namespace Go.Proofs.YtifilhkkgkihpaaGreatDoor
open Go.RowKit
theorem NamesAt.kept {w w' : World} {an : Option Addr} {n : Nat} {NS : List ByteArray} (h : NamesAt w an n NS) (hk : ∀ ad, an = some ad → w'.heap[ad.block]? = w.heap[ad.block]?) (hs : w.heap.size ≤ w'.heap.size) : NamesAt w' an n NS := by
  refine ⟨h.1, ?_⟩
  rcases h.2 with h' | ⟨gn, on, e, hg, hc⟩
  · exact Or.inl h'
  · exact Or.inr ⟨gn, on, e, Nat.lt_of_lt_of_le hg hs, fun i s hi => by rw [← hc i s hi]; exact World.cell?_of_block (w := w) (a := ⟨gn, on + i, none⟩) (hk ⟨gn, on, none⟩ e)⟩
theorem IntsAt.kept {w w' : World} {an : Option Addr} {n : Nat} {NS : List Int} (h : IntsAt w an n NS) (hk : ∀ ad, an = some ad → w'.heap[ad.block]? = w.heap[ad.block]?) (hs : w.heap.size ≤ w'.heap.size) : IntsAt w' an n NS := by
  refine ⟨h.1, ?_⟩
  rcases h.2 with h' | ⟨gn, on, e, hg, hc⟩
  · exact Or.inl h'
  · exact Or.inr ⟨gn, on, e, Nat.lt_of_lt_of_le hg hs, fun i s hi => by rw [← hc i s hi]; exact World.cell?_of_block (w := w) (a := ⟨gn, on + i, none⟩) (hk ⟨gn, on, none⟩ e)⟩

theorem Tryz.info3b : (Tryz.prog.info? 3).map (fun i => (i.zero, i.size, i.bytes)) = some (some (.int .i64 0), 1, 8) := by kernel_rfl
theorem Tryz.info9b : (Tryz.prog.info? 9).map (fun i => (i.zero, i.size, i.bytes)) = some (some (.string ByteArray.empty), 1, 16) := by kernel_rfl
set_option maxRecDepth 20000 in
set_option maxHeartbeats 2000000 in
theorem clone_55 (w : World) (a : Option Addr) (n c : Nat) (XS : List ByteArray) (h : NamesAt w a n XS) (hc : a = none → c = 0) (hn : n ≤ 100000) :
    Calls Tryz.prog 91 #[.slice a n c] w fun e w' => ∃ a' c', e = .returned (.slice a' n c') ∧ NamesAt w' a' n XS ∧ (a' = none → c' = 0) ∧ (∀ ad, a' = some ad → w.heap.size ≤ ad.block) ∧ Below w.heap.size w w' := by
  cases a with
  | none =>
    have hc0 := hc rfl
    subst hc0
    have hn0 : n = 0 := h.2.elim id (fun ⟨g, o, e, _⟩ => by cases e)
    subst hn0
    have HH := Lib.hid h
    clear h
    have hq := Lib.run_eql_slice_nil (P := Tryz.prog) w 30 9 none 0 0 0 0 Tryz.underlying30
    simp only [Option.isNone] at hq
    go_enter Tryz.func91, Tryz.ntmps91
    go_wp2
    go_ret
    exact ⟨none, 0, rfl, HH.out, fun _ => rfl, fun _ e => (by cases e), Below.refl _ _⟩
  | some ad =>
    obtain ⟨i0, hi, hz0, hz1, hz2⟩ := info_parts Tryz.info9b
    have HH := Lib.hid h
    have hown0 : (w.alloc (.cells #[] 9)).ownsRow w.heap.size 9 1 (.slice (some ⟨w.heap.size, 0, none⟩) 0 0) 0 [] := World.ownsRow_made w #[] 0 (Nat.le_refl _) (by decide) rfl
    have HO := Lib.hid hown0
    have HN : Hid (∀ j u, (XS.map Value.string)[j]? = some u → (w.alloc (.cells #[] 9)).cell? (ad.add j) = some u) := Lib.hid (by
      intro j u hj
      rcases h.2 with h0 | ⟨g, o, e, hg, hcell⟩
      · have := h.1
        rw [h0] at this
        have : XS = [] := List.length_eq_zero_iff.1 this.symm
        subst this
        simp at hj
      · cases e
        rw [List.getElem?_map] at hj
        cases hx : XS[j]? with
        | none => rw [hx] at hj; simp at hj
        | some x =>
          rw [hx] at hj
          simp only [Option.map_some, Option.some.injEq] at hj
          subst hj
          rw [show ((⟨g, o, none⟩ : Addr).add j) = ⟨g, o + j, none⟩ from by unfold Addr.add; split <;> simp_all, ← hcell j x hx]
          exact ((Below.refl w.heap.size w).alloc (Nat.le_refl _) _).cell (p := ⟨g, o + j, none⟩) hg)
    have HL : Hid ((XS.map Value.string).length = n * 1) := Lib.hid (by rw [List.length_map, h.1, Nat.mul_one])
    have HONE : Hid (∀ u ∈ XS.map Value.string, u.oneCell' = true) := Lib.hid (by
      intro u hu
      obtain ⟨x, _, rfl⟩ := List.mem_map.1 hu
      rfl)
    clear h hown0
    have hq := Lib.run_eql_slice_nil (P := Tryz.prog) w 30 9 (some ad) n c 0 0 Tryz.underlying30
    simp only [Option.isNone] at hq
    go_enter Tryz.func91, Tryz.ntmps91
    go_wp2_with (at_builtin; refine wpList_append_own _ rfl _ _ 30 rfl w.heap.size 9 i0 (.string ByteArray.empty) 1 16 Tryz.underlying30 hi hz0 hz1 hz2 rfl (by decide) _ 0 _ rfl HO.out ad n c (XS.map Value.string) rfl HL.out HN.out HONE.out (by unfold maxLen; omega) (by omega) (by simp) ?_; intro v' w5 hown hgr hnil)
    go_ret
    obtain ⟨a', c', rfl⟩ := own_slice hown
    have hlen := HH.out.1
    rw [Nat.zero_add] at hown
    simp only [List.nil_append] at hown
    refine ⟨a', c', by simp, ⟨hlen, ?_⟩, ?_, fun ad' e => (hown.lt ad'.block (by rw [e]; rfl)).1, ((Below.refl _ _).alloc (Nat.le_refl _) _).grown hgr (by simp) (fun q hq => by cases hq; exact Nat.le_refl _)⟩
    · rcases hown.2 with ⟨_, hz⟩ | ⟨g, cap, cur, e', hb', hg', -⟩
      · exact Or.inl hz
      · right
        have ea : a' = some ⟨g, 0, none⟩ := by injection e'
        subst ea
        refine ⟨g, 0, rfl, (Array.getElem?_eq_some_iff.1 hg').1, fun i s hs => ?_⟩
        have hil := (List.getElem?_eq_some_iff.1 hs).1
        rw [hown.cellAt (0 + i) (by omega), Nat.zero_add, List.getElem?_map, hs]
        rfl
    · intro e
      subst e
      rcases hown.2 with ⟨e', _⟩ | ⟨g, cap, cur, e', _⟩
      · injection e'
      · injection e' with e1
        cases e1
end Go.Proofs.YtifilhkkgkihpaaGreatDoor
set_option linter.unusedSimpArgs false
set_option linter.unusedVariables false
namespace Go.Proofs.YtifilhkkgkihpaaGreatDoor
open Go.RowKit
end Go.Proofs.YtifilhkkgkihpaaGreatDoor
set_option linter.unusedSimpArgs false
set_option linter.unusedVariables false
namespace Go.Proofs.YtifilhkkgkihpaaGreatDoor
open Go.RowKit
def zerosTo (j : Nat) : List Value := List.replicate j (.int .i64 0)
theorem zerosTo_succ (j : Nat) : zerosTo (j + 1) = zerosTo j ++ [.int .i64 0] := List.replicate_succ'
structure RightLoop (w1 wr : World) (R G : Nat) (kd : Int) (na : Option Addr) (nn nc : Nat) (op : Bool) (j : Nat) (aq : Option Addr) (cq : Nat) : Prop where
  g : wr.heap[G]? = some (.cells #[.int .i64 kd, .slice na nn nc, .slice aq j cq, .bool op] 33 (0, 0))
  o : wr.ownsRow R 3 1 (.slice aq j cq) j (zerosTo j)
  keep : ∀ b, b < R → b ≠ G → wr.heap[b]? = w1.heap[b]?
  lg : G < R
  size : R ≤ wr.heap.size
  os : wr.os = w1.os
  tape : wr.tape = w1.tape
  output : wr.output = w1.output
theorem RightLoop.step {w1 wr w5 : World} {R G : Nat} {kd : Int} {na : Option Addr} {nn nc : Nat} {op : Bool} {j : Nat} {aq : Option Addr} {cq : Nat} {o : Obj} {a2 : Option Addr} {c2 : Nat} (h : RightLoop w1 wr R G kd na nn nc op j aq cq)
    (hown : w5.ownsRow R 3 1 (.slice a2 (j + 1) c2) (j + 1) (zerosTo j ++ [.int .i64 0])) (hg : (wr.drew.alloc o).grownBy w5 (Value.slice aq j cq).ownBlock) : RightLoop w1 (w5.setCell ⟨G, 2, none⟩ (.slice a2 (j + 1) c2)) R G kd na nn nc op (j + 1) a2 c2 := by
  have hs := h.size
  have hd : Below wr.heap.size wr wr.drew := (Below.refl _ _).drew
  have hds := hd.size
  have hlo : ∀ b, b < R → w5.heap[b]? = wr.heap[b]? := fun b hb => by
    rw [hg.block b (by simp; omega) (fun e => by have := ownsRow_ge h.o b e.symm; omega), Below.heap_alloc _ _ _ (by omega)]
    exact hd.block b (by omega)
  have hsz : wr.drew.heap.size + 1 ≤ w5.heap.size := by have := hg.size; simpa using this
  refine ⟨?_, ?_, fun b hb h1 => ?_, h.lg, by simp; omega, ?_, ?_, ?_⟩
  · rw [heap_setCell_same _ G 2 _ 33 _ ((hlo G h.lg).trans h.g)]
    rfl
  · rw [zerosTo_succ]
    exact ownsRow_setCell_below hown h.lg _
  · rw [Below.heap_setCell _ _ _ _ h1, hlo b hb]
    exact h.keep b hb h1
  · exact hg.os.trans (hd.os.trans h.os)
  · exact hg.tape.trans (hd.tape.trans h.tape)
  · exact hg.output.trans (hd.output.trans h.output)
theorem RightLoop.below {w1 w w0 : World} {R G : Nat} {kd : Int} {na : Option Addr} {nn nc : Nat} {op : Bool} {j : Nat} {aq : Option Addr} {cq : Nat} (h : RightLoop w1 w R G kd na nn nc op j aq cq) {n : Nat} (hb : Below n w0 w1) (h7 : n ≤ G) (hr : w1.heap.size ≤ R) : Below n w0 w := by
  have hs := h.size
  have l7 := h.lg
  have hb2 := hb.size
  exact ⟨h.os.trans hb.os, h.tape.trans hb.tape, h.output.trans hb.output, by omega, fun i hi => (h.keep i (by omega) (by omega)).trans (hb.block i hi)⟩
theorem RightLoop.kids {w1 w : World} {R G : Nat} {kd : Int} {na : Option Addr} {nn nc : Nat} {op : Bool} {j : Nat} {aq : Option Addr} {cq : Nat} (h : RightLoop w1 w R G kd na nn nc op j aq cq) : IntsAt w aq j (List.replicate j 0) := by
  refine ⟨by simp, ?_⟩
  rcases h.o.2 with ⟨_, hz⟩ | ⟨gq, cap2, cur2, e', hb', hg', -⟩
  · exact Or.inl hz
  · right
    have ea : aq = some ⟨gq, 0, none⟩ := by injection e'
    subst ea
    refine ⟨gq, 0, rfl, (Array.getElem?_eq_some_iff.1 hg').1, fun i k hi => ?_⟩
    have hl := (List.getElem?_eq_some_iff.1 hi).1
    simp only [List.length_replicate] at hl
    rw [h.o.cellAt (0 + i) (by omega), Nat.zero_add]
    rw [List.getElem?_replicate, if_pos hl] at hi
    cases hi
    unfold zerosTo
    rw [List.getElem?_replicate, if_pos hl]
end Go.Proofs.YtifilhkkgkihpaaGreatDoor
set_option linter.unusedSimpArgs false
set_option linter.unusedVariables false
namespace Go.Proofs.YtifilhkkgkihpaaGreatDoor
open Go.RowKit
/-- what an act on the arena at A leaves alone. -/
structure Acts (w w' : World) (A : Nat) (own : Option Nat) : Prop where
  os : w'.os = w.os
  tape : w'.tape = w.tape
  output : w'.output = w.output
  size : w.heap.size ≤ w'.heap.size
  block : ∀ b, b < w.heap.size → b ≠ A → own ≠ some b → w'.heap[b]? = w.heap[b]?
theorem ArenaAt.acts {w w2 w5 : World} {A base : Nat} {la : Option Addr} {ln lc : Nat} {most : Int} {ps ns : List Value} {wb : World} {a2 : Option Addr} {c2 : Nat} (h : ArenaAt w2 A base la ln lc most ps) (hal : Below w2.heap.size w2 wb) (hb : Below w.heap.size w w2) (hle : base ≤ w.heap.size)
    (hown : w5.ownsRow base 96 9 (.slice a2 (ln + 1) c2) (ln + 1) (ps ++ ns)) (hg : wb.grownBy w5 (Value.slice la ln lc).ownBlock) : ArenaAt (w5.setCell ⟨A, 0, none⟩ (.slice a2 (ln + 1) c2)) A base a2 (ln + 1) c2 most (ps ++ ns) ∧ Acts w (w5.setCell ⟨A, 0, none⟩ (.slice a2 (ln + 1) c2)) A (Value.slice la ln lc).ownBlock := by
  have hs := h.le
  have hl := h.lt
  have hbs := hb.size
  have hlo : ∀ b, b < w2.heap.size → (Value.slice la ln lc).ownBlock ≠ some b → w5.heap[b]? = w2.heap[b]? := fun b hb' e => by
    rw [hg.block b (by have := hal.size; omega) (fun e' => e e'.symm)]
    exact hal.block b hb'
  have hA5 : w5.heap[A]? = some (.cells #[.slice la ln lc, .int .i64 most] 84 (0, 0)) := (hlo A (by omega) (fun e => by have := ownsRow_ge h.own A e; omega)).trans h.box
  have hsz : w2.heap.size ≤ w5.heap.size := Nat.le_trans hal.size hg.size
  refine ⟨⟨?_, ownsRow_setCell_below hown h.lt _, hl, by simp; omega⟩, ⟨?_, ?_, ?_, by simp; omega, fun b hb1 h1 h2 => ?_⟩⟩
  · rw [heap_setCell_same _ A 0 _ 84 _ hA5]
    rfl
  · exact hg.os.trans (hal.os.trans hb.os)
  · exact hg.tape.trans (hal.tape.trans hb.tape)
  · exact hg.output.trans (hal.output.trans hb.output)
  · rw [Below.heap_setCell _ _ _ _ h1, hlo b (by omega) h2]
    exact hb.block b hb1
end Go.Proofs.YtifilhkkgkihpaaGreatDoor
set_option linter.unusedSimpArgs false
set_option linter.unusedVariables false
namespace Go.Proofs.YtifilhkkgkihpaaGreatDoor
open Go.RowKit
theorem Acts.refl (w : World) (A : Nat) (o : Option Nat) : Acts w w A o := ⟨rfl, rfl, rfl, Nat.le_refl _, fun _ _ _ _ => rfl⟩
theorem Acts.below {w w' : World} {P : Nat} {o : Option Nat} (h : Acts w w' P o) {n : Nat} (h1 : n ≤ w.heap.size) (h2 : n ≤ P) (h3 : ∀ k, o = some k → n ≤ k) : Below n w w' :=
  ⟨h.os, h.tape, h.output, h.size, fun b hb => h.block b (by omega) (by omega) (fun e => by have := h3 b e; omega)⟩
theorem NamesAt.kept0 {w w' : World} {an : Option Addr} {n : Nat} {NS : List ByteArray} (h : NamesAt w an n NS) (hk : ∀ ad, an = some ad → n ≠ 0 → ad.block < w.heap.size → w'.heap[ad.block]? = w.heap[ad.block]?) (hs : w.heap.size ≤ w'.heap.size) : NamesAt w' an n NS := by
  refine ⟨h.1, ?_⟩
  by_cases h0 : n = 0
  · exact Or.inl h0
  rcases h.2 with h' | ⟨gn, on, e, hg, hc⟩
  · exact Or.inl h'
  · exact Or.inr ⟨gn, on, e, Nat.lt_of_lt_of_le hg hs, fun i s hi => by rw [← hc i s hi]; exact World.cell?_of_block (w := w) (a := ⟨gn, on + i, none⟩) (hk ⟨gn, on, none⟩ e h0 hg)⟩
theorem IntsAt.kept0 {w w' : World} {an : Option Addr} {n : Nat} {NS : List Int} (h : IntsAt w an n NS) (hk : ∀ ad, an = some ad → n ≠ 0 → ad.block < w.heap.size → w'.heap[ad.block]? = w.heap[ad.block]?) (hs : w.heap.size ≤ w'.heap.size) : IntsAt w' an n NS := by
  refine ⟨h.1, ?_⟩
  by_cases h0 : n = 0
  · exact Or.inl h0
  rcases h.2 with h' | ⟨gn, on, e, hg, hc⟩
  · exact Or.inl h'
  · exact Or.inr ⟨gn, on, e, Nat.lt_of_lt_of_le hg hs, fun i s hi => by rw [← hc i s hi]; exact World.cell?_of_block (w := w) (a := ⟨gn, on + i, none⟩) (hk ⟨gn, on, none⟩ e h0 hg)⟩
theorem Acts.set {w w' : World} {P : Nat} {o : Option Nat} (h : Acts w w' P o) (i : Nat) (v : Value) : Acts w (w'.setCell ⟨P, i, none⟩ v).drew P o := by
  have hd : Below w'.heap.size (w'.setCell ⟨P, i, none⟩ v) (w'.setCell ⟨P, i, none⟩ v).drew := (Below.refl _ _).drew
  exact ⟨hd.os.trans h.os, hd.tape.trans h.tape, hd.output.trans h.output, by have h1 := h.size; have h2 := hd.size; have e : (w'.setCell ⟨P, i, none⟩ v).heap.size = w'.heap.size := (by simp); rw [e] at h2; exact Nat.le_trans h1 h2, fun b hb h1 h2 => by rw [hd.block b (by have := h.size; omega), Below.heap_setCell _ _ _ _ h1]; exact h.block b hb h1 h2⟩
end Go.Proofs.YtifilhkkgkihpaaGreatDoor
