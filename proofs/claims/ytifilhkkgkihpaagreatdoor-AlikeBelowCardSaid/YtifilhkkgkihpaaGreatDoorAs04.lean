/- Walks: graph.head. Walks: graph.Check. Walks: law08.Few. -/
import Derived.Test.YtifilhkkgkihpaaGreatDoorAs03
set_option linter.unusedSimpArgs false
set_option linter.unusedVariables false
set_option linter.unusedSimpArgs false
set_option linter.unusedVariables false
namespace Go.Proofs.YtifilhkkgkihpaaGreatDoor
open Go.RowKit
/-- has a head what its kind asks? -/
def headB (kd : Int) (op : Bool) (n : Int) (NS : List ByteArray) (KS : List Int) : Bool := (kd != 10) && risesB NS && KS.all (fun k => decide (0 ≤ k) && decide (k < n)) && typB kd op NS.length KS.length NS
def BoolPost (w : World) (b : Bool) (e : Ending) (w' : World) : Prop := e = .returned (.bool b) ∧ Below w.heap.size w w'
/-- kids as they lie. -/
def IntsAt (w : World) (a : Option Addr) (n : Nat) (KS : List Int) : Prop := n = KS.length ∧ (n = 0 ∨ ∃ g o, a = some ⟨g, o, none⟩ ∧ g < w.heap.size ∧ ∀ i k, KS[i]? = some k → w.cell? ⟨g, o + i, none⟩ = some (.int .i64 k))
theorem IntsAt.on {w w' : World} {an : Option Addr} {n : Nat} {KS : List Int} (h : IntsAt w an n KS) (hb : Below w.heap.size w w') : IntsAt w' an n KS := by
  refine ⟨h.1, ?_⟩
  rcases h.2 with h' | ⟨gn, on, e, hg, hc⟩
  · exact Or.inl h'
  · exact Or.inr ⟨gn, on, e, Nat.lt_of_lt_of_le hg hb.size, fun i s hi => by rw [← hc i s hi]; exact hb.cell (p := ⟨gn, on + i, none⟩) hg⟩
theorem Tryz.info152 : (Tryz.prog.info? 152).map (fun i => (i.zero, i.size, i.bytes)) = some (some (.agg #[.int .i64 0, .int .i64 0, .string ByteArray.empty, .slice none 0 0, .slice none 0 0, .bool false]), 6, 88) := by kernel_rfl
theorem own_two {w : World} {base b2 : Nat} {e t : TypeId} {size n s2 n2 : Nat} {v u : Value} {xs ys : List Value} (h : w.ownsRow base e size v n xs) (h2 : w.ownsRow b2 t s2 u n2 ys) (het : e ≠ t) : v.ownBlock = none ∨ v.ownBlock ≠ u.ownBlock := by
  rcases h.2 with ⟨rfl, -⟩ | ⟨g, cap, cur, rfl, e2, e3, -⟩
  · exact Or.inl rfl
  · rcases h2.2 with ⟨rfl, -⟩ | ⟨g2, cap2, cur2, rfl, f2, f3, -⟩
    · right; simp [Value.ownBlock]
    · right
      intro e
      have hg : g = g2 := by simpa [Value.ownBlock] using e
      subst hg
      rw [e3] at f3
      simp at f3
      exact het f3.2
theorem ownsRow_ge {w : World} {base : Nat} {e : TypeId} {size : Nat} {v : Value} {n : Nat} {xs : List Value} (h : w.ownsRow base e size v n xs) : ∀ g, v.ownBlock = some g → base ≤ g := fun g hg => (h.lt g hg).1
theorem own_slice {w : World} {base : Nat} {e : TypeId} {size n : Nat} {v : Value} {xs : List Value} (h : w.ownsRow base e size v n xs) : ∃ a c, v = .slice a n c := by
  rcases h.2 with ⟨rfl, rfl⟩ | ⟨g, cap, cur, rfl, -⟩
  · exact ⟨none, 0, rfl⟩
  · exact ⟨_, cap, rfl⟩
def numsTo (i : Nat) : List Value := (List.range i).map fun (j : Nat) => Value.int .i64 (j : Int)
theorem numsTo_succ (i : Nat) : numsTo (i + 1) = numsTo i ++ [.int .i64 (i : Int)] := by simp [numsTo, List.range_succ]
def tintC : List Value := [.int .i64 0, .int .i64 0, .string ⟨#[]⟩, .slice none 0 0, .slice none 0 0, .bool false]
def tintsTo : Nat → List Value
  | 0 => []
  | i + 1 => tintsTo i ++ tintC
/-- the type and the tree that are made, kid by kid. -/
structure HeadLoop (w9 wr : World) (R B7 B8 : Nat) (kd : Int) (na : Option Addr) (nn nc : Nat) (op : Bool) (gn : Nat) (iq : Nat) (aq : Option Addr) (cq iy : Nat) (ay : Option Addr) (cy : Nat) (ys : List Value) : Prop where
  y : wr.heap[B7]? = some (.cells #[.int .i64 kd, .int .i64 0, .string ⟨#[]⟩, .slice na nn nc, .slice aq iq cq, .bool op] 152 (0, 0))
  t : wr.heap[B8]? = some (.cells #[.slice (some ⟨gn, 0, none⟩) 2 2, .slice ay iy cy, .slice none 0 0] 108 (0, 0))
  oq : wr.ownsRow R 3 1 (.slice aq iq cq) iq (numsTo iq)
  oy : wr.ownsRow R 152 6 (.slice ay iy cy) iy ys
  keep : ∀ b, b < R → b ≠ B7 → b ≠ B8 → wr.heap[b]? = w9.heap[b]?
  ne : B7 ≠ B8
  l7 : B7 < R
  l8 : B8 < R
  size : R ≤ wr.heap.size
  os : wr.os = w9.os
  tape : wr.tape = w9.tape
  output : wr.output = w9.output
theorem HeadLoop.stepq {w9 wr w5 : World} {R B7 B8 : Nat} {kd : Int} {na : Option Addr} {nn nc : Nat} {op : Bool} {gn iq : Nat} {aq : Option Addr} {cq iy : Nat} {ay : Option Addr} {cy : Nat} {o : Obj} {a2 : Option Addr} {c2 : Nat} {ys : List Value} (h : HeadLoop w9 wr R B7 B8 kd na nn nc op gn iq aq cq iy ay cy ys)
    (hown : w5.ownsRow R 3 1 (.slice a2 (iq + 1) c2) (iq + 1) (numsTo iq ++ [.int .i64 (iq : Int)])) (hg : (wr.alloc o).grownBy w5 (Value.slice aq iq cq).ownBlock) : HeadLoop w9 (w5.setCell ⟨B7, 4, none⟩ (.slice a2 (iq + 1) c2)) R B7 B8 kd na nn nc op gn (iq + 1) a2 c2 iy ay cy ys := by
  have hlo : ∀ b, b < R → w5.heap[b]? = wr.heap[b]? := fun b hb => by
    have hs := h.size
    rw [hg.block b (by simp; omega) (fun e => by have := ownsRow_ge h.oq b e.symm; omega), Below.heap_alloc _ _ _ (by omega)]
  have hsz : wr.heap.size + 1 ≤ w5.heap.size := by have := hg.size; simpa using this
  have hs := h.size
  refine ⟨?_, ?_, ?_, ?_, fun b hb h1 h2 => ?_, h.ne, h.l7, h.l8, by simp; omega, ?_, ?_, ?_⟩
  · rw [heap_setCell_same _ B7 4 _ 152 _ ((hlo B7 h.l7).trans h.y)]
    rfl
  · rw [Below.heap_setCell _ _ _ _ (fun e => h.ne e.symm), hlo B8 h.l8]
    exact h.t
  · rw [numsTo_succ]
    exact ownsRow_setCell_below hown h.l7 _
  · exact ownsRow_setCell_below ((h.oy.alloc o).kept hg (own_two h.oy h.oq (by decide))) h.l7 _
  · rw [Below.heap_setCell _ _ _ _ h1, hlo b hb]
    exact h.keep b hb h1 h2
  · exact hg.os.trans h.os
  · exact hg.tape.trans h.tape
  · exact hg.output.trans h.output
theorem HeadLoop.stepy {w9 wr w5 : World} {R B7 B8 : Nat} {kd : Int} {na : Option Addr} {nn nc : Nat} {op : Bool} {gn iq : Nat} {aq : Option Addr} {cq iy : Nat} {ay : Option Addr} {cy : Nat} {o : Obj} {a2 : Option Addr} {c2 : Nat} {ys ns : List Value} (h : HeadLoop w9 wr R B7 B8 kd na nn nc op gn iq aq cq iy ay cy ys)
    (hown : w5.ownsRow R 152 6 (.slice a2 (iy + 1) c2) (iy + 1) (ys ++ ns)) (hg : (wr.alloc o).grownBy w5 (Value.slice ay iy cy).ownBlock) : HeadLoop w9 (w5.setCell ⟨B8, 1, none⟩ (.slice a2 (iy + 1) c2)) R B7 B8 kd na nn nc op gn iq aq cq (iy + 1) a2 c2 (ys ++ ns) := by
  have hlo : ∀ b, b < R → w5.heap[b]? = wr.heap[b]? := fun b hb => by
    have hs := h.size
    rw [hg.block b (by simp; omega) (fun e => by have := ownsRow_ge h.oy b e.symm; omega), Below.heap_alloc _ _ _ (by omega)]
  have hsz : wr.heap.size + 1 ≤ w5.heap.size := by have := hg.size; simpa using this
  have hs := h.size
  refine ⟨?_, ?_, ?_, ?_, fun b hb h1 h2 => ?_, h.ne, h.l7, h.l8, by simp; omega, ?_, ?_, ?_⟩
  · rw [Below.heap_setCell _ _ _ _ h.ne, hlo B7 h.l7]
    exact h.y
  · rw [heap_setCell_same _ B8 1 _ 108 _ ((hlo B8 h.l8).trans h.t)]
    rfl
  · exact ownsRow_setCell_below ((h.oq.alloc o).kept hg (own_two h.oq h.oy (by decide))) h.l8 _
  · exact ownsRow_setCell_below hown h.l8 _
  · rw [Below.heap_setCell _ _ _ _ h2, hlo b hb]
    exact h.keep b hb h1 h2
  · exact hg.os.trans h.os
  · exact hg.tape.trans h.tape
  · exact hg.output.trans h.output
theorem tintsTo_len (i : Nat) : (tintsTo i).length = i * 6 := by
  induction i with
  | zero => rfl
  | succ i ih => simp only [tintsTo, List.length_append, ih, tintC, List.length_cons, List.length_nil]; omega
theorem tintsTo_get (k : Nat) : ∀ i j, i < k → j < 6 → (tintsTo k)[i * 6 + j]? = tintC[j]? := by
  induction k with
  | zero => intro i j h; omega
  | succ k ih =>
    intro i j h hj
    simp only [tintsTo]
    by_cases he : i = k
    · subst he
      rw [List.getElem?_append_right (by rw [tintsTo_len]; omega), tintsTo_len]
      congr 1
      omega
    · rw [List.getElem?_append_left (by rw [tintsTo_len]; omega)]
      exact ih i j (by omega) hj
def nodA (gk gt : Nat) : Array Value := #[.int .i64 1, .int .i64 0, .string ⟨#[]⟩, .int .i64 0, .int .u64 0, .slice none 0 0, .slice none 0 0, .slice none 0 0, .int .i64 15, .int .i64 0, .string ⟨#[]⟩, .int .i64 0, .int .u64 0, .slice none 0 0, .slice (some ⟨gk, 0, none⟩) 1 1, .slice (some ⟨gt, 0, none⟩) 1 1]
theorem HeadLoop.tree {w9 w : World} {R B7 B8 : Nat} {kd : Int} {na : Option Addr} {nn nc : Nat} {op : Bool} {gn gk gt k : Nat} {aq : Option Addr} {cq : Nat} {ay : Option Addr} {cy : Nat} (h : HeadLoop w9 w R B7 B8 kd na nn nc op gn k aq cq (k + 1) ay cy (tintsTo k ++ [.int .i64 kd, .int .i64 0, .string ⟨#[]⟩, .slice na nn nc, .slice aq k cq, .bool op]))
    (h1 : w9.heap[gn]? = some (.cells (nodA gk gt) 156 (0, 0))) (h2 : w9.heap[gk]? = some (.cells #[.int .i64 0] 3 (0, 0))) (h3 : w9.heap[gt]? = some (.cells #[.int .i64 (k : Int)] 3 (0, 0)))
    (n1 : gn < R ∧ gn ≠ B7 ∧ gn ≠ B8) (n2 : gk < R ∧ gk ≠ B7 ∧ gk ≠ B8) (n3 : gt < R ∧ gt ≠ B7 ∧ gt ≠ B8) : ∃ gy, ay = some ⟨gy, 0, none⟩ ∧ TreeIn w gn gk gt gy k kd na nn nc aq cq op := by
  have hs := h.size
  have e1 := (h.keep gn n1.1 n1.2.1 n1.2.2).trans h1
  have e2 := (h.keep gk n2.1 n2.2.1 n2.2.2).trans h2
  have e3 := (h.keep gt n3.1 n3.2.1 n3.2.2).trans h3
  rcases h.oy.2 with ⟨_, hz⟩ | ⟨g, cap, cur, e, hb, hg, -⟩
  · omega
  · have ea : ay = some ⟨g, 0, none⟩ := by injection e
    subst ea
    refine ⟨g, rfl, fun i u hi => ?_, fun i j u hi hj => ?_, fun j u hj => ?_, ?_, ?_, ?_, by omega, by omega, by omega, (Array.getElem?_eq_some_iff.1 hg).1⟩
    · rw [cell_of_row _ _ i _ _ _ e1]
      rw [← Array.getElem?_toList]
      exact hi
    · have hj6 := (List.getElem?_eq_some_iff.1 hj).1
      simp only [List.length_cons, List.length_nil] at hj6
      rw [h.oy.cellAt (i * 6 + j) (by omega), List.getElem?_append_left (by rw [tintsTo_len]; omega), tintsTo_get k i j hi hj6]
      exact hj
    · have hj6 := (List.getElem?_eq_some_iff.1 hj).1
      simp only [List.length_cons, List.length_nil] at hj6
      rw [h.oy.cellAt (k * 6 + j) (by omega), List.getElem?_append_right (by rw [tintsTo_len]; omega), tintsTo_len, Nat.add_sub_cancel_left]
      exact hj
    · rw [cell_of_row _ _ 0 _ _ _ e2]; rfl
    · rw [cell_of_row _ _ 0 _ _ _ e3]; rfl
    · rcases h.oq.2 with ⟨_, hz⟩ | ⟨gq, cap2, cur2, e', hb', hg', -⟩
      · exact Or.inl hz
      · right
        have ea : aq = some ⟨gq, 0, none⟩ := by injection e'
        subst ea
        refine ⟨gq, rfl, (Array.getElem?_eq_some_iff.1 hg').1, fun j hj => ?_⟩
        rw [h.oq.cellAt j (by omega)]
        simp [numsTo, hj]
theorem HeadLoop.below {w9 w w0 : World} {R B7 B8 : Nat} {kd : Int} {na : Option Addr} {nn nc : Nat} {op : Bool} {gn iq : Nat} {aq : Option Addr} {cq iy : Nat} {ay : Option Addr} {cy : Nat} {ys : List Value} (h : HeadLoop w9 w R B7 B8 kd na nn nc op gn iq aq cq iy ay cy ys) {n : Nat} (hb : Below n w0 w9) (h7 : n ≤ B7) (h8 : n ≤ B8) (hr : w9.heap.size ≤ R) : Below n w0 w := by
  have hs := h.size
  have l7 := h.l7
  have hb2 := hb.size
  exact ⟨h.os.trans hb.os, h.tape.trans hb.tape, h.output.trans hb.output, by omega, fun i hi => (h.keep i (by omega) (by omega) (by omega)).trans (hb.block i hi)⟩
theorem news_of {w : World} {B : Nat} {cs : Array Value} {t : TypeId} (hB : w.heap[B]? = some (.cells cs t (0, 0))) : ∀ (j : Nat) (u : Value), cs.toList[j]? = some u → w.cell? ((⟨B, 0, none⟩ : Addr).add j) = some u := by
  intro j u h
  have := cell_of_row w B j _ t _ hB
  rw [show ((⟨B, 0, none⟩ : Addr).add j) = ⟨B, j, none⟩ from by unfold Addr.add; split <;> simp_all, this, ← Array.getElem?_toList]
  exact h
theorem four_new (w : World) (o1 o2 o3 o4 : Obj) : ((((w.alloc o1).alloc o2).alloc o3).alloc o4).heap[w.heap.size]? = some o1 ∧ ((((w.alloc o1).alloc o2).alloc o3).alloc o4).heap[w.heap.size + 1]? = some o2 ∧ ((((w.alloc o1).alloc o2).alloc o3).alloc o4).heap[w.heap.size + 1 + 1]? = some o3 ∧ ((((w.alloc o1).alloc o2).alloc o3).alloc o4).heap[w.heap.size + 1 + 1 + 1]? = some o4 ∧ Below w.heap.size w ((((w.alloc o1).alloc o2).alloc o3).alloc o4) ∧ ((((w.alloc o1).alloc o2).alloc o3).alloc o4).heap.size = w.heap.size + 4 := by
  have h1 := heap_alloc_new w o1
  have h2 := heap_alloc_new (w.alloc o1) o2
  have h3 := heap_alloc_new ((w.alloc o1).alloc o2) o3
  have h4 := heap_alloc_new (((w.alloc o1).alloc o2).alloc o3) o4
  simp only [World.size_alloc] at h2 h3 h4
  refine ⟨?_, ?_, ?_, h4, ?_, by simp⟩
  · rw [Below.heap_alloc _ _ _ (by simp <;> omega), Below.heap_alloc _ _ _ (by simp <;> omega), Below.heap_alloc _ _ _ (by simp)]; exact h1
  · rw [Below.heap_alloc _ _ _ (by simp <;> omega), Below.heap_alloc _ _ _ (by simp)]; exact h2
  · rw [Below.heap_alloc _ _ _ (by simp)]; exact h3
  · exact ((((Below.refl _ _).alloc (Nat.le_refl _) _).alloc (by simp) _).alloc (by simp <;> omega) _).alloc (by simp <;> omega) _
set_option maxRecDepth 20000 in
set_option maxHeartbeats 4000000 in
theorem head_any (w : World) (kd : Int) (na : Option Addr) (nn nc : Nat) (NS : List ByteArray) (ka : Option Addr) (kn kc : Nat) (KS : List Int) (op : Bool) (n : Int) (hN : NamesAt w na nn NS) (hK : IntsAt w ka kn KS) (hn : nn ≤ 100000) (hk : kn ≤ 1000) (hz : ∀ s ∈ NS, s.size ≤ 100000) :
    Calls Tryz.prog 74 #[.agg #[.int .i64 kd, .slice na nn nc, .slice ka kn kc, .bool op], .int .i64 n] w (BoolPost w (headB kd op n NS KS)) := by
  have HN0 := Lib.hid hN
  have HK0 := Lib.hid hK
  have HZ := Lib.hid hz
  have hxb : (w.alloc (.cells #[.int .i64 kd, .slice na nn nc, .slice ka kn kc, .bool op] 33)).heap[w.heap.size]? = some (.cells #[.int .i64 kd, .slice na nn nc, .slice ka kn kc, .bool op] 33 (0, 0)) := heap_alloc_new w _
  have HXB := Lib.hid hxb
  have HBA : Hid (Below w.heap.size w (w.alloc (.cells #[.int .i64 kd, .slice na nn nc, .slice ka kn kc, .bool op] 33))) := Lib.hid ((Below.refl _ _).alloc (Nat.le_refl _) _)
  have HHB := Lib.hid (show headB kd op n NS KS = ((kd != 10) && risesB NS && KS.all (fun k => decide (0 ≤ k) && decide (k < n)) && typB kd op NS.length KS.length NS) from rfl)
  clear hN hK hz hxb
  by_cases h10 : kd = 10
  · have hq : (kd == 10) = true := by simp [h10]
    have hf : headB kd op n NS KS = false := by unfold headB; rw [h10]; rfl
    have HF := Lib.hid hf
    clear hf h10
    go_enter Tryz.func74, Tryz.ntmps74
    go_upto_region 1 with (fail)
    generalize (w.alloc (.cells #[.int .i64 kd, .slice na nn nc, .slice ka kn kc, .bool op] 33)) = w1 at *
    have a0 : w1.cell? ⟨w.heap.size, 0, none⟩ = some (.int .i64 kd) := (by rw [cell_of_row _ _ 0 _ 33 _ HXB.out]; rfl)
    have a1 : w1.cell? ⟨w.heap.size, 1, none⟩ = some (.slice na nn nc) := (by rw [cell_of_row _ _ 1 _ 33 _ HXB.out]; rfl)
    have a2 : w1.cell? ⟨w.heap.size, 2, none⟩ = some (.slice ka kn kc) := (by rw [cell_of_row _ _ 2 _ 33 _ HXB.out]; rfl)
    have a3 : w1.cell? ⟨w.heap.size, 3, none⟩ = some (.bool op) := (by rw [cell_of_row _ _ 3 _ 33 _ HXB.out]; rfl)
    go_wp2
    go_ret
    exact ⟨by rw [HF.out]; rfl, HBA.out⟩
  · have hq : (kd == 10) = false := by simp [h10]
    have H10 := Lib.hid h10
    have HRC := Lib.hid (rising_any (w.alloc (.cells #[.int .i64 kd, .slice na nn nc, .slice ka kn kc, .bool op] 33)) na nn nc NS (HN0.out.on HBA.out) hn)
    cases hr : risesB NS with
    | false =>
      rw [hr] at HRC
      have hf : headB kd op n NS KS = false := by unfold headB; rw [hr]; simp
      have HF := Lib.hid hf
      clear hf hr h10
      go_enter Tryz.func74, Tryz.ntmps74
      go_upto_region 1 with (fail)
      generalize (w.alloc (.cells #[.int .i64 kd, .slice na nn nc, .slice ka kn kc, .bool op] 33)) = w1 at *
      have a0 : w1.cell? ⟨w.heap.size, 0, none⟩ = some (.int .i64 kd) := (by rw [cell_of_row _ _ 0 _ 33 _ HXB.out]; rfl)
      have a1 : w1.cell? ⟨w.heap.size, 1, none⟩ = some (.slice na nn nc) := (by rw [cell_of_row _ _ 1 _ 33 _ HXB.out]; rfl)
      have a2 : w1.cell? ⟨w.heap.size, 2, none⟩ = some (.slice ka kn kc) := (by rw [cell_of_row _ _ 2 _ 33 _ HXB.out]; rfl)
      have a3 : w1.cell? ⟨w.heap.size, 3, none⟩ = some (.bool op) := (by rw [cell_of_row _ _ 3 _ 33 _ HXB.out]; rfl)
      go_wp2_with (go_at_call 94; (with_reducible refine HRC.out.mono ?_); rintro e w5 ⟨rfl, hb5⟩)
      go_ret
      exact ⟨by rw [HF.out]; rfl, HBA.out.trans (hb5.mono HBA.out.size)⟩
    | true =>
      rw [hr] at HRC
      have HR := Lib.hid hr
      clear hr h10
      go_enter Tryz.func74, Tryz.ntmps74
      go_upto_region 1 with (fail)
      generalize (w.alloc (.cells #[.int .i64 kd, .slice na nn nc, .slice ka kn kc, .bool op] 33)) = w1 at *
      have a0 : w1.cell? ⟨w.heap.size, 0, none⟩ = some (.int .i64 kd) := (by rw [cell_of_row _ _ 0 _ 33 _ HXB.out]; rfl)
      have a1 : w1.cell? ⟨w.heap.size, 1, none⟩ = some (.slice na nn nc) := (by rw [cell_of_row _ _ 1 _ 33 _ HXB.out]; rfl)
      have a2 : w1.cell? ⟨w.heap.size, 2, none⟩ = some (.slice ka kn kc) := (by rw [cell_of_row _ _ 2 _ 33 _ HXB.out]; rfl)
      have a3 : w1.cell? ⟨w.heap.size, 3, none⟩ = some (.bool op) := (by rw [cell_of_row _ _ 3 _ 33 _ HXB.out]; rfl)
      go_upto_region 3 with (go_at_call 94; (with_reducible refine HRC.out.mono ?_); rintro e w5 ⟨rfl, hb5⟩)
      clear a0 a1 a2 a3 HRC
      have HX5 := Lib.hid ((hb5.block w.heap.size (Array.getElem?_eq_some_iff.1 HXB.out).1).trans HXB.out)
      have HB5 := Lib.hid (HBA.out.trans (hb5.mono HBA.out.size))
      have HK5 := Lib.hid (HK0.out.on HB5.out)
      have HKL := Lib.hid HK0.out.1
      clear hb5
      have b0 : w5.cell? ⟨w.heap.size, 0, none⟩ = some (.int .i64 kd) := (by rw [cell_of_row _ _ 0 _ 33 _ HX5.out]; rfl)
      have b1 : w5.cell? ⟨w.heap.size, 1, none⟩ = some (.slice na nn nc) := (by rw [cell_of_row _ _ 1 _ 33 _ HX5.out]; rfl)
      have b2 : w5.cell? ⟨w.heap.size, 2, none⟩ = some (.slice ka kn kc) := (by rw [cell_of_row _ _ 2 _ 33 _ HX5.out]; rfl)
      have b3 : w5.cell? ⟨w.heap.size, 3, none⟩ = some (.bool op) := (by rw [cell_of_row _ _ 3 _ 33 _ HX5.out]; rfl)
      have hki : (kn : Int) ≤ 1000 := by omega
      go_wp2
      go_loop [22] (fun s22 => ∃ j : Nat, j ≤ kn ∧ s22 = .int .i64 (j : Int) ∧ Hid (∀ i k, i < j → KS[i]? = some k → 0 ≤ k ∧ k < n)) (fun s22 => kn - (intOf s22).toNat)
      case atStart => exact ⟨0, Nat.zero_le _, rfl, Lib.hid (fun i k h => by omega)⟩
      case round =>
        obtain ⟨j, hj, rfl, HA⟩ := hrel
        have hwj : IntKind.i64.wrap ((j : Int) + 1) = (j : Int) + 1 := by rw [IntKind.wrap_i64]; omega
        by_cases hjk : j < kn
        · have hjk2 : (j : Int) < kn := by omega
          obtain ⟨x, hx⟩ : ∃ x, KS[j]? = some x := ⟨_, List.getElem?_eq_getElem (by rw [← HKL.out]; exact hjk)⟩
          obtain ⟨gk, ok, rfl, hgk, hck⟩ := HK5.out.2.resolve_left (by omega)
          have ac := hck j x hx
          have HXX := Lib.hid hx
          clear hx hck hgk
          by_cases h0 : 0 ≤ x ∧ x < n
          · obtain ⟨h1, h2⟩ := h0
            go_wp2
            go_round
            case rel => exact ⟨j + 1, by omega, by go_num, Lib.hid (fun i k hi hk' => by
              by_cases he : i = j
              · subst he
                have := hk'.symm.trans HXX.out
                cases this
                exact ⟨h1, h2⟩
              · exact HA.out i k (by omega) hk')⟩
            case measure => simp [intOf]; omega
          · have hf : headB kd op n NS KS = false := by
              rw [HHB.out]
              have : (KS.all fun k => decide (0 ≤ k) && decide (k < n)) = false := List.all_eq_false.2 ⟨x, List.mem_of_getElem? HXX.out, by simp; omega⟩
              rw [this]
              simp
            have HF := Lib.hid hf
            clear hf
            rcases (by omega : x < 0 ∨ (0 ≤ x ∧ n ≤ x)) with h1 | ⟨h1, h2⟩
            · clear h0
              go_wp2
              go_ret
              exact ⟨by rw [HF.out]; rfl, HB5.out⟩
            · clear h0
              go_wp2
              go_ret
              exact ⟨by rw [HF.out]; rfl, HB5.out⟩
        · have hjk2 : ¬ (j : Int) < kn := by omega
          obtain rfl : kn = j := by omega
          have hall : (KS.all fun k => decide (0 ≤ k) && decide (k < n)) = true := List.all_eq_true.2 (fun x hx => by
            obtain ⟨i, hi⟩ := List.getElem?_of_mem hx
            have := HA.out i x (by rw [HKL.out]; exact (List.getElem?_eq_some_iff.1 hi).1) hi
            simp [this.1, this.2])
          have hf : headB kd op n NS KS = typB kd op nn kn NS := by
            rw [HHB.out, hall, HR.out, show (kd != 10) = true from by simp [H10.out], ← HN0.out.1, ← HKL.out]
            simp
          have HF := Lib.hid hf
          clear hf hall
          go_upto_region 10 with (go_at_call 95; refine (typed_any _ _ _ _ _ _ _ _ _).mono ?_; rintro e w6 ⟨rfl, hb6⟩)
          have HX7 : Hid ((w6.alloc (.cells #[.int .i64 kd, .int .i64 0, .string ⟨#[]⟩, .slice na nn nc, .slice ka kn kc, .bool op] 152)).heap[w.heap.size]? = some (.cells #[.int .i64 kd, .slice na nn nc, .slice ka kn kc, .bool op] 33 (0, 0))) := Lib.hid (by
            have h1 := (Array.getElem?_eq_some_iff.1 HX5.out).1
            rw [Below.heap_alloc _ _ _ (by have := hb6.size; omega), hb6.block _ h1]
            exact HX5.out)
          have HB7 : Hid (Below w.heap.size w (w6.alloc (.cells #[.int .i64 kd, .int .i64 0, .string ⟨#[]⟩, .slice na nn nc, .slice ka kn kc, .bool op] 152))) := Lib.hid ((HB5.out.trans (hb6.mono HB5.out.size)).alloc (Nat.le_trans HB5.out.size hb6.size) _)
          have HY7 : Hid ((w6.alloc (.cells #[.int .i64 kd, .int .i64 0, .string ⟨#[]⟩, .slice na nn nc, .slice ka kn kc, .bool op] 152)).heap[w6.heap.size]? = some (.cells #[.int .i64 kd, .int .i64 0, .string ⟨#[]⟩, .slice na nn nc, .slice ka kn kc, .bool op] 152 (0, 0))) := Lib.hid (heap_alloc_new w6 _)
          have HW7 : Hid (w.heap.size < w6.heap.size) := Lib.hid (Nat.lt_of_lt_of_le (Array.getElem?_eq_some_iff.1 HX5.out).1 hb6.size)
          have HL7 : Hid (w.heap.size < w6.heap.size) := Lib.hid (Nat.lt_of_lt_of_le (Array.getElem?_eq_some_iff.1 HX5.out).1 hb6.size)
          clear hb6 b0 b1 b2 b3
          generalize (w6.alloc (.cells #[.int .i64 kd, .int .i64 0, .string ⟨#[]⟩, .slice na nn nc, .slice ka kn kc, .bool op] 152)) = w7 at *
          generalize w6.heap.size = B7 at *
          have b0 : w7.cell? ⟨w.heap.size, 0, none⟩ = some (.int .i64 kd) := (by rw [cell_of_row _ _ 0 _ 33 _ HX7.out]; rfl)
          have b1 : w7.cell? ⟨w.heap.size, 1, none⟩ = some (.slice na nn nc) := (by rw [cell_of_row _ _ 1 _ 33 _ HX7.out]; rfl)
          have b2 : w7.cell? ⟨w.heap.size, 2, none⟩ = some (.slice ka kn kc) := (by rw [cell_of_row _ _ 2 _ 33 _ HX7.out]; rfl)
          have b3 : w7.cell? ⟨w.heap.size, 3, none⟩ = some (.bool op) := (by rw [cell_of_row _ _ 3 _ 33 _ HX7.out]; rfl)
          have lx8 : w.heap.size < w7.heap.size := (Array.getElem?_eq_some_iff.1 HX7.out).1
          have hfacts := four_new w7 (.cells #[.int .i64 0] 3) (.cells #[.int .i64 (kn : Int)] 3) (.cells #[.int .i64 1, .int .i64 0, .string ⟨#[]⟩, .int .i64 0, .int .u64 0, .slice none 0 0, .slice none 0 0, .slice none 0 0, .int .i64 15, .int .i64 0, .string ⟨#[]⟩, .int .i64 0, .int .u64 0, .slice none 0 0, .slice (some ⟨w7.heap.size, 0, none⟩) 1 1, .slice (some ⟨w7.heap.size + 1, 0, none⟩) 1 1] 156) (.cells #[.slice (some ⟨w7.heap.size + 1 + 1, 0, none⟩) 2 2, .slice none 0 0, .slice none 0 0] 108)
          have HF4 := Lib.hid hfacts
          clear hfacts
          go_upto_region 11 with (fail)
          clear b0 b1 b2 b3 lx8
          generalize ((((w7.alloc (.cells #[.int .i64 0] 3)).alloc (.cells #[.int .i64 (kn : Int)] 3)).alloc (.cells #[.int .i64 1, .int .i64 0, .string ⟨#[]⟩, .int .i64 0, .int .u64 0, .slice none 0 0, .slice none 0 0, .slice none 0 0, .int .i64 15, .int .i64 0, .string ⟨#[]⟩, .int .i64 0, .int .u64 0, .slice none 0 0, .slice (some ⟨w7.heap.size, 0, none⟩) 1 1, .slice (some ⟨w7.heap.size + 1, 0, none⟩) 1 1] 156)).alloc (.cells #[.slice (some ⟨w7.heap.size + 1 + 1, 0, none⟩) 2 2, .slice none 0 0, .slice none 0 0] 108)) = w8 at *
          obtain ⟨e1, e2, e3, e4, e5, e6⟩ := HF4.out
          have lb7 : B7 < w7.heap.size := (Array.getElem?_eq_some_iff.1 HY7.out).1
          have lx7 : w.heap.size < w7.heap.size := (Array.getElem?_eq_some_iff.1 HX7.out).1
          have hy8 := (e5.block B7 lb7).trans HY7.out
          have y4 : w8.cell? ⟨B7, 4, none⟩ = some (.slice ka kn kc) := by rw [cell_of_row _ _ 4 _ 152 _ hy8]; rfl
          have f4 : w8.frozen? ⟨B7, 4, none⟩ = false := frozen_of_row _ _ 4 _ 152 hy8
          have HY8 := Lib.hid hy8
          have HX8 := Lib.hid ((e5.block w.heap.size lx7).trans HX7.out)
          have HGK := Lib.hid e1
          have HGT := Lib.hid e2
          have HGN := Lib.hid e3
          have HTR := Lib.hid e4
          have HB8 := Lib.hid (HB7.out.trans (e5.mono HB7.out.size))
          have HS8 := Lib.hid e6
          have HL8 := Lib.hid (show B7 < w7.heap.size from lb7)
          clear e1 e2 e3 e4 e5 e6 lb7 lx7 hy8 HF4
          go_upto_region 12 with (fail)
          have HL0 : Hid (HeadLoop (w8.setCell ⟨B7, 4, none⟩ (.slice none 0 0)) (w8.setCell ⟨B7, 4, none⟩ (.slice none 0 0)) (w7.heap.size + 4) B7 (w7.heap.size + 1 + 1 + 1) kd na nn nc op (w7.heap.size + 1 + 1) 0 none 0 0 none 0 []) := Lib.hid (by
            have hb7 := HL8.out
            have hs8 := HS8.out
            refine ⟨?_, ?_, World.ownsRow_nil _ _ _ _, World.ownsRow_nil _ _ _ _, fun _ _ _ _ => rfl, by omega, by omega, by omega, by simp; omega, rfl, rfl, rfl⟩
            · rw [heap_setCell_same _ B7 4 _ 152 _ HY8.out]
              rfl
            · rw [Below.heap_setCell _ _ _ _ (by simp; omega)]
              exact HTR.out)
          have HN9 : Hid ((w8.setCell ⟨B7, 4, none⟩ (.slice none 0 0)).heap[w7.heap.size + 1 + 1]? = some (.cells (nodA w7.heap.size (w7.heap.size + 1)) 156 (0, 0)) ∧ (w8.setCell ⟨B7, 4, none⟩ (.slice none 0 0)).heap[w7.heap.size]? = some (.cells #[.int .i64 0] 3 (0, 0)) ∧ (w8.setCell ⟨B7, 4, none⟩ (.slice none 0 0)).heap[w7.heap.size + 1]? = some (.cells #[.int .i64 (kn : Int)] 3 (0, 0))) := Lib.hid (by
            have hb7 := HL8.out
            refine ⟨?_, ?_, ?_⟩
            · rw [Below.heap_setCell _ _ _ _ (by simp; omega)]; exact HGN.out
            · rw [Below.heap_setCell _ _ _ _ (by simp; omega)]; exact HGK.out
            · rw [Below.heap_setCell _ _ _ _ (by simp; omega)]; exact HGT.out)
          have HB9 : Hid (Below w.heap.size w (w8.setCell ⟨B7, 4, none⟩ (.slice none 0 0))) := Lib.hid (by
            have hb := HB8.out
            exact ⟨hb.os, hb.tape, hb.output, by simp; exact hb.size, fun i hi => by rw [Below.heap_setCell _ _ _ _ (by simp; have := HW7.out; omega)]; exact hb.block i hi⟩)
          have HS9 : Hid ((w8.setCell ⟨B7, 4, none⟩ (.slice none 0 0)).heap.size = w7.heap.size + 4) := Lib.hid (by simp; exact HS8.out)
          have c2 : (w8.setCell ⟨B7, 4, none⟩ (.slice none 0 0)).cell? ⟨w.heap.size, 2, none⟩ = some (.slice ka kn kc) := by
            rw [cell_of_row _ _ 2 _ 33 _ ((Below.heap_setCell _ _ _ _ (by simp; have := HL7.out; have := HW7.out; omega)).trans HX8.out)]; rfl
          have HB7L := Lib.hid HL8.out
          clear HX8 HB8 HY8 HS8 HTR HGK HGT HGN y4 f4 HX7 HY7 HB7
          generalize (w8.setCell ⟨B7, 4, none⟩ (.slice none 0 0)) = w9 at *
          generalize hR : w7.heap.size + 4 = R at *
          have HRR := Lib.hid hR
          clear hR
          go_wp2
          obtain ⟨i3, hi3, hz30, hz31, hz32⟩ := info_parts Tryz.info3
          have HI3 := Lib.hid hi3
          have HI30 := Lib.hid hz30
          have HI31 := Lib.hid hz31
          have HI32 := Lib.hid hz32
          obtain ⟨i4, hi4, hz40, hz41, hz42⟩ := info_parts Tryz.info152
          have HI4 := Lib.hid hi4
          have HI40 := Lib.hid hz40
          have HI41 := Lib.hid hz41
          have HI42 := Lib.hid hz42
          clear hi3 hz30 hz31 hz32 hi4 hz40 hz41 hz42 c2
          go_loopw [49] (fun s49 wr => ∃ (j : Nat) (aq : Option Addr) (cq : Nat) (ay : Option Addr) (cy : Nat), s49 = .int .i64 (j : Int) ∧ j ≤ kn ∧ Hid (HeadLoop w9 wr R B7 (w7.heap.size + 1 + 1 + 1) kd na nn nc op (w7.heap.size + 1 + 1) j aq cq j ay cy (tintsTo j))) (fun s49 _ => kn - (intOf s49).toNat)
          case atStart => exact ⟨0, none, 0, none, 0, rfl, Nat.zero_le _, HL0⟩
          case round =>
            obtain ⟨j, aq, cq, ay, cy, rfl, hj, HLP⟩ := hrel
            have y0 : wr.cell? ⟨B7, 0, none⟩ = some (.int .i64 kd) := (by rw [cell_of_row _ _ 0 _ 152 _ HLP.out.y]; rfl)
            have y1 : wr.cell? ⟨B7, 1, none⟩ = some (.int .i64 0) := (by rw [cell_of_row _ _ 1 _ 152 _ HLP.out.y]; rfl)
            have y2 : wr.cell? ⟨B7, 2, none⟩ = some (.string ⟨#[]⟩) := (by rw [cell_of_row _ _ 2 _ 152 _ HLP.out.y]; rfl)
            have y3 : wr.cell? ⟨B7, 3, none⟩ = some (.slice na nn nc) := (by rw [cell_of_row _ _ 3 _ 152 _ HLP.out.y]; rfl)
            have y4 : wr.cell? ⟨B7, 4, none⟩ = some (.slice aq j cq) := (by rw [cell_of_row _ _ 4 _ 152 _ HLP.out.y]; rfl)
            have y5 : wr.cell? ⟨B7, 5, none⟩ = some (.bool op) := (by rw [cell_of_row _ _ 5 _ 152 _ HLP.out.y]; rfl)
            have hwj : IntKind.i64.wrap ((j : Int) + 1) = (j : Int) + 1 := by rw [IntKind.wrap_i64]; omega
            have HJ := Lib.hid hj
            by_cases hjk : j < kn
            · have hjk2 : (j : Int) < kn := by omega
              clear y0 y1 y2 y3 y5
              go_upto_region 16 with (at_builtin; refine wpList_append_own _ rfl _ _ 31 rfl R 3 i3 (.int .i64 0) 1 8 Tryz.underlying31 HI3.out HI30.out HI31.out HI32.out rfl (by decide) _ j _ rfl (HLP.out.oq.alloc _) ⟨wr.heap.size, 0, none⟩ 1 1 [.int .i64 (j : Int)] rfl rfl (news_of (heap_alloc_new wr _)) (by simp [Value.oneCell']) (by unfold maxLen; omega) (by omega) (by have := HLP.out.size; simp; omega) ?_; intro v' w5 hown hgr hnil; obtain ⟨a2, cc2, rfl⟩ := own_slice hown; have f45 : w5.frozen? ⟨B7, 4, none⟩ = false := (by have := HLP.out.l7; have := HLP.out.size; exact frozen_of_row _ _ 4 _ 152 ((hgr.block B7 (by simp; omega) (fun e => (by have := ownsRow_ge HLP.out.oq B7 e.symm; omega))).trans ((Below.heap_alloc _ _ _ (by omega)).trans HLP.out.y))); have f46 : w5.cell? ⟨B7, 4, none⟩ = some (.slice aq j cq) := (by have := HLP.out.l7; have := HLP.out.size; rw [cell_of_row _ _ 4 _ 152 _ ((hgr.block B7 (by simp; omega) (fun e => (by have := ownsRow_ge HLP.out.oq B7 e.symm; omega))).trans ((Below.heap_alloc _ _ _ (by omega)).trans HLP.out.y))]; rfl))
              have HLQ := Lib.hid (HLP.out.stepq hown hgr)
              clear hown hgr hnil f45 f46 y4
              generalize (w5.setCell ⟨B7, 4, none⟩ (.slice a2 (j + 1) cc2)) = w6 at *
              have z1 : w6.cell? ⟨w7.heap.size + 1 + 1 + 1, 1, none⟩ = some (.slice ay j cy) := (by rw [cell_of_row _ _ 1 _ 108 _ HLQ.out.t]; rfl)
              go_wp2_with (at_builtin; refine wpList_append_own _ rfl _ _ 105 rfl R 152 i4 (.agg #[.int .i64 0, .int .i64 0, .string ByteArray.empty, .slice none 0 0, .slice none 0 0, .bool false]) 6 88 Tryz.underlying105 HI4.out HI40.out HI41.out HI42.out rfl (by decide) _ j _ rfl (HLQ.out.oy.alloc _) ⟨w6.heap.size, 0, none⟩ 1 1 tintC rfl rfl (news_of (heap_alloc_new w6 _)) (by simp [tintC, Value.oneCell']) (by unfold maxLen; omega) (by omega) (by have := HLQ.out.size; simp; omega) ?_; intro v2 w5 hown hgr hnil; obtain ⟨a3, cc3, rfl⟩ := own_slice hown; have f45 : w5.frozen? ⟨w7.heap.size + 1 + 1 + 1, 1, none⟩ = false := (by have := HLQ.out.l8; have := HLQ.out.size; exact frozen_of_row _ _ 1 _ 108 ((hgr.block (w7.heap.size + 1 + 1 + 1) (by simp; omega) (fun e => (by have := ownsRow_ge HLQ.out.oy _ e.symm; omega))).trans ((Below.heap_alloc _ _ _ (by omega)).trans HLQ.out.t))); have f46 : w5.cell? ⟨w7.heap.size + 1 + 1 + 1, 1, none⟩ = some (.slice ay j cy) := (by have := HLQ.out.l8; have := HLQ.out.size; rw [cell_of_row _ _ 1 _ 108 _ ((hgr.block (w7.heap.size + 1 + 1 + 1) (by simp; omega) (fun e => (by have := ownsRow_ge HLQ.out.oy _ e.symm; omega))).trans ((Below.heap_alloc _ _ _ (by omega)).trans HLQ.out.t))]; rfl))
              have HLR := Lib.hid (HLQ.out.stepy hown hgr)
              clear hown hgr hnil f45 f46 z1
              go_roundw
              case rel => exact ⟨j + 1, a2, cc2, a3, cc3, by go_num, by omega, HLR⟩
              case measure => simp [intOf]; omega
            · have hjk2 : ¬ (j : Int) < kn := by omega
              obtain rfl : kn = j := by omega
              have z1 : wr.cell? ⟨w7.heap.size + 1 + 1 + 1, 1, none⟩ = some (.slice ay kn cy) := (by rw [cell_of_row _ _ 1 _ 108 _ HLP.out.t]; rfl)
              go_upto_region 19 with (at_builtin; refine wpList_append_own _ rfl _ _ 105 rfl R 152 i4 (.agg #[.int .i64 0, .int .i64 0, .string ByteArray.empty, .slice none 0 0, .slice none 0 0, .bool false]) 6 88 Tryz.underlying105 HI4.out HI40.out HI41.out HI42.out rfl (by decide) _ kn _ rfl (HLP.out.oy.alloc _) ⟨wr.heap.size, 0, none⟩ 1 1 [.int .i64 kd, .int .i64 0, .string ⟨#[]⟩, .slice na nn nc, .slice aq kn cq, .bool op] rfl rfl (news_of (heap_alloc_new wr _)) (by simp [Value.oneCell']) (by unfold maxLen; omega) (by omega) (by have := HLP.out.size; simp; omega) ?_; intro v2 w5 hown hgr hnil; obtain ⟨a3, cc3, rfl⟩ := own_slice hown; have f45 : w5.frozen? ⟨w7.heap.size + 1 + 1 + 1, 1, none⟩ = false := (by have := HLP.out.l8; have := HLP.out.size; exact frozen_of_row _ _ 1 _ 108 ((hgr.block (w7.heap.size + 1 + 1 + 1) (by simp; omega) (fun e => (by have := ownsRow_ge HLP.out.oy _ e.symm; omega))).trans ((Below.heap_alloc _ _ _ (by omega)).trans HLP.out.t))); have f46 : w5.cell? ⟨w7.heap.size + 1 + 1 + 1, 1, none⟩ = some (.slice ay kn cy) := (by have := HLP.out.l8; have := HLP.out.size; rw [cell_of_row _ _ 1 _ 108 _ ((hgr.block (w7.heap.size + 1 + 1 + 1) (by simp; omega) (fun e => (by have := ownsRow_ge HLP.out.oy _ e.symm; omega))).trans ((Below.heap_alloc _ _ _ (by omega)).trans HLP.out.t))]; rfl))
              have HLR := Lib.hid (HLP.out.stepy hown hgr)
              clear hown hgr hnil f45 f46 z1 y0 y1 y2 y3 y4 y5
              generalize (w5.setCell ⟨w7.heap.size + 1 + 1 + 1, 1, none⟩ (.slice a3 (kn + 1) cc3)) = w6 at *
              obtain ⟨gy, rfl, hT⟩ := HLR.out.tree HN9.out.1 HN9.out.2.1 HN9.out.2.2 (by have := HRR.out; have := HB7L.out; omega) (by have := HRR.out; have := HB7L.out; omega) (by have := HRR.out; have := HB7L.out; omega)
              have z0 : w6.cell? ⟨w7.heap.size + 1 + 1 + 1, 0, none⟩ = some (.slice (some ⟨w7.heap.size + 1 + 1, 0, none⟩) 2 2) := (by rw [cell_of_row _ _ 0 _ 108 _ HLR.out.t]; rfl)
              have z1 : w6.cell? ⟨w7.heap.size + 1 + 1 + 1, 1, none⟩ = some (.slice (some ⟨gy, 0, none⟩) (kn + 1) cc3) := (by rw [cell_of_row _ _ 1 _ 108 _ HLR.out.t]; rfl)
              have z2 : w6.cell? ⟨w7.heap.size + 1 + 1 + 1, 2, none⟩ = some (.slice none 0 0) := (by rw [cell_of_row _ _ 2 _ 108 _ HLR.out.t]; rfl)
              have HB11 := Lib.hid (HLR.out.below HB9.out (by have := HW7.out; omega) (by have := HW7.out; have := HB7L.out; omega) (by have := HRR.out; have := HS9.out; omega))
              have HTC := Lib.hid (tree_check w6 _ _ _ _ cc3 _ _ _ _ _ NS _ _ _ hT hk (HN0.out.on HB11.out) hn HZ.out HR.out H10.out)
              clear hT
              generalize typB kd op nn kn NS = tb at *
              cases tb with
              | false =>
                go_wp2_with (go_at_call 96; (with_reducible refine HTC.out.mono ?_); rintro e w12 ⟨rfl, hb12⟩; simp only [errB])
                go_ret
                exact ⟨by rw [HF.out]; rfl, HB11.out.trans (hb12.mono HB11.out.size)⟩
              | true =>
                go_wp2_with (go_at_call 96; (with_reducible refine HTC.out.mono ?_); rintro e w12 ⟨rfl, hb12⟩; simp only [errB])
                go_ret
                exact ⟨by rw [HF.out]; rfl, HB11.out.trans (hb12.mono HB11.out.size)⟩
end Go.Proofs.YtifilhkkgkihpaaGreatDoor
set_option linter.unusedSimpArgs false
set_option linter.unusedVariables false
namespace Go.Proofs.YtifilhkkgkihpaaGreatDoor
open Go.RowKit
/-- a head as it lies. -/
structure Hd where
  kd : Int
  na : Option Addr
  nn : Nat
  nc : Nat
  NS : List ByteArray
  ka : Option Addr
  kn : Nat
  kc : Nat
  KS : List Int
  op : Bool
structure HdOk (w : World) (h : Hd) : Prop where
  names : NamesAt w h.na h.nn h.NS
  kids : IntsAt w h.ka h.kn h.KS
  nnb : h.nn ≤ 100000
  knb : h.kn ≤ 1000
  small : ∀ s ∈ h.NS, s.size ≤ 100000
structure HdIn (w : World) (b off i : Nat) (h : Hd) : Prop where
  c0 : w.cell? ⟨b, off + i * 4, none⟩ = some (.int .i64 h.kd)
  c1 : w.cell? ⟨b, off + i * 4 + 1, none⟩ = some (.slice h.na h.nn h.nc)
  c2 : w.cell? ⟨b, off + i * 4 + 2, none⟩ = some (.slice h.ka h.kn h.kc)
  c3 : w.cell? ⟨b, off + i * 4 + 3, none⟩ = some (.bool h.op)
  ok : HdOk w h
def HeadsIn (w : World) (la : Option Addr) (ln : Nat) (HS : List Hd) : Prop := ln = HS.length ∧ (ln = 0 ∨ ∃ g o, la = some ⟨g, o, none⟩ ∧ g < w.heap.size ∧ ∀ i h, HS[i]? = some h → HdIn w g o i h)
theorem HdOk.on {w w' : World} {h : Hd} (k : HdOk w h) (hb : Below w.heap.size w w') : HdOk w' h := ⟨k.names.on hb, k.kids.on hb, k.nnb, k.knb, k.small⟩
def graphB (root : Int) (HS : List Hd) : Bool := (decide (HS.length ≠ 0) && decide (HS.length ≤ 4096) && decide (0 ≤ root) && decide (root < (HS.length : Int))) && HS.all (fun h => headB h.kd h.op HS.length h.NS h.KS)
set_option maxRecDepth 20000 in
set_option maxHeartbeats 4000000 in
theorem check_bad (w : World) (la : Option Addr) (ln lc : Nat) (root : Int) (HS : List Hd) (hH : ln = HS.length) (hln : (ln : Int) ≤ maxLen) (hbad : ln = 0 ∨ (0 < ln ∧ 4096 < ln) ∨ ((0 < ln ∧ ln ≤ 4096) ∧ (root < 0 ∨ (0 ≤ root ∧ (ln : Int) ≤ root)))) :
    Calls Tryz.prog 38 #[.agg #[.slice la ln lc, .int .i64 root]] w (ErrPost w (graphB root HS)) := by
  have hf : graphB root HS = false := by
    unfold graphB
    rw [← hH]
    rcases hbad with h | ⟨_, h⟩ | ⟨⟨h0, h1⟩, h | ⟨h2, h⟩⟩
    · simp [h]
    · rw [show decide (ln ≤ 4096) = false from by simp; omega]; simp
    · rw [show decide (0 ≤ root) = false from by simp; omega]; simp
    · rw [show decide (root < (ln : Int)) = false from by simp; omega]; simp
  have HF := Lib.hid hf
  have hb0 : Below w.heap.size w (w.alloc (.cells #[.slice la ln lc, .int .i64 root] 36)) := (Below.refl _ _).alloc (Nat.le_refl _) _
  have HB := Lib.hid hb0
  clear hf hH hb0
  rcases hbad with rfl | ⟨h0, h1⟩ | ⟨⟨h0, h1⟩, h2 | ⟨h2, h3⟩⟩
  · go_enter Tryz.func38, Tryz.ntmps38
    go_wp2
    go_ret
    exact ⟨by rw [HF.out]; rfl, HB.out⟩
  · have hi : ¬ (ln : Int) = 0 := by omega
    have hi2 : (4096 : Int) < ln := by omega
    have hi3 : ((ln : Int) == 0) = false := by simpa using hi
    go_enter Tryz.func38, Tryz.ntmps38
    go_wp2
    go_ret
    exact ⟨by rw [HF.out]; rfl, HB.out⟩
  · have hi : ¬ (ln : Int) = 0 := by omega
    have hi2 : ¬ (4096 : Int) < ln := by omega
    have hi3 : ((ln : Int) == 0) = false := by simpa using hi
    go_enter Tryz.func38, Tryz.ntmps38
    go_wp2
    go_ret
    exact ⟨by rw [HF.out]; rfl, HB.out⟩
  · have hi : ¬ (ln : Int) = 0 := by omega
    have hi2 : ¬ (4096 : Int) < ln := by omega
    have hi3 : ((ln : Int) == 0) = false := by simpa using hi
    have hi4 : ¬ root < 0 := by omega
    go_enter Tryz.func38, Tryz.ntmps38
    go_wp2
    go_ret
    exact ⟨by rw [HF.out]; rfl, HB.out⟩
set_option maxRecDepth 20000 in
set_option maxHeartbeats 4000000 in
theorem check_any (w : World) (la : Option Addr) (ln lc : Nat) (root : Int) (HS : List Hd) (hH : HeadsIn w la ln HS) (hln : (ln : Int) ≤ maxLen) :
    Calls Tryz.prog 38 #[.agg #[.slice la ln lc, .int .i64 root]] w (ErrPost w (graphB root HS)) := by
  by_cases hbad : ln = 0 ∨ (0 < ln ∧ 4096 < ln) ∨ ((0 < ln ∧ ln ≤ 4096) ∧ (root < 0 ∨ (0 ≤ root ∧ (ln : Int) ≤ root)))
  · exact check_bad w la ln lc root HS hH.1 hln hbad
  have h0 : ¬ (ln : Int) = 0 := by omega
  have h1 : ¬ (4096 : Int) < ln := by omega
  have h2 : ¬ root < 0 := by omega
  have h3 : ¬ (ln : Int) ≤ root := by omega
  have h4 : ((ln : Int) == 0) = false := by simpa using h0
  have hf : graphB root HS = HS.all (fun h => headB h.kd h.op HS.length h.NS h.KS) := by
    unfold graphB
    rw [← hH.1, show (decide (ln ≠ 0) && decide (ln ≤ 4096) && decide (0 ≤ root) && decide (root < (ln : Int))) = true from by simp; omega]
    simp
  obtain ⟨g, o, rfl, hg, hc⟩ := hH.2.resolve_left (by omega)
  have HC := Lib.hid hc
  have HG := Lib.hid hg
  have HL := Lib.hid hH.1
  have HF := Lib.hid hf
  have hxb : (w.alloc (.cells #[.slice (some ⟨g, o, none⟩) ln lc, .int .i64 root] 36)).heap[w.heap.size]? = some (.cells #[.slice (some ⟨g, o, none⟩) ln lc, .int .i64 root] 36 (0, 0)) := heap_alloc_new w _
  have HXB := Lib.hid hxb
  have HBA : Hid (Below w.heap.size w (w.alloc (.cells #[.slice (some ⟨g, o, none⟩) ln lc, .int .i64 root] 36))) := Lib.hid ((Below.refl _ _).alloc (Nat.le_refl _) _)
  clear hbad hf hc hg hH hxb
  go_enter Tryz.func38, Tryz.ntmps38
  go_upto_region 1 with (fail)
  generalize (w.alloc (.cells #[.slice (some ⟨g, o, none⟩) ln lc, .int .i64 root] 36)) = w1 at *
  have a0 : w1.cell? ⟨w.heap.size, 0, none⟩ = some (.slice (some ⟨g, o, none⟩) ln lc) := (by rw [cell_of_row _ _ 0 _ 36 _ HXB.out]; rfl)
  have a1 : w1.cell? ⟨w.heap.size, 1, none⟩ = some (.int .i64 root) := (by rw [cell_of_row _ _ 1 _ 36 _ HXB.out]; rfl)
  go_wp2
  clear a0 a1
  have HXL : Hid (w.heap.size < w1.heap.size) := Lib.hid (Array.getElem?_eq_some_iff.1 HXB.out).1
  go_loopw [31] (fun s31 wr => ∃ j : Nat, s31 = .int .i64 (j : Int) ∧ j ≤ ln ∧ Hid (Below w1.heap.size w1 wr) ∧ Hid (∀ i h, i < j → HS[i]? = some h → headB h.kd h.op HS.length h.NS h.KS = true)) (fun s31 _ => ln - (intOf s31).toNat)
  case atStart => exact ⟨0, rfl, Nat.zero_le _, Lib.hid (Below.refl _ _), Lib.hid (fun i h hi => by omega)⟩
  case round =>
    obtain ⟨j, rfl, hj, HBR, HA⟩ := hrel
    have HJ := Lib.hid hj
    have hwj : IntKind.i64.wrap ((j : Int) + 1) = (j : Int) + 1 := by rw [IntKind.wrap_i64]; simp only [maxLen] at hln; omega
    by_cases hjk : j < ln
    · have hjk2 : (j : Int) < ln := by omega
      obtain ⟨h, hh⟩ : ∃ h, HS[j]? = some h := ⟨_, List.getElem?_eq_getElem (by rw [← HL.out]; exact hjk)⟩
      have HH := Lib.hid hh
      have hin := HC.out j h hh
      have HIN := Lib.hid hin
      have hbr : Below w.heap.size w wr := HBA.out.trans (HBR.out.mono HBA.out.size)
      have HBW := Lib.hid hbr
      have b0 : wr.cell? ⟨g, o + j * 4, none⟩ = some (.int .i64 h.kd) := (by rw [← hin.c0]; exact hbr.cell (p := ⟨g, o + j * 4, none⟩) HG.out)
      have b1 : wr.cell? ⟨g, o + j * 4 + 1, none⟩ = some (.slice h.na h.nn h.nc) := (by rw [← hin.c1]; exact hbr.cell (p := ⟨g, o + j * 4 + 1, none⟩) HG.out)
      have b2 : wr.cell? ⟨g, o + j * 4 + 2, none⟩ = some (.slice h.ka h.kn h.kc) := (by rw [← hin.c2]; exact hbr.cell (p := ⟨g, o + j * 4 + 2, none⟩) HG.out)
      have b3 : wr.cell? ⟨g, o + j * 4 + 3, none⟩ = some (.bool h.op) := (by rw [← hin.c3]; exact hbr.cell (p := ⟨g, o + j * 4 + 3, none⟩) HG.out)
      clear hin hbr hh
      have hy : (wr.alloc (.cells #[.int .i64 h.kd, .slice h.na h.nn h.nc, .slice h.ka h.kn h.kc, .bool h.op] 33)).heap[wr.heap.size]? = some (.cells #[.int .i64 h.kd, .slice h.na h.nn h.nc, .slice h.ka h.kn h.kc, .bool h.op] 33 (0, 0)) := heap_alloc_new wr _
      have HY := Lib.hid hy
      have HBY : Hid (Below w1.heap.size w1 (wr.alloc (.cells #[.int .i64 h.kd, .slice h.na h.nn h.nc, .slice h.ka h.kn h.kc, .bool h.op] 33))) := Lib.hid (HBR.out.alloc HBR.out.size _)
      clear hy
      go_upto_region 6 with (fail)
      clear b0 b1 b2 b3
      generalize (wr.alloc (.cells #[.int .i64 h.kd, .slice h.na h.nn h.nc, .slice h.ka h.kn h.kc, .bool h.op] 33)) = w2 at *
      have a0 : w2.cell? ⟨w.heap.size, 0, none⟩ = some (.slice (some ⟨g, o, none⟩) ln lc) := (by rw [cell_of_row _ _ 0 _ 36 _ ((HBY.out.block _ HXL.out).trans HXB.out)]; rfl)
      have b0 : w2.cell? ⟨wr.heap.size, 0, none⟩ = some (.int .i64 h.kd) := (by rw [cell_of_row _ _ 0 _ 33 _ HY.out]; rfl)
      have b1 : w2.cell? ⟨wr.heap.size, 1, none⟩ = some (.slice h.na h.nn h.nc) := (by rw [cell_of_row _ _ 1 _ 33 _ HY.out]; rfl)
      have b2 : w2.cell? ⟨wr.heap.size, 2, none⟩ = some (.slice h.ka h.kn h.kc) := (by rw [cell_of_row _ _ 2 _ 33 _ HY.out]; rfl)
      have b3 : w2.cell? ⟨wr.heap.size, 3, none⟩ = some (.bool h.op) := (by rw [cell_of_row _ _ 3 _ 33 _ HY.out]; rfl)
      have HBZ : Hid (Below w.heap.size w w2) := Lib.hid (HBA.out.trans (HBY.out.mono HBA.out.size))
      have HK := Lib.hid (head_any w2 h.kd h.na h.nn h.nc h.NS h.ka h.kn h.kc h.KS h.op (ln : Int) (HIN.out.ok.on HBZ.out).names (HIN.out.ok.on HBZ.out).kids HIN.out.ok.nnb HIN.out.ok.knb HIN.out.ok.small)
      have HHB : Hid (headB h.kd h.op (ln : Int) h.NS h.KS = headB h.kd h.op HS.length h.NS h.KS) := Lib.hid (by rw [HL.out])
      generalize headB h.kd h.op (ln : Int) h.NS h.KS = tb at *
      cases tb with
      | false =>
        have hf : graphB root HS = false := by
          rw [HF.out]
          exact List.all_eq_false.2 ⟨h, List.mem_of_getElem? HH.out, by rw [← HHB.out]; simp⟩
        have HFF := Lib.hid hf
        clear hf
        go_wp2_with (go_at_call 74; (with_reducible refine HK.out.mono ?_); rintro e w5 ⟨rfl, hb5⟩)
        go_ret
        exact ⟨by rw [HFF.out]; rfl, HBZ.out.trans (hb5.mono HBZ.out.size)⟩
      | true =>
        go_wp2_with (go_at_call 74; (with_reducible refine HK.out.mono ?_); rintro e w5 ⟨rfl, hb5⟩)
        go_roundw
        case rel => exact ⟨j + 1, by go_num, by omega, Lib.hid (HBY.out.trans (hb5.mono HBY.out.size)), Lib.hid (fun i h' hi hh' => by
          by_cases he : i = j
          · subst he
            have := hh'.symm.trans HH.out
            cases this
            exact HHB.out.symm
          · exact HA.out i h' (by omega) hh')⟩
        case measure => simp [intOf]; omega
    · have hjk2 : ¬ (j : Int) < ln := by omega
      obtain rfl : ln = j := by omega
      have hf : graphB root HS = true := by
        rw [HF.out]
        exact List.all_eq_true.2 (fun h hm => by
          obtain ⟨i, hi⟩ := List.getElem?_of_mem hm
          exact HA.out i h (by rw [HL.out]; exact (List.getElem?_eq_some_iff.1 hi).1) hi)
      have HFF := Lib.hid hf
      clear hf
      go_wp2
      go_ret
      exact ⟨by rw [HFF.out]; rfl, HBA.out.trans (HBR.out.mono HBA.out.size)⟩
end Go.Proofs.YtifilhkkgkihpaaGreatDoor
set_option linter.unusedSimpArgs false
set_option linter.unusedVariables false
namespace Go.Proofs.YtifilhkkgkihpaaGreatDoor
open Go.RowKit
/-- a head as it lies, without a bound. -/
structure HdRaw (w : World) (b off i : Nat) (h : Hd) : Prop where
  c0 : w.cell? ⟨b, off + i * 4, none⟩ = some (.int .i64 h.kd)
  c1 : w.cell? ⟨b, off + i * 4 + 1, none⟩ = some (.slice h.na h.nn h.nc)
  c2 : w.cell? ⟨b, off + i * 4 + 2, none⟩ = some (.slice h.ka h.kn h.kc)
  c3 : w.cell? ⟨b, off + i * 4 + 3, none⟩ = some (.bool h.op)
  names : NamesAt w h.na h.nn h.NS
  kids : IntsAt w h.ka h.kn h.KS
def HeadsRaw (w : World) (la : Option Addr) (ln : Nat) (HS : List Hd) : Prop := ln = HS.length ∧ (ln = 0 ∨ ∃ g o, la = some ⟨g, o, none⟩ ∧ g < w.heap.size ∧ ∀ i h, HS[i]? = some h → HdRaw w g o i h)
def fewH (h : Hd) : Bool := decide (h.kn ≤ 20) && decide (h.nn ≤ 20) && h.NS.all (fun s => decide (s.size ≤ 60))
def fewB (HS : List Hd) : Bool := HS.all fewH && decide (HS.length ≤ 25)
theorem HeadsRaw.bounded {w : World} {la : Option Addr} {ln : Nat} {HS : List Hd} (h : HeadsRaw w la ln HS) (hf : HS.all fewH = true) : HeadsIn w la ln HS := by
  refine ⟨h.1, ?_⟩
  rcases h.2 with h0 | ⟨g, o, e, hg, hc⟩
  · exact Or.inl h0
  · refine Or.inr ⟨g, o, e, hg, fun i x hx => ?_⟩
    have r := hc i x hx
    have hx2 := List.all_eq_true.1 hf x (List.mem_of_getElem? hx)
    unfold fewH at hx2
    simp only [Bool.and_eq_true, decide_eq_true_eq, List.all_eq_true] at hx2
    exact ⟨r.c0, r.c1, r.c2, r.c3, ⟨r.names, r.kids, by omega, by omega, fun s hs => by have := hx2.2 s hs; omega⟩⟩
end Go.Proofs.YtifilhkkgkihpaaGreatDoor
