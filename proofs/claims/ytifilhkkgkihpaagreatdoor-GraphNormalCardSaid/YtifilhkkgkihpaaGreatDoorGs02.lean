/- Plain and walks: the worlds of ArenaGraphs; arena.Len. -/
import Derived.Test.YtifilhkkgkihpaaGreatDoorGr12
import Derived.Test.YtifilhkkgkihpaaGreatDoorGr24
set_option linter.unusedSimpArgs false
set_option linter.unusedVariables false
set_option linter.unusedSimpArgs false
set_option linter.unusedVariables false
namespace Go.Proofs.YtifilhkkgkihpaaGreatDoor
open Go.RowKit
set_option maxRecDepth 20000 in
set_option maxHeartbeats 2000000 in
theorem len_any (w : World) (A : Nat) (la : Option Addr) (ln lc : Nat) (most : Int) (hA : w.heap[A]? = some (.cells #[.slice la ln lc, .int .i64 most] 84 (0, 0))) :
    Calls Tryz.prog 30 #[.pointer (some ⟨A, 0, none⟩)] w fun e w' => e = .returned (.int .i64 (ln : Int)) ∧ w' = w := by
  have a0 : w.cell? ⟨A, 0, none⟩ = some (.slice la ln lc) := (by rw [cell_of_row _ _ 0 _ 84 _ hA]; rfl)
  clear hA
  go_enter Tryz.func30, Tryz.ntmps30
  go_wp2
  go_ret
  exact ⟨rfl, rfl⟩
/-- kids told from ln on, the first j of them told from 0 on. -/
def bkTo (ln : Nat) (KS : List Int) (j : Nat) : List Int := KS.take j ++ (KS.drop j).map (· + (ln : Int))
theorem bkTo_zero (ln : Nat) (KS : List Int) : bkTo ln KS 0 = KS.map (· + (ln : Int)) := by simp [bkTo]
theorem bkTo_all (ln : Nat) (KS : List Int) : bkTo ln KS KS.length = KS := by simp [bkTo]
theorem bkTo_at (ln : Nat) (KS : List Int) (j : Nat) (x : Int) (h : KS[j]? = some x) : (bkTo ln KS j)[j]? = some (x + (ln : Int)) := by
  have hj := (List.getElem?_eq_some_iff.1 h).1
  unfold bkTo
  rw [List.getElem?_append_right (by simp; omega)]
  simp [Nat.min_eq_left (Nat.le_of_lt hj), h]
theorem bkTo_set (ln : Nat) (KS : List Int) (j : Nat) (x : Int) (h : KS[j]? = some x) : (bkTo ln KS j).set j x = bkTo ln KS (j + 1) := by
  have hj := (List.getElem?_eq_some_iff.1 h).1
  unfold bkTo
  rw [List.set_append_right _ _ (by simp; omega)]
  have hd : KS.drop j = x :: KS.drop (j + 1) := by
    rw [List.drop_eq_getElem_cons hj]
    congr 1
    exact (List.getElem?_eq_some_iff.1 h).2
  rw [hd, List.take_add_one, h]
  simp [Nat.min_eq_left (Nat.le_of_lt hj)]
/-- the law's own graph, as far as it is built: its box at B, its heads in a row of their own. -/
structure XSt (w5 wr : World) (B : Nat) (root : Int) (xa : Option Addr) (xc : Nat) (OS XS : List Hd) : Prop where
  below : Below w5.heap.size w5 wr
  ge : w5.heap.size ≤ B
  box : wr.heap[B]? = some (.cells #[.slice xa XS.length xc, .int .i64 root] 36 (0, 0))
  out : wr.ownsRow (B + 1) 33 4 (.slice xa XS.length xc) XS.length (XS.flatMap hcells)
  le : XS.length ≤ OS.length
  rel : ∀ (i : Nat) x y, OS[i]? = some x → XS[i]? = some y → y.kd = x.kd ∧ y.op = x.op ∧ y.NS = x.NS ∧ y.KS = x.KS
  heads : ∀ y ∈ XS, HdOk wr y
  sep : ∀ y ∈ XS, ∀ ad, blkOf y ad → B < ad.block ∧ ad.block < wr.heap.size ∧ (Value.slice xa XS.length xc).ownBlock ≠ some ad.block
section
variable {w5 wr w' : World} {B : Nat} {root : Int} {xa : Option Addr} {xc : Nat} {OS XS : List Hd}
theorem flat9_at : ∀ (YS : List Hd) (i j : Nat) (y : Hd), YS[i]? = some y → j < 9 → (YS.flatMap pcells)[i * 9 + j]? = (pcells y)[j]?
  | [], i, j, y, h, _ => by simp at h
  | z :: r, 0, j, y, h, hj => by
    obtain rfl : z = y := by simpa using h
    rw [List.flatMap_cons, List.getElem?_append_left (by simp [pcells]; omega)]
    simp
  | z :: r, i + 1, j, y, h, hj => by
    rw [List.flatMap_cons, List.getElem?_append_right (by simp [pcells]; omega)]
    have e : (i + 1) * 9 + j - (pcells z).length = i * 9 + j := by simp [pcells]; omega
    rw [e]
    exact flat9_at r i j y (by simpa using h) hj
theorem XSt.start (w : World) (OS : List Hd) : XSt w (w.alloc (.cells #[.slice none 0 0, .int .i64 0] 36)) w.heap.size 0 none 0 OS [] where
  below := (Below.refl _ _).alloc (Nat.le_refl _) _
  ge := Nat.le_refl _
  box := heap_alloc_new w _
  out := World.ownsRow_nil _ _ _ _
  le := Nat.zero_le _
  rel i x y _ h2 := by simp at h2
  heads y hy := by cases hy
  sep y hy := by cases hy
theorem XSt.on (h : XSt w5 wr B root xa xc OS XS) (hb : Below wr.heap.size wr w') : XSt w5 w' B root xa xc OS XS where
  below := h.below.trans (hb.mono h.below.size)
  ge := h.ge
  box := (hb.block B (Array.getElem?_eq_some_iff.1 h.box).1).trans h.box
  out := ownsRow_mono h.out (fun g hg => hb.block g (h.out.lt g hg).2)
  le := h.le
  rel := h.rel
  heads y hy := (h.heads y hy).on hb
  sep y hy ad e := by
    obtain ⟨h1, h2, h3⟩ := h.sep y hy ad e
    exact ⟨h1, Nat.lt_of_lt_of_le h2 hb.size, h3⟩
theorem XSt.step (h : XSt w5 wr B root xa xc OS XS) {x y : Hd} (hx : OS[XS.length]? = some x) (hm : y.kd = x.kd ∧ y.op = x.op ∧ y.NS = x.NS ∧ y.KS = x.KS) (hy : HdOk wr y) (hys : ∀ ad, blkOf y ad → B < ad.block ∧ ad.block < wr.heap.size ∧ (Value.slice xa XS.length xc).ownBlock ≠ some ad.block) {wd : World} (hd : Below wr.heap.size wr wd) {o : Obj} {w6 : World} {g6 c6 : Nat}
    (hg : (wd.alloc o).grownBy w6 (Value.slice xa XS.length xc).ownBlock) (hown : w6.ownsRow (B + 1) 33 4 (.slice (some ⟨g6, 0, none⟩) (XS.length + 1) c6) (XS.length + 1) (XS.flatMap hcells ++ hcells y)) (hw : (Value.slice xa XS.length xc).ownBlock = some g6 ∨ g6 = (wd.alloc o).heap.size) :
    XSt w5 (w6.setCell ⟨B, 0, none⟩ (.slice (some ⟨g6, 0, none⟩) (XS.length + 1) c6)) B root (some ⟨g6, 0, none⟩) c6 OS (XS ++ [y]) := by
  have hbd : Below wr.heap.size wr (wd.alloc o) := hd.alloc hd.size _
  have hBl : B < wr.heap.size := (Array.getElem?_eq_some_iff.1 h.box).1
  have hlo : ∀ b, b < wr.heap.size → (Value.slice xa XS.length xc).ownBlock ≠ some b → w6.heap[b]? = wr.heap[b]? := fun b hb e => by
    rw [hg.block b (by have := hbd.size; omega) (fun e' => e e'.symm)]
    exact hbd.block b hb
  have hB6 : w6.heap[B]? = some (.cells #[.slice xa XS.length xc, .int .i64 root] 36 (0, 0)) := (hlo B hBl (fun e => by have := (h.out.lt _ e).1; omega)).trans h.box
  have hsz : wr.heap.size ≤ w6.heap.size := Nat.le_trans hbd.size hg.size
  have hkeep : ∀ b, b < wr.heap.size → b ≠ B → (Value.slice xa XS.length xc).ownBlock ≠ some b → (w6.setCell ⟨B, 0, none⟩ (.slice (some ⟨g6, 0, none⟩) (XS.length + 1) c6)).heap[b]? = wr.heap[b]? := fun b hb h1 h2 => by
    rw [Below.heap_setCell _ _ _ _ h1]
    exact hlo b hb h2
  have hgb : ∀ b, b < wr.heap.size → (Value.slice xa XS.length xc).ownBlock ≠ some b → g6 ≠ b := fun b hb hne e => by
    rcases hw with r | r
    · exact hne (by rw [r, e])
    · have := hbd.size; omega
  have hhd : ∀ z : Hd, HdOk wr z → (∀ ad, blkOf z ad → B < ad.block ∧ ad.block < wr.heap.size ∧ (Value.slice xa XS.length xc).ownBlock ≠ some ad.block) → HdOk (w6.setCell ⟨B, 0, none⟩ (.slice (some ⟨g6, 0, none⟩) (XS.length + 1) c6)) z := fun z hz hs =>
    hd_kept hz (fun ad e _ => by obtain ⟨s1, s2, s3⟩ := hs ad e; exact hkeep _ s2 (by omega) s3) (by simpa using hsz)
  have hge := h.ge
  have e1 : (XS ++ [y]).length = XS.length + 1 := by simp
  have hbs := h.below.size
  exact {
    below := ⟨hg.os.trans (hbd.os.trans h.below.os), hg.tape.trans (hbd.tape.trans h.below.tape), hg.output.trans (hbd.output.trans h.below.output), by simpa using Nat.le_trans hbs hsz, fun b hb => by
      rw [hkeep b (by omega) (by omega) (fun e => by have := (h.out.lt _ e).1; omega)]
      exact h.below.block b hb⟩
    ge := hge
    box := by
      rw [e1, heap_setCell_same _ B 0 _ 36 _ hB6]
      rfl
    out := by
      rw [e1, List.flatMap_append]
      have := ownsRow_setCell_below hown (a := ⟨B, 0, none⟩) (Nat.lt_succ_self B) (.slice (some ⟨g6, 0, none⟩) (XS.length + 1) c6)
      simpa using this
    le := by
      have := (List.getElem?_eq_some_iff.1 hx).1
      rw [e1]; omega
    rel := fun i x' y' h1 h2 => by
      rcases Nat.lt_or_ge i XS.length with h3 | h3
      · rw [List.getElem?_append_left h3] at h2
        exact h.rel i x' y' h1 h2
      · rw [List.getElem?_append_right h3] at h2
        have h4 : i - XS.length = 0 := by
          have := (List.getElem?_eq_some_iff.1 h2).1
          simp at this
          omega
        obtain rfl : i = XS.length := by omega
        rw [hx] at h1
        cases h1
        simp at h2
        rw [← h2]
        exact hm
    heads := fun z hz => by
      rcases List.mem_append.1 hz with r | r
      · exact hhd z (h.heads z r) (h.sep z r)
      · obtain rfl : z = y := by simpa using r
        exact hhd z hy hys
    sep := fun z hz ad e => by
      have hall : B < ad.block ∧ ad.block < wr.heap.size ∧ (Value.slice xa XS.length xc).ownBlock ≠ some ad.block := by
        rcases List.mem_append.1 hz with r | r
        · exact h.sep z r ad e
        · obtain rfl : z = y := by simpa using r
          exact hys ad e
      obtain ⟨s1, s2, s3⟩ := hall
      exact ⟨s1, by simpa using Nat.lt_of_lt_of_le s2 hsz, fun e2 => hgb _ s2 s3 (by cases e2; rfl)⟩ }
theorem XSt.heads_in (h : XSt w5 wr B root xa xc OS XS) : HeadsIn wr xa XS.length XS := by
  refine ⟨rfl, ?_⟩
  by_cases h0 : XS.length = 0
  · exact .inl h0
  · obtain ⟨g, cap, e, h2, h3⟩ := h.out.form (by omega)
    injection e with e1 e2 e3
    subst e1
    refine .inr ⟨g, 0, rfl, h3, fun i x hi => ?_⟩
    have hil := (List.getElem?_eq_some_iff.1 hi).1
    have hc : ∀ j, j < 4 → wr.cell? ⟨g, 0 + i * 4 + j, none⟩ = (hcells x)[j]? := fun j hj => by
      rw [Nat.zero_add, h.out.cellAt (i * 4 + j) (by omega)]
      exact flat_at XS i j x hi hj
    exact ⟨hc 0 (by omega), hc 1 (by omega), hc 2 (by omega), hc 3 (by omega), h.heads x (List.mem_of_getElem? hi)⟩
theorem XSt.alk (h : XSt w5 wr B root xa xc OS XS) (hl : XS.length = OS.length) : Alk OS XS := ⟨hl, h.rel⟩
end
end Go.Proofs.YtifilhkkgkihpaaGreatDoor
