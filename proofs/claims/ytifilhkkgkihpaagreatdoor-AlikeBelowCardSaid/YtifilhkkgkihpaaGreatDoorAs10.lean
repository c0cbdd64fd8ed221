/- Plain: the worlds of normal. -/
import Derived.Test.YtifilhkkgkihpaaGreatDoorAs08
import Derived.Test.YtifilhkkgkihpaaGreatDoorAs09
set_option linter.unusedSimpArgs false
set_option linter.unusedVariables false
set_option linter.unusedSimpArgs false
set_option linter.unusedVariables false
namespace Go.Proofs.YtifilhkkgkihpaaGreatDoor
open Go.RowKit
def blks (B T M1 M2 B10 go : Nat) (sv : Value) : List Nat := B :: T :: M1 :: M2 :: B10 :: go :: sv.ownBlock.toList
def hcells (x : Hd) : List Value := [.int .i64 x.kd, .slice x.na x.nn x.nc, .slice x.ka x.kn x.kc, .bool x.op]
/-- a block that the head x leans on. -/
def blkOf (x : Hd) (ad : Addr) : Prop := (x.na = some ad ∧ x.nn ≠ 0) ∨ (x.ka = some ad ∧ x.kn ≠ 0)
structure NSt (w wr : World) (B T M1 M2 B10 : Nat) (cl : List Nat) (D1 : DataW Unit) (n1 lim : Nat) (ord : List Nat) (go co : Nat) (D2 : DataW Unit) (n2 : Nat) (OS : List Hd) (sv : Value) : Prop where
  below : Below w.heap.size w wr
  res : wr.heap[B]? = some (.cells #[.slice none 0 0, .int .i64 0] 36 (0, 0))
  cls : wr.heap[T]? = some (.cells (uRow (natI cl)) 3 (0, 0))
  one : wr.ownsMap Tryz.prog 3 (plainElem (H := Unit) Tryz.prog 3) M1 n1 D1
  num : wr.ownsMap Tryz.prog 3 (plainElem (H := Unit) Tryz.prog 3) M2 n2 D2
  ordr : wr.ownsRow w.heap.size 3 1 (.slice (some ⟨go, 0, none⟩) ord.length co) ord.length ((natI ord).map (Value.int .i64))
  box : wr.heap[B10]? = some (.cells #[sv, .int .i64 0] 36 (0, 0))
  out : wr.ownsRow w.heap.size 33 4 sv OS.length (OS.flatMap hcells)
  heads : ∀ x ∈ OS, HdOk wr x ∧ (x.na = none → x.nc = 0) ∧ (x.ka = none → x.kc = 0)
  nodup : (blks B T M1 M2 B10 go sv).Nodup
  ge : ∀ g ∈ blks B T M1 M2 B10 go sv, w.heap.size ≤ g
  hsep : ∀ x ∈ OS, ∀ ad, blkOf x ad → w.heap.size ≤ ad.block ∧ ad.block < lim ∧ ad.block ∉ blks B T M1 M2 B10 go sv
  limle : lim ≤ wr.heap.size
  limge : w.heap.size ≤ lim
section
variable {w wr w' : World} {B T M1 M2 B10 : Nat} {cl : List Nat} {D1 : DataW Unit} {n1 lim : Nat} {ord : List Nat} {go co : Nat} {D2 : DataW Unit} {n2 : Nat} {OS : List Hd} {sv : Value}
theorem NSt.lt (h : NSt w wr B T M1 M2 B10 cl D1 n1 lim ord go co D2 n2 OS sv) : ∀ g ∈ blks B T M1 M2 B10 go sv, g < wr.heap.size := by
  intro g hg
  unfold blks at hg
  simp only [List.mem_cons, Option.mem_toList] at hg
  rcases hg with rfl | rfl | rfl | rfl | rfl | rfl | hg
  · exact (Array.getElem?_eq_some_iff.1 h.res).1
  · exact (Array.getElem?_eq_some_iff.1 h.cls).1
  · exact h.one.lt
  · exact h.num.lt
  · exact (Array.getElem?_eq_some_iff.1 h.box).1
  · exact (h.ordr.lt _ rfl).2
  · exact (h.out.lt _ hg).2
theorem hd_kept {wr w' : World} {x : Hd} (h : HdOk wr x) (hg : ∀ ad, blkOf x ad → ad.block < wr.heap.size → w'.heap[ad.block]? = wr.heap[ad.block]?) (hs : wr.heap.size ≤ w'.heap.size) : HdOk w' x :=
  ⟨h.names.kept0 (fun ad e h0 hl => hg ad (.inl ⟨e, h0⟩) hl) hs, h.kids.kept0 (fun ad e h0 hl => hg ad (.inr ⟨e, h0⟩) hl) hs, h.nnb, h.knb, h.small⟩
theorem NSt.heads' (h : NSt w wr B T M1 M2 B10 cl D1 n1 lim ord go co D2 n2 OS sv) {row : Option Nat} (hg : wr.grownBy w' row) (hr : ∀ g, row = some g → g ∈ blks B T M1 M2 B10 go sv ∨ lim ≤ g) :
    ∀ x ∈ OS, HdOk w' x ∧ (x.na = none → x.nc = 0) ∧ (x.ka = none → x.kc = 0) := by
  intro x hx
  obtain ⟨h1, h2⟩ := h.heads x hx
  refine ⟨hd_kept h1 (fun ad e hl => hg.block _ hl (fun e2 => ?_)) hg.size, h2⟩
  obtain ⟨_, h4, h5⟩ := h.hsep x hx ad e
  rcases hr _ e2.symm with h6 | h6
  · exact h5 h6
  · omega
theorem NSt.nums (h : NSt w wr B T M1 M2 B10 cl D1 n1 lim ord go co D2 n2 OS sv) :
    (B ≠ T ∧ B ≠ M1 ∧ B ≠ M2 ∧ B ≠ B10 ∧ B ≠ go ∧ sv.ownBlock ≠ some B) ∧ (T ≠ M1 ∧ T ≠ M2 ∧ T ≠ B10 ∧ T ≠ go ∧ sv.ownBlock ≠ some T) ∧ (M1 ≠ M2 ∧ M1 ≠ B10 ∧ M1 ≠ go ∧ sv.ownBlock ≠ some M1) ∧ (M2 ≠ B10 ∧ M2 ≠ go ∧ sv.ownBlock ≠ some M2) ∧ (B10 ≠ go ∧ sv.ownBlock ≠ some B10) ∧ sv.ownBlock ≠ some go := by
  have := h.nodup
  unfold blks at this
  simp only [List.nodup_cons, List.mem_cons, Option.mem_toList, not_or] at this
  obtain ⟨⟨a1, a2, a3, a4, a5, a6⟩, ⟨b1, b2, b3, b4, b5⟩, ⟨c1, c2, c3, c4⟩, ⟨d1, d2, d3⟩, ⟨e1, e2⟩, f1, _⟩ := this
  exact ⟨⟨a1, a2, a3, a4, a5, a6⟩, ⟨b1, b2, b3, b4, b5⟩, ⟨c1, c2, c3, c4⟩, ⟨d1, d2, d3⟩, ⟨e1, e2⟩, f1⟩
theorem nodup_of {B T M1 M2 B10 go : Nat} {sv : Value} (h : (B ≠ T ∧ B ≠ M1 ∧ B ≠ M2 ∧ B ≠ B10 ∧ B ≠ go ∧ sv.ownBlock ≠ some B) ∧ (T ≠ M1 ∧ T ≠ M2 ∧ T ≠ B10 ∧ T ≠ go ∧ sv.ownBlock ≠ some T) ∧ (M1 ≠ M2 ∧ M1 ≠ B10 ∧ M1 ≠ go ∧ sv.ownBlock ≠ some M1) ∧ (M2 ≠ B10 ∧ M2 ≠ go ∧ sv.ownBlock ≠ some M2) ∧ (B10 ≠ go ∧ sv.ownBlock ≠ some B10) ∧ sv.ownBlock ≠ some go) : (blks B T M1 M2 B10 go sv).Nodup := by
  unfold blks
  simp only [List.nodup_cons, List.mem_cons, Option.mem_toList, not_or]
  obtain ⟨⟨a1, a2, a3, a4, a5, a6⟩, ⟨b1, b2, b3, b4, b5⟩, ⟨c1, c2, c3, c4⟩, ⟨d1, d2, d3⟩, ⟨e1, e2⟩, f1⟩ := h
  refine ⟨⟨a1, a2, a3, a4, a5, a6⟩, ⟨b1, b2, b3, b4, b5⟩, ⟨c1, c2, c3, c4⟩, ⟨d1, d2, d3⟩, ⟨e1, e2⟩, f1, ?_⟩
  cases sv.ownBlock <;> simp
theorem NSt.far (h : NSt w wr B T M1 M2 B10 cl D1 n1 lim ord go co D2 n2 OS sv) {row : Option Nat} (hg : wr.grownBy w' row) (hr : ∀ g, row = some g → g ∉ blks B T M1 M2 B10 go sv ∧ lim ≤ g ∧ w.heap.size ≤ g) : NSt w w' B T M1 M2 B10 cl D1 n1 lim ord go co D2 n2 OS sv := by
  have hl := h.lt
  have hk : ∀ g ∈ blks B T M1 M2 B10 go sv, w'.heap[g]? = wr.heap[g]? := fun g hm => hg.block g (hl g hm) (fun e => (hr g e.symm).1 hm)
  have hn : ∀ g ∈ blks B T M1 M2 B10 go sv, some g ≠ row := fun g hm e => (hr g e.symm).1 hm
  exact {
    below := below_grow h.below hg h.below.size (fun g e => (hr g e).2.2)
    res := (hk _ (by simp [blks])).trans h.res
    cls := (hk _ (by simp [blks])).trans h.cls
    one := h.one.kept hg (hn _ (by simp [blks]))
    num := h.num.kept hg (hn _ (by simp [blks]))
    ordr := h.ordr.kept hg (.inr (hn _ (by simp [blks])))
    box := (hk _ (by simp [blks])).trans h.box
    out := h.out.kept hg (by
      cases hs : sv.ownBlock with
      | none => exact .inl rfl
      | some g => exact .inr (hn g (by simp [blks, hs])))
    heads := h.heads' hg (fun g e => .inr (hr g e).2.1)
    nodup := h.nodup
    ge := h.ge
    hsep := h.hsep
    limle := Nat.le_trans h.limle hg.size
    limge := h.limge }
theorem grown_below {wr w' : World} (hb : Below wr.heap.size wr w') : wr.grownBy w' none := ⟨hb.os, hb.tape, hb.output, hb.size, fun q hq _ => hb.block q hq⟩
theorem NSt.on (h : NSt w wr B T M1 M2 B10 cl D1 n1 lim ord go co D2 n2 OS sv) (hb : Below wr.heap.size wr w') : NSt w w' B T M1 M2 B10 cl D1 n1 lim ord go co D2 n2 OS sv := h.far (grown_below hb) (fun g e => by cases e)
theorem NSt.num' (h : NSt w wr B T M1 M2 B10 cl D1 n1 lim ord go co D2 n2 OS sv) (hg : wr.grownBy w' (some M2)) {D2' : DataW Unit} {n2' : Nat} (hm : w'.ownsMap Tryz.prog 3 (plainElem (H := Unit) Tryz.prog 3) M2 n2' D2') : NSt w w' B T M1 M2 B10 cl D1 n1 lim ord go co D2' n2' OS sv := by
  have hl := h.lt
  obtain ⟨⟨a1, a2, a3, a4, a5, a6⟩, ⟨b1, b2, b3, b4, b5⟩, ⟨c1, c2, c3, c4⟩, ⟨d1, d2, d3⟩, ⟨e1, e2⟩, f1⟩ := h.nums
  have hk : ∀ g ∈ blks B T M1 M2 B10 go sv, g ≠ M2 → w'.heap[g]? = wr.heap[g]? := fun g hm hne => hg.block g (hl g hm) (fun e => hne (by cases e; rfl))
  exact {
    below := below_grow h.below hg h.below.size (fun g e => by cases e; exact h.ge _ (by simp [blks]))
    res := (hk _ (by simp [blks]) a3).trans h.res
    cls := (hk _ (by simp [blks]) b2).trans h.cls
    one := h.one.kept hg (fun e => c1 (by cases e; rfl))
    num := hm
    ordr := h.ordr.kept hg (.inr (fun e => d2 (by cases e; rfl)))
    box := (hk _ (by simp [blks]) (Ne.symm d1)).trans h.box
    out := h.out.kept hg (.inr d3)
    heads := h.heads' hg (fun g e => by cases e; exact .inl (by simp [blks]))
    nodup := h.nodup
    ge := h.ge
    hsep := h.hsep
    limle := Nat.le_trans h.limle hg.size
    limge := h.limge }
theorem NSt.ord' (h : NSt w wr B T M1 M2 B10 cl D1 n1 lim ord go co D2 n2 OS sv) (hg : wr.grownBy w' (some go)) {g' co' c : Nat} (hm : w'.ownsRow w.heap.size 3 1 (.slice (some ⟨g', 0, none⟩) (ord.length + 1) co') (ord.length + 1) ((natI ord).map (Value.int .i64) ++ [.int .i64 (c : Int)])) (hw : some go = some g' ∨ g' = wr.heap.size) : NSt w w' B T M1 M2 B10 cl D1 n1 lim (ord ++ [c]) g' co' D2 n2 OS sv := by
  have hl := h.lt
  obtain ⟨⟨a1, a2, a3, a4, a5, a6⟩, ⟨b1, b2, b3, b4, b5⟩, ⟨c1, c2, c3, c4⟩, ⟨d1, d2, d3⟩, ⟨e1, e2⟩, f1⟩ := h.nums
  have hk : ∀ g ∈ blks B T M1 M2 B10 go sv, g ≠ go → w'.heap[g]? = wr.heap[g]? := fun g hm hne => hg.block g (hl g hm) (fun e => hne (by cases e; rfl))
  have hmem : ∀ g, g ∈ blks B T M1 M2 B10 g' sv → g ∈ blks B T M1 M2 B10 go sv ∨ g = wr.heap.size := by
    intro g hg
    unfold blks at hg ⊢
    simp only [List.mem_cons] at hg ⊢
    rcases hg with r | r | r | r | r | r | r
    · exact .inl (.inl r)
    · exact .inl (.inr (.inl r))
    · exact .inl (.inr (.inr (.inl r)))
    · exact .inl (.inr (.inr (.inr (.inl r))))
    · exact .inl (.inr (.inr (.inr (.inr (.inl r)))))
    · subst r
      rcases hw with e | e
      · cases e
        exact .inl (.inr (.inr (.inr (.inr (.inr (.inl rfl))))))
      · exact .inr e
    · exact .inl (.inr (.inr (.inr (.inr (.inr (.inr r))))))
  exact {
    below := below_grow h.below hg h.below.size (fun g e => by cases e; exact h.ge _ (by simp [blks]))
    res := (hk _ (by simp [blks]) a5).trans h.res
    cls := (hk _ (by simp [blks]) b4).trans h.cls
    one := h.one.kept hg (fun e => c3 (by cases e; rfl))
    num := h.num.kept hg (fun e => d2 (by cases e; rfl))
    ordr := by simpa [natI] using hm
    box := (hk _ (by simp [blks]) e1).trans h.box
    out := h.out.kept hg (.inr f1)
    heads := h.heads' hg (fun g e => by cases e; exact .inl (by simp [blks]))
    nodup := by
      rcases hw with e | e
      · cases e; exact h.nodup
      · subst e
        have k1 := hl B (by simp [blks])
        have k2 := hl T (by simp [blks])
        have k3 := hl M1 (by simp [blks])
        have k4 := hl M2 (by simp [blks])
        have k5 := hl B10 (by simp [blks])
        have k6 : sv.ownBlock ≠ some wr.heap.size := fun e => Nat.lt_irrefl _ (hl _ (by simp [blks, e]))
        exact nodup_of ⟨⟨a1, a2, a3, a4, Nat.ne_of_lt k1, a6⟩, ⟨b1, b2, b3, Nat.ne_of_lt k2, b5⟩, ⟨c1, c2, Nat.ne_of_lt k3, c4⟩, ⟨d1, Nat.ne_of_lt k4, d3⟩, ⟨Nat.ne_of_lt k5, e2⟩, k6⟩
    ge := fun g hm2 => by
      rcases hmem g hm2 with r | r
      · exact h.ge g r
      · rw [r]; exact h.below.size
    hsep := fun x hx ad e => by
      obtain ⟨h1, h2, h3⟩ := h.hsep x hx ad e
      refine ⟨h1, h2, fun hm2 => ?_⟩
      rcases hmem _ hm2 with r | r
      · exact h3 r
      · have := h.limle; omega
    limle := Nat.le_trans h.limle hg.size
    limge := h.limge }
theorem NSt.out' (h : NSt w wr B T M1 M2 B10 cl D1 n1 lim ord go co D2 n2 OS sv) (hg : wr.grownBy w' sv.ownBlock) {g' c' : Nat} {x : Hd} (hm : w'.ownsRow w.heap.size 33 4 (.slice (some ⟨g', 0, none⟩) (OS.length + 1) c') (OS.length + 1) (OS.flatMap hcells ++ hcells x)) (hw : sv.ownBlock = some g' ∨ g' = wr.heap.size) (hx : HdOk wr x) (hxn : (x.na = none → x.nc = 0) ∧ (x.ka = none → x.kc = 0))
    (hxs : ∀ ad, blkOf x ad → w.heap.size ≤ ad.block ∧ ad.block < wr.heap.size ∧ ad.block ∉ blks B T M1 M2 B10 go sv) : NSt w (w'.setCell ⟨B10, 0, none⟩ (.slice (some ⟨g', 0, none⟩) (OS.length + 1) c')) B T M1 M2 B10 cl D1 n1 w'.heap.size ord go co D2 n2 (OS ++ [x]) (.slice (some ⟨g', 0, none⟩) (OS.length + 1) c') := by
  have hl := h.lt
  obtain ⟨⟨a1, a2, a3, a4, a5, a6⟩, ⟨b1, b2, b3, b4, b5⟩, ⟨c1, c2, c3, c4⟩, ⟨d1, d2, d3⟩, ⟨e1, e2⟩, f1⟩ := h.nums
  have hk : ∀ g ∈ blks B T M1 M2 B10 go sv, g ≠ B10 → some g ≠ sv.ownBlock → (w'.setCell ⟨B10, 0, none⟩ (.slice (some ⟨g', 0, none⟩) (OS.length + 1) c')).heap[g]? = wr.heap[g]? := fun g hm h1 h2 => by
    rw [Below.heap_setCell _ _ _ _ h1]
    exact hg.block g (hl g hm) h2
  have hgs := Val.grown_set w' B10 0 (.slice (some ⟨g', 0, none⟩) (OS.length + 1) c')
  have hmem : ∀ g, g ∈ blks B T M1 M2 B10 go (.slice (some ⟨g', 0, none⟩) (OS.length + 1) c') → g ∈ blks B T M1 M2 B10 go sv ∨ g = wr.heap.size := by
    intro g hg
    unfold blks at hg ⊢
    rw [show (Value.slice (some ⟨g', 0, none⟩) (OS.length + 1) c').ownBlock.toList = [g'] from rfl] at hg
    simp only [List.mem_cons, List.not_mem_nil, or_false, Option.mem_toList] at hg ⊢
    rcases hg with r | r | r | r | r | r | r
    · exact .inl (.inl r)
    · exact .inl (.inr (.inl r))
    · exact .inl (.inr (.inr (.inl r)))
    · exact .inl (.inr (.inr (.inr (.inl r))))
    · exact .inl (.inr (.inr (.inr (.inr (.inl r)))))
    · exact .inl (.inr (.inr (.inr (.inr (.inr (.inl r))))))
    · subst r
      rcases hw with e | e
      · exact .inl (.inr (.inr (.inr (.inr (.inr (.inr e))))))
      · exact .inr e
  have hbg : B10 ≠ g' := by
    rcases hw with e | e
    · exact fun e3 => e2 (by rw [e, e3])
    · rw [e]; exact Nat.ne_of_lt (hl B10 (by simp [blks]))
  have hhd : ∀ y : Hd, HdOk wr y → (∀ ad, blkOf y ad → ad.block < wr.heap.size → ad.block ∉ blks B T M1 M2 B10 go sv) → HdOk (w'.setCell ⟨B10, 0, none⟩ (.slice (some ⟨g', 0, none⟩) (OS.length + 1) c')) y := fun y hy hb => by
    refine hd_kept hy (fun ad e hlt => ?_) (by simpa using hg.size)
    have hb1 := hb ad e hlt
    rw [Below.heap_setCell _ _ _ _ (fun e4 => hb1 (by rw [e4]; simp [blks]))]
    exact hg.block _ hlt (fun e4 => hb1 (by simp [blks, ← e4]))
  exact {
    below := (below_grow h.below hg h.below.size (fun g e => h.ge _ (by simp [blks, e]))).setCell (p := ⟨B10, 0, none⟩) (h.ge _ (by simp [blks])) _
    res := (hk _ (by simp [blks]) a4 (Ne.symm a6)).trans h.res
    cls := (hk _ (by simp [blks]) b3 (Ne.symm b5)).trans h.cls
    one := (h.one.kept hg (Ne.symm c4)).kept hgs (fun e => c2 (by cases e; rfl))
    num := (h.num.kept hg (Ne.symm d3)).kept hgs (fun e => d1 (by cases e; rfl))
    ordr := (h.ordr.kept hg (.inr (fun e => f1 e.symm))).kept hgs (.inr (fun e => e1 (by cases e; rfl)))
    box := by
      have hb0 : w'.heap[B10]? = some (.cells #[sv, .int .i64 0] 36 (0, 0)) := (hg.block B10 (hl B10 (by simp [blks])) (Ne.symm e2)).trans h.box
      rw [heap_setCell_same _ B10 0 _ 36 _ hb0]
      rfl
    out := by
      have := hm.kept hgs (.inr (fun e => hbg (by cases e; rfl)))
      simpa using this
    heads := fun y hy => by
      rcases List.mem_append.1 hy with r | r
      · exact ⟨hhd y (h.heads y r).1 (fun ad e _ => (h.hsep y r ad e).2.2), (h.heads y r).2⟩
      · obtain rfl : y = x := by simpa using r
        exact ⟨hhd y hx (fun ad e _ => (hxs ad e).2.2), hxn⟩
    nodup := by
      have kk : ∀ y ∈ blks B T M1 M2 B10 go sv, sv.ownBlock ≠ some y → (Value.slice (some ⟨g', 0, none⟩) (OS.length + 1) c').ownBlock ≠ some y := fun y hy hne e => by
        have e' : g' = y := by cases e; rfl
        rcases hw with e3 | e3
        · exact hne (by rw [e3, e'])
        · have := hl y hy; omega
      exact nodup_of ⟨⟨a1, a2, a3, a4, a5, kk _ (by simp [blks]) a6⟩, ⟨b1, b2, b3, b4, kk _ (by simp [blks]) b5⟩, ⟨c1, c2, c3, kk _ (by simp [blks]) c4⟩, ⟨d1, d2, kk _ (by simp [blks]) d3⟩, ⟨e1, kk _ (by simp [blks]) e2⟩, kk _ (by simp [blks]) f1⟩
    ge := fun g hm2 => by
      rcases hmem g hm2 with r | r
      · exact h.ge g r
      · rw [r]; exact h.below.size
    hsep := fun y hy ad e => by
      rcases List.mem_append.1 hy with r | r
      · obtain ⟨h1, h2, h3⟩ := h.hsep y r ad e
        refine ⟨h1, Nat.lt_of_lt_of_le h2 (Nat.le_trans h.limle hg.size), fun hm2 => ?_⟩
        rcases hmem _ hm2 with r2 | r2
        · exact h3 r2
        · have := h.limle; omega
      · obtain rfl : y = x := by simpa using r
        obtain ⟨h1, h2, h3⟩ := hxs ad e
        refine ⟨h1, Nat.lt_of_lt_of_le h2 hg.size, fun hm2 => ?_⟩
        rcases hmem _ hm2 with r2 | r2
        · exact h3 r2
        · omega
    limle := by simp
    limge := Nat.le_trans h.below.size hg.size }
end
theorem blks_ord {B T M1 M2 B10 go : Nat} {sv : Value} {g' H : Nat} (hw : some go = some g' ∨ g' = H) : ∀ g ∈ blks B T M1 M2 B10 g' sv, g ∈ blks B T M1 M2 B10 go sv ∨ g = H := by
  intro g hg
  unfold blks at hg ⊢
  simp only [List.mem_cons] at hg ⊢
  rcases hg with r | r | r | r | r | r | r
  · exact .inl (.inl r)
  · exact .inl (.inr (.inl r))
  · exact .inl (.inr (.inr (.inl r)))
  · exact .inl (.inr (.inr (.inr (.inl r))))
  · exact .inl (.inr (.inr (.inr (.inr (.inl r)))))
  · subst r
    rcases hw with e | e
    · cases e
      exact .inl (.inr (.inr (.inr (.inr (.inr (.inl rfl))))))
    · exact .inr e
  · exact .inl (.inr (.inr (.inr (.inr (.inr (.inr r))))))
/-- within a round: the box of the head and its names as they were, its kids so far. -/
structure NIn (w w9 wr : World) (lim : Nat) (Q : List Nat) (gk ck : Nat) (L : List Nat) (KK : List Int) : Prop where
  keep : ∀ g ∈ Q, wr.heap[g]? = w9.heap[g]?
  q : ∀ g ∈ Q, lim ≤ g ∧ g < w9.heap.size ∧ g ∉ L ∧ g ≠ gk
  size : w9.heap.size ≤ wr.heap.size
  kids : wr.ownsRow w.heap.size 3 1 (.slice (some ⟨gk, 0, none⟩) KK.length ck) KK.length (KK.map (Value.int .i64))
  gkl : lim ≤ gk ∧ gk ∉ L
section
variable {w w9 wr w' : World} {lim : Nat} {Q : List Nat} {gk ck : Nat} {L : List Nat} {KK : List Int}
theorem NIn.row (h : NIn w w9 wr lim Q gk ck L KK) {row : Option Nat} (hg : wr.grownBy w' row) (hr : ∀ g, row = some g → g ∈ L) : NIn w w9 w' lim Q gk ck L KK where
  keep g hm := (hg.block g (Nat.lt_of_lt_of_le (h.q g hm).2.1 h.size) (fun e => (h.q g hm).2.2.1 (hr g e.symm))).trans (h.keep g hm)
  q := h.q
  size := Nat.le_trans h.size hg.size
  kids := h.kids.kept hg (.inr (fun e => h.gkl.2 (hr gk e.symm)))
  gkl := h.gkl
theorem NIn.on (h : NIn w w9 wr lim Q gk ck L KK) (hb : Below wr.heap.size wr w') : NIn w w9 w' lim Q gk ck L KK := h.row (grown_below hb) (fun g e => by cases e)
theorem NIn.new (h : NIn w w9 wr lim Q gk ck L KK) {L' : List Nat} (hl : ∀ g ∈ L', g ∈ L ∨ wr.heap.size ≤ g) : NIn w w9 wr lim Q gk ck L' KK where
  keep := h.keep
  q g hm := by
    obtain ⟨h1, h2, h3, h4⟩ := h.q g hm
    refine ⟨h1, h2, fun hx => ?_, h4⟩
    rcases hl g hx with r | r
    · exact h3 r
    · have := h.size; omega
  size := h.size
  kids := h.kids
  gkl := ⟨h.gkl.1, fun hx => by
    rcases hl gk hx with r | r
    · exact h.gkl.2 r
    · have := (h.kids.lt gk rfl).2; omega⟩
theorem NIn.kid (h : NIn w w9 wr lim Q gk ck L KK) (hlim : lim ≤ wr.heap.size) (hL : ∀ g ∈ L, g < wr.heap.size) (hg : wr.grownBy w' (some gk)) {g' c' : Nat} {z : Int} (hm : w'.ownsRow w.heap.size 3 1 (.slice (some ⟨g', 0, none⟩) (KK.length + 1) c') (KK.length + 1) (KK.map (Value.int .i64) ++ [.int .i64 z])) (hw : some gk = some g' ∨ g' = wr.heap.size) : NIn w w9 w' lim Q g' c' L (KK ++ [z]) where
  keep g hm := (hg.block g (Nat.lt_of_lt_of_le (h.q g hm).2.1 h.size) (fun e => (h.q g hm).2.2.2 (by cases e; rfl))).trans (h.keep g hm)
  q g hm := by
    obtain ⟨h1, h2, h3, h4⟩ := h.q g hm
    refine ⟨h1, h2, h3, fun e => ?_⟩
    rcases hw with e2 | e2
    · cases e2; exact h4 e
    · have := h.size; omega
  size := Nat.le_trans h.size hg.size
  kids := by simpa using hm
  gkl := by
    rcases hw with e2 | e2
    · cases e2; exact h.gkl
    · exact ⟨by omega, fun hx => by have := hL _ hx; omega⟩
end
section
variable {w w9 wr w' : World} {B T M1 M2 B10 : Nat} {cl : List Nat} {D1 : DataW Unit} {n1 lim : Nat} {ord : List Nat} {go co : Nat} {D2 : DataW Unit} {n2 : Nat} {OS : List Hd} {sv : Value} {Q : List Nat} {gk ck : Nat} {KK : List Int}
theorem kid_end (hS : NSt w wr B T M1 M2 B10 cl D1 n1 lim ord go co D2 n2 OS sv) (hI : NIn w w9 wr lim Q gk ck (blks B T M1 M2 B10 go sv) KK) {o : Obj} (hg : (wr.alloc o).grownBy w' (some gk)) {g' c' : Nat} {z : Int} (hm : w'.ownsRow w.heap.size 3 1 (.slice (some ⟨g', 0, none⟩) (KK.length + 1) c') (KK.length + 1) (KK.map (Value.int .i64) ++ [.int .i64 z])) (hw : some gk = some g' ∨ g' = (wr.alloc o).heap.size) :
    NSt w w' B T M1 M2 B10 cl D1 n1 lim ord go co D2 n2 OS sv ∧ NIn w w9 w' lim Q g' c' (blks B T M1 M2 B10 go sv) (KK ++ [z]) := by
  have hb : Below wr.heap.size wr (wr.alloc o) := (Below.refl _ _).alloc (Nat.le_refl _) _
  have hS2 := hS.on hb
  have hI2 := hI.on hb
  exact ⟨hS2.far hg (fun g e => by cases e; exact ⟨hI.gkl.2, hI.gkl.1, (hI.kids.lt _ rfl).1⟩), hI2.kid hS2.limle hS2.lt hg hm hw⟩
theorem ord_end (hS : NSt w wr B T M1 M2 B10 cl D1 n1 lim ord go co D2 n2 OS sv) (hI : NIn w w9 wr lim Q gk ck (blks B T M1 M2 B10 go sv) KK) {o : Obj} (hg : (wr.alloc o).grownBy w' (some go)) {g' c' c : Nat} (hm : w'.ownsRow w.heap.size 3 1 (.slice (some ⟨g', 0, none⟩) (ord.length + 1) c') (ord.length + 1) ((natI ord).map (Value.int .i64) ++ [.int .i64 (c : Int)])) (hw : some go = some g' ∨ g' = (wr.alloc o).heap.size) :
    NSt w w' B T M1 M2 B10 cl D1 n1 lim (ord ++ [c]) g' c' D2 n2 OS sv ∧ NIn w w9 w' lim Q gk ck (blks B T M1 M2 B10 g' sv) KK := by
  have hb : Below wr.heap.size wr (wr.alloc o) := (Below.refl _ _).alloc (Nat.le_refl _) _
  have hS2 := hS.on hb
  have hI2 : NIn w w9 (wr.alloc o) lim Q gk ck (blks B T M1 M2 B10 g' sv) KK := (hI.on hb).new (fun g hx => (blks_ord hw g hx).imp id (fun e => Nat.le_of_eq e.symm))
  have hI3 : NIn w w9 w' lim Q gk ck (blks B T M1 M2 B10 go sv) KK := (hI.on hb).row hg (fun g e => by cases e; simp [blks])
  refine ⟨hS2.ord' hg hm hw, ⟨hI3.keep, hI2.q, hI3.size, hI3.kids, hI2.gkl⟩⟩
theorem num_end (hS : NSt w wr B T M1 M2 B10 cl D1 n1 lim ord go co D2 n2 OS sv) (hI : NIn w w9 wr lim Q gk ck (blks B T M1 M2 B10 go sv) KK) (hg : wr.grownBy w' (some M2)) {D2' : DataW Unit} {n2' : Nat} (hm : w'.ownsMap Tryz.prog 3 (plainElem (H := Unit) Tryz.prog 3) M2 n2' D2') : NSt w w' B T M1 M2 B10 cl D1 n1 lim ord go co D2' n2' OS sv ∧ NIn w w9 w' lim Q gk ck (blks B T M1 M2 B10 go sv) KK :=
  ⟨hS.num' hg hm, hI.row hg (fun g e => by cases e; simp [blks])⟩
/-- at the start of a round: the head's box, its names cloned. -/
theorem NIn.start (hS : NSt w wr B T M1 M2 B10 cl D1 n1 lim ord go co D2 n2 OS sv) {w8 : World} (hb8 : Below wr.heap.size wr w8) (hx : wr.heap.size < w8.heap.size) {a7 : Option Addr} {nn : Nat} (hq : ∀ ad, a7 = some ad → nn ≠ 0 → wr.heap.size < ad.block ∧ ad.block < w8.heap.size) (h9 : w9 = w8.alloc (.cells #[] 3)) :
    NIn w w9 w9 lim (wr.heap.size :: (if nn = 0 then [] else (a7.map (fun ad => ad.block)).toList)) w8.heap.size 0 (blks B T M1 M2 B10 go sv) [] := by
  have hl := hS.lt
  have hll := hS.limle
  refine ⟨fun _ _ => rfl, fun g hm => ?_, Nat.le_refl _, ⟨rfl, .inr ⟨w8.heap.size, 0, #[], rfl, Nat.le_trans hS.below.size hb8.size, by rw [h9]; exact heap_alloc_new w8 _, Nat.le_refl _, by unfold maxLen; omega, rfl, rfl⟩⟩, ⟨by omega, fun hm => by have := hl _ hm; omega⟩⟩
  have hs9 : w9.heap.size = w8.heap.size + 1 := by rw [h9]; simp
  rcases List.mem_cons.1 hm with r | r
  · exact ⟨by omega, by omega, fun hx => by have := hl _ hx; omega, by omega⟩
  · split at r
    · cases r
    · next h0 =>
      cases a7 with
      | none => simp at r
      | some ad =>
        obtain rfl : g = ad.block := by simpa using r
        obtain ⟨h3, h4⟩ := hq ad rfl h0
        exact ⟨by omega, by omega, fun hx => by have := hl _ hx; omega, by omega⟩
end
section
variable {w w9 wr w' : World} {B T M1 M2 B10 : Nat} {cl : List Nat} {D1 : DataW Unit} {n1 lim : Nat} {ord : List Nat} {go co : Nat} {D2 : DataW Unit} {n2 : Nat} {OS : List Hd} {sv : Value} {Q : List Nat} {gk ck : Nat} {KK : List Int}
/-- at the end of a round: the kids are put into the head's box. -/
theorem box_end (hS : NSt w wr B T M1 M2 B10 cl D1 n1 lim ord go co D2 n2 OS sv) (hI : NIn w w9 wr lim Q gk ck (blks B T M1 M2 B10 go sv) KK) {hb nn c7 kn kc : Nat} {kd : Int} {op : Bool} {a7 ka : Option Addr} {NS : List ByteArray} (hY : w9.heap[hb]? = some (.cells #[.int .i64 kd, .slice a7 nn c7, .slice ka kn kc, .bool op] 33 (0, 0))) (hN : NamesAt w9 a7 nn NS) (hQ : hb ∈ Q) (hQ2 : ∀ ad, a7 = some ad → nn ≠ 0 → ad.block ∈ Q ∧ ad.block ≠ hb) (hnn : nn ≤ 100000) (hkk : KK.length ≤ 1000) (hss : ∀ s ∈ NS, s.size ≤ 100000):
    wr.heap[hb]? = some (.cells #[.int .i64 kd, .slice a7 nn c7, .slice ka kn kc, .bool op] 33 (0, 0)) ∧
    NSt w (wr.setCell ⟨hb, 2, none⟩ (.slice (some ⟨gk, 0, none⟩) KK.length ck)) B T M1 M2 B10 cl D1 n1 lim ord go co D2 n2 OS sv ∧
    (wr.setCell ⟨hb, 2, none⟩ (.slice (some ⟨gk, 0, none⟩) KK.length ck)).heap[hb]? = some (.cells #[.int .i64 kd, .slice a7 nn c7, .slice (some ⟨gk, 0, none⟩) KK.length ck, .bool op] 33 (0, 0)) ∧
    HdOk (wr.setCell ⟨hb, 2, none⟩ (.slice (some ⟨gk, 0, none⟩) KK.length ck)) ⟨kd, a7, nn, c7, NS, some ⟨gk, 0, none⟩, KK.length, ck, KK, op⟩ ∧
    (∀ ad, blkOf ⟨kd, a7, nn, c7, NS, some ⟨gk, 0, none⟩, KK.length, ck, KK, op⟩ ad → w.heap.size ≤ ad.block ∧ ad.block < wr.heap.size ∧ ad.block ∉ blks B T M1 M2 B10 go sv) := by
  have hYr := (hI.keep hb hQ).trans hY
  obtain ⟨q1, q2, q3, q4⟩ := hI.q hb hQ
  have hgk := hI.kids.lt gk rfl
  have hge := hS.limge
  refine ⟨hYr, hS.far (Val.grown_set wr hb 2 _) (fun g e => by cases e; exact ⟨q3, q1, Nat.le_trans hge q1⟩), ?_, ⟨?_, ?_, hnn, hkk, hss⟩, ?_⟩
  · rw [heap_setCell_same _ hb 2 _ 33 _ hYr]
    rfl
  · have hNr : NamesAt wr a7 nn NS := hN.kept0 (fun ad e h0 _ => hI.keep _ (hQ2 ad e h0).1) hI.size
    exact hNr.kept0 (fun ad e h0 _ => Below.heap_setCell _ _ _ _ (hQ2 ad e h0).2) (by simp)
  · refine ⟨rfl, .inr ⟨gk, 0, rfl, by simpa using hgk.2, fun i k hik => ?_⟩⟩
    have hc := hI.kids.cellAt i (by have h5 : i < KK.length := (List.getElem?_eq_some_iff.1 hik).1; omega)
    rw [List.getElem?_map, hik] at hc
    rw [← World.cell?_of_block (w := wr) (w' := wr.setCell ⟨hb, 2, none⟩ (.slice (some ⟨gk, 0, none⟩) KK.length ck)) (a := ⟨gk, i, none⟩) (Below.heap_setCell _ _ _ _ (fun e => q4 e.symm))] at hc
    simpa using hc
  · intro ad e
    rcases e with ⟨e, h0⟩ | ⟨e, h0⟩
    · obtain ⟨h1, h2⟩ := hQ2 ad e h0
      obtain ⟨p1, p2, p3, p4⟩ := hI.q _ h1
      exact ⟨Nat.le_trans hge p1, Nat.lt_of_lt_of_le p2 hI.size, p3⟩
    · cases e
      exact ⟨hgk.1, hgk.2, hI.gkl.2⟩
/-- at the end of a round: the head lies in the row of heads. -/
theorem out_end {w12 w6 : World} {x : Hd} {o : Obj} (hS : NSt w w12 B T M1 M2 B10 cl D1 n1 lim ord go co D2 n2 OS sv) (hx : HdOk w12 x) (hxn : (x.na = none → x.nc = 0) ∧ (x.ka = none → x.kc = 0)) (hxs : ∀ ad, blkOf x ad → w.heap.size ≤ ad.block ∧ ad.block < w12.heap.size ∧ ad.block ∉ blks B T M1 M2 B10 go sv) {wd : World} (hd : Below w12.heap.size w12 wd) {g' c' : Nat}
    (hg : (wd.alloc o).grownBy w6 sv.ownBlock) (hm : w6.ownsRow w.heap.size 33 4 (.slice (some ⟨g', 0, none⟩) (OS.length + 1) c') (OS.length + 1) (OS.flatMap hcells ++ hcells x)) (hw : sv.ownBlock = some g' ∨ g' = (wd.alloc o).heap.size) :
    NSt w (w6.setCell ⟨B10, 0, none⟩ (.slice (some ⟨g', 0, none⟩) (OS.length + 1) c')) B T M1 M2 B10 cl D1 n1 w6.heap.size ord go co D2 n2 (OS ++ [x]) (.slice (some ⟨g', 0, none⟩) (OS.length + 1) c') := by
  have hb : Below w12.heap.size w12 (wd.alloc o) := hd.alloc hd.size _
  exact (hS.on hb).out' hg hm hw (hx.on hb) hxn (fun ad e => by
    obtain ⟨h1, h2, h3⟩ := hxs ad e
    exact ⟨h1, Nat.lt_of_lt_of_le h2 hb.size, h3⟩)
end
structure NPl (HS : List Hd) (cl : List Nat) (root : Nat) (ord : List Nat) (OS : List Hd) (KK : List Int) : Prop where
  le : OS.length ≤ ord.length
  heads : ∀ (k : Nat) x, OS[k]? = some x → NHead HS cl ord (ord.getD k 0) x
  grow : growF (OS.flatMap (fun x => x.KS) ++ KK) 1 = some ord.length
  nodup : ord.Nodup
  lt : ∀ c ∈ ord, c < 100
  first : ord[0]? = some (cl.getD root 0)
  of : ∀ c ∈ ord, ∃ k, k < HS.length ∧ cl.getD k 0 = c
  fwd : ∀ k, k < OS.length → ∃ c, growF ((OS.take k).flatMap (fun x => x.KS)) 1 = some c ∧ k < c
section
variable {HS : List Hd} {cl : List Nat} {root : Nat} {ord : List Nat} {OS : List Hd} {KK : List Int}
theorem NPl.known (h : NPl HS cl root ord OS KK) {c q : Nat} (hq : idxN ord c = some q) : NPl HS cl root ord OS (KK ++ [(q : Int)]) where
  le := h.le
  heads := h.heads
  grow := by
    rw [← List.append_assoc, growF_app, h.grow]
    have hlt := (List.getElem?_eq_some_iff.1 (idxN_some ord c q hq)).1
    show growF [(q : Int)] ord.length = some ord.length
    unfold growF
    rw [if_pos (by omega)]
    rfl
  nodup := h.nodup
  lt := h.lt
  first := h.first
  of := h.of
  fwd := h.fwd
theorem NPl.fresh (h : NPl HS cl root ord OS KK) {c : Nat} (hc : idxN ord c = none) (h100 : c < 100) (hof : ∃ k, k < HS.length ∧ cl.getD k 0 = c) : NPl HS cl root (ord ++ [c]) OS (KK ++ [(ord.length : Int)]) where
  le := by have := h.le; simp; omega
  heads k x hx := by
    have hk := (List.getElem?_eq_some_iff.1 hx).1
    have := h.le
    rw [List.getD_eq_getElem?_getD, List.getElem?_append_left (by omega), ← List.getD_eq_getElem?_getD]
    exact (h.heads k x hx).app [c]
  grow := by
    rw [← List.append_assoc, growF_app, h.grow]
    show growF [(ord.length : Int)] ord.length = some (ord ++ [c]).length
    unfold growF
    rw [if_neg (by omega), if_pos rfl, List.length_append]
    rfl
  nodup := by
    rw [List.nodup_append]
    refine ⟨h.nodup, by simp, fun a ha b hb e => ?_⟩
    obtain rfl : b = c := by simpa using hb
    exact idxN_none _ _ hc (e ▸ ha)
  lt x hx := by
    rcases List.mem_append.1 hx with r | r
    · exact h.lt x r
    · rw [List.mem_singleton.1 r]; exact h100
  first := by
    rw [List.getElem?_append_left (List.getElem?_eq_some_iff.1 h.first).1]
    exact h.first
  of x hx := by
    rcases List.mem_append.1 hx with r | r
    · exact h.of x r
    · rw [List.mem_singleton.1 r]; exact hof
  fwd := h.fwd
theorem NPl.now (h : NPl HS cl root ord OS []) (hl : OS.length < ord.length) : ∃ c, growF (OS.flatMap (fun x => x.KS)) 1 = some c ∧ OS.length < c := ⟨_, by simpa using h.grow, hl⟩
theorem NPl.close (h : NPl HS cl root ord OS KK) {x : Hd} (hnow : ∃ c, growF (OS.flatMap (fun x => x.KS)) 1 = some c ∧ OS.length < c) (hl : OS.length < ord.length) (hx : NHead HS cl ord (ord.getD OS.length 0) x) (hk : x.KS = KK) : NPl HS cl root ord (OS ++ [x]) [] where
  le := by simp; omega
  heads k y hy := by
    rcases Nat.lt_or_ge k OS.length with h1 | h1
    · rw [List.getElem?_append_left h1] at hy
      exact h.heads k y hy
    · rw [List.getElem?_append_right h1] at hy
      have hk0 : k - OS.length = 0 := by
        have := (List.getElem?_eq_some_iff.1 hy).1
        simp at this
        omega
      obtain rfl : k = OS.length := by omega
      simp at hy
      rw [← hy]
      exact hx
  grow := by
    have := h.grow
    rw [← hk] at this
    simpa using this
  nodup := h.nodup
  lt := h.lt
  first := h.first
  of := h.of
  fwd k hk := by
    rcases Nat.lt_or_ge k OS.length with h1 | h1
    · rw [List.take_append_of_le_length (by omega)]
      exact h.fwd k h1
    · have hk2 : k = OS.length := by simp at hk; omega
      rw [hk2, List.take_append_of_le_length (Nat.le_refl _), List.take_length]
      exact hnow
end
def KdI (cl ord : List Nat) (h : Hd) (p : Nat) (KK : List Int) : Prop := KK = (h.KS.take p).map (fun k => posN ord (cl.getD k.toNat 0)) ∧ ∀ k ∈ h.KS.take p, (idxN ord (cl.getD k.toNat 0)).isSome = true
theorem KdI.app {cl ord : List Nat} {h : Hd} {p : Nat} {KK : List Int} (k : KdI cl ord h p KK) (m : List Nat) : KdI cl (ord ++ m) h p KK :=
  ⟨by rw [k.1]; exact List.map_congr_left (fun a ha => (posN_app m (k.2 a ha)).1.symm), fun a ha => (posN_app m (k.2 a ha)).2⟩
theorem KdI.step {cl ord : List Nat} {h : Hd} {p q : Nat} {KK : List Int} {k : Int} (hk : KdI cl ord h p KK) (hp : h.KS[p]? = some k) (hq : idxN ord (cl.getD k.toNat 0) = some q) : KdI cl ord h (p + 1) (KK ++ [(q : Int)]) := by
  unfold KdI
  rw [List.take_add_one, hp]
  simp only [Option.toList, List.map_append, List.map_cons, List.map_nil]
  refine ⟨by rw [hk.1]; congr 2; unfold posN; rw [hq]; rfl, fun a ha => ?_⟩
  rcases List.mem_append.1 ha with r | r
  · exact hk.2 a r
  · rw [List.mem_singleton.1 r, hq]; rfl
theorem flat_at : ∀ (OS : List Hd) (i j : Nat) (x : Hd), OS[i]? = some x → j < 4 → (OS.flatMap hcells)[i * 4 + j]? = (hcells x)[j]?
  | [], i, j, x, h, _ => by simp at h
  | y :: l, 0, j, x, h, hj => by
    obtain rfl : y = x := by simpa using h
    rw [List.flatMap_cons, Nat.zero_mul, Nat.zero_add, List.getElem?_append_left (by simpa [hcells] using hj)]
  | y :: l, i + 1, j, x, h, hj => by
    rw [List.flatMap_cons, List.getElem?_append_right (by simp [hcells]; omega)]
    rw [show (i + 1) * 4 + j - (hcells y).length = i * 4 + j by simp [hcells]; omega]
    exact flat_at l i j x (by simpa using h) hj
section
variable {w wr : World} {B T M1 M2 B10 : Nat} {cl : List Nat} {D1 : DataW Unit} {n1 lim : Nat} {ord : List Nat} {go co : Nat} {D2 : DataW Unit} {n2 : Nat} {OS : List Hd} {sv : Value} {HS : List Hd} {root : Nat}
theorem norm_end (hS : NSt w wr B T M1 M2 B10 cl D1 n1 lim ord go co D2 n2 OS sv) (hP : NPl HS cl root ord OS []) (hl : OS.length = ord.length) :
    ∃ g c, sv = .slice (some ⟨g, 0, none⟩) OS.length c ∧ w.heap.size ≤ g ∧ (∀ x ∈ OS, (x.na = none → x.nc = 0) ∧ (x.ka = none → x.kc = 0) ∧ ∀ ad, blkOf x ad → w.heap.size ≤ ad.block) ∧
      ∀ cs, HeadsIn (wr.setRow B cs) (some ⟨g, 0, none⟩) OS.length OS ∧ Below w.heap.size w (wr.setRow B cs) := by
  have h0 : 0 < ord.length := (List.getElem?_eq_some_iff.1 hP.first).1
  obtain ⟨g, c, rfl, hg1, hg2⟩ := hS.out.form (by omega)
  have hn := hS.nums
  have hgB : g ≠ B := fun e => hn.1.2.2.2.2.2 (by rw [e]; rfl)
  refine ⟨g, c, rfl, hg1, fun x hx => ⟨(hS.heads x hx).2.1, (hS.heads x hx).2.2, fun ad e => (hS.hsep x hx ad e).1⟩, fun cs => ⟨⟨rfl, .inr ⟨g, 0, rfl, by rw [setRow_size]; exact hg2, fun i x hx => ?_⟩⟩, ?_⟩⟩
  · have hi := (List.getElem?_eq_some_iff.1 hx).1
    have hc : ∀ j, j < 4 → (wr.setRow B cs).cell? ⟨g, 0 + i * 4 + j, none⟩ = (hcells x)[j]? := fun j hj => by
      rw [World.cell?_of_block (w := wr) (a := ⟨g, 0 + i * 4 + j, none⟩) (setRow_other wr B g cs hgB), Nat.zero_add, hS.out.cellAt (i * 4 + j) (by omega)]
      exact flat_at OS i j x hx hj
    have hm := List.mem_of_getElem? hx
    exact ⟨hc 0 (by omega), hc 1 (by omega), hc 2 (by omega), hc 3 (by omega), hd_kept (hS.heads x hm).1 (fun ad e _ => setRow_other wr B _ cs (fun e2 => (hS.hsep x hm ad e).2.2 (by rw [e2]; simp [blks]))) (by rw [setRow_size]; exact Nat.le_refl _)⟩
  · have hb := hS.below
    have hB := hS.ge B (by simp [blks])
    exact ⟨hb.os, hb.tape, hb.output, by rw [setRow_size]; exact hb.size, fun k hk => (setRow_other wr B k cs (by omega)).trans (hb.block k hk)⟩
end
end Go.Proofs.YtifilhkkgkihpaaGreatDoor
