/- KeepPlays: the keep and the law's own list, side by side; each step of a round. -/
import Derived.Test.YtebldhppnacdjabPb
import Derived.Test.YtebldhppnacdjabKx
set_option linter.unusedVariables false
namespace Go.Proofs.Ytebldhppnacdjab
open Go.RowKit
theorem heap_setCell_fr (w : World) (g i : Nat) (cs : Array Value) (t : TypeId) (fr : Nat × Nat) (v : Value) (hg : w.heap[g]? = some (.cells cs t fr)) :
    (w.setCell ⟨g, i, none⟩ v).heap[g]? = some (.cells (cs.setIfInBounds i v) t fr) := by
  rw [setCell_eq_setRow w g i cs t fr v hg]
  exact setRow_heap w g cs _ t fr hg
structure PlayC (w0 w : World) (F : Nat → Prop) (K : Nat) (mo : Int) (N : Nat) (H : List Int → Int) (s : Nat) (f m : Int) (PK PM : List (List Int × Int)) (Mb : Nat) (v : Value) (Gs : List (Nat × Obj)) : Prop where
  k : ∃ n : Int, KS w w0.heap.size F K mo N H n f m PK ∧ 0 ≤ n ∧ n ≤ s
  lo : ∀ x, F x → w0.heap.size ≤ x
  be : Below w0.heap.size w0 w
  mh : w.heap[Mb]? = some (.cells #[v] 41 (0, 0))
  mf : ¬ F Mb
  mlo : w0.heap.size ≤ Mb
  mw : Win w w0.heap.size v PM
  vf : ∀ g, v.ownBlock = some g → ¬ F g ∧ g ≠ Mb
  gs : ∀ p ∈ Gs, w.heap[p.1]? = some p.2 ∧ ¬ F p.1 ∧ p.1 ≠ Mb ∧ v.ownBlock ≠ some p.1 ∧ w0.heap.size ≤ p.1
def Play (w0 w : World) (K : Nat) (mo : Int) (N : Nat) (H : List Int → Int) (s : Nat) (f m : Int) (PK PM : List (List Int × Int)) (Mb : Nat) (v : Value) (Gs : List (Nat × Obj)) : Prop := ∃ F, PlayC w0 w F K mo N H s f m PK PM Mb v Gs
section
variable {w0 w w' : World} {F : Nat → Prop} {K : Nat} {mo : Int} {N : Nat} {H : List Int → Int} {s s' : Nat} {f m : Int} {PK PM : List (List Int × Int)} {Mb : Nat} {v : Value} {Gs : List (Nat × Obj)}
theorem PlayC.flt (h : PlayC w0 w F K mo N H s f m PK PM Mb v Gs) : ∀ x, F x → x < w.heap.size := by
  obtain ⟨n, h1, -⟩ := h.k
  exact h1.lt
theorem Play.be (h : Play w0 w K mo N H s f m PK PM Mb v Gs) : Below w0.heap.size w0 w := by
  obtain ⟨F, h⟩ := h
  exact h.be
theorem Play.mh (h : Play w0 w K mo N H s f m PK PM Mb v Gs) : w.heap[Mb]? = some (.cells #[v] 41 (0, 0)) := by
  obtain ⟨F, h⟩ := h
  exact h.mh
theorem Play.m0 (h : Play w0 w K mo N H s f m PK PM Mb v Gs) : w.cell? ⟨Mb, 0, none⟩ = some v ∧ w.frozen? ⟨Mb, 0, none⟩ = false := ⟨cell_of_one h.mh, frozen_of_row w Mb 0 _ 41 h.mh⟩
theorem Play.gd (h : Play w0 w K mo N H s f m PK PM Mb v Gs) {p : Nat × Obj} (hp : p ∈ Gs) : w.heap[p.1]? = some p.2 := by
  obtain ⟨F, h⟩ := h
  exact (h.gs p hp).1
theorem Play.win (h : Play w0 w K mo N H s f m PK PM Mb v Gs) : Win w w0.heap.size v PM := by
  obtain ⟨F, h⟩ := h
  exact h.mw
theorem Play.less (h : Play w0 w K mo N H s f m PK PM Mb v Gs) {Gs' : List (Nat × Obj)} (hs : s ≤ s') (hg : ∀ p ∈ Gs', p ∈ Gs) : Play w0 w K mo N H s' f m PK PM Mb v Gs' := by
  obtain ⟨F, h⟩ := h
  obtain ⟨n, h1, h2, h3⟩ := h.k
  exact ⟨F, { h with k := ⟨n, h1, h2, by omega⟩, gs := fun p hp => h.gs p (hg p hp) }⟩
/-- a new block, guarded. -/
theorem Play.alloc (h : Play w0 w K mo N H s f m PK PM Mb v Gs) (o : Obj) : Play w0 (w.alloc o) K mo N H s f m PK PM Mb v ((w.heap.size, o) :: Gs) := by
  obtain ⟨F, h⟩ := h
  obtain ⟨n, h1, h2, h3⟩ := h.k
  have hMl : Mb < w.heap.size := (Array.getElem?_eq_some_iff.1 h.mh).1
  exact ⟨F, {
    k := ⟨n, h1.keep (by simp) (fun k hk => Below.heap_alloc w o k (h1.lt k hk)), h2, h3⟩
    lo := h.lo
    be := h.be.alloc h.be.size o
    mh := (Below.heap_alloc w o Mb hMl).trans h.mh
    mf := h.mf
    mlo := h.mlo
    mw := h.mw.keep (fun g hg => Below.heap_alloc w o g (h.mw.lt g hg).2)
    vf := h.vf
    gs := fun p hp => by
      rcases List.mem_cons.1 hp with rfl | hp
      · exact ⟨heap_alloc_new w o, fun hc => by have := h1.lt _ hc; simp at this, by show w.heap.size ≠ Mb; omega, fun hc => by have := (h.mw.lt _ hc).2; simp at this, h.be.size⟩
      · obtain ⟨a1, a2⟩ := h.gs p hp
        exact ⟨(Below.heap_alloc w o p.1 (Array.getElem?_eq_some_iff.1 a1).1).trans a1, a2⟩ }⟩
/-- the same heap. -/
theorem Play.same (h : Play w0 w K mo N H s f m PK PM Mb v Gs) (hh : w'.heap = w.heap) (hb : Below w.heap.size w w') : Play w0 w' K mo N H s f m PK PM Mb v Gs := by
  obtain ⟨F, h⟩ := h
  obtain ⟨n, h1, h2, h3⟩ := h.k
  exact ⟨F, {
    k := ⟨n, h1.keep hb.size (fun k hk => by rw [hh]), h2, h3⟩
    lo := h.lo
    be := h.be.trans (hb.mono h.be.size)
    mh := by rw [hh]; exact h.mh
    mf := h.mf
    mlo := h.mlo
    mw := h.mw.keep (fun g hg => by rw [hh])
    vf := h.vf
    gs := fun p hp => by rw [hh]; exact h.gs p hp }⟩
/-- the keep has acted. -/
theorem PlayC.step {F' : Nat → Prop} {f' m' : Int} {PK' : List (List Int × Int)} (h : PlayC w0 w F K mo N H s f m PK PM Mb v Gs) (hk : ∃ n : Int, KS w' w0.heap.size F' K mo N H n f' m' PK' ∧ 0 ≤ n ∧ n ≤ s') (hl : Left w0.heap.size F w F' w') : Play w0 w' K mo N H s' f' m' PK' PM Mb v Gs := by
  have hsz := h.be.size
  have hMl : Mb < w.heap.size := (Array.getElem?_eq_some_iff.1 h.mh).1
  have hno : ∀ x, x < w.heap.size → ¬ F x → ¬ F' x := fun x h1 h2 hc => by
    rcases hl.2.2 x hc with h3 | h3
    · exact h2 h3
    · omega
  exact ⟨F', {
    k := hk
    lo := fun x hx => by
      rcases hl.2.2 x hx with h1 | h1
      · exact h.lo x h1
      · omega
    be := h.be.trans hl.1
    mh := (hl.2.1 Mb hMl h.mf).trans h.mh
    mf := hno Mb hMl h.mf
    mlo := h.mlo
    mw := h.mw.keep (fun g hg => hl.2.1 g (h.mw.lt g hg).2 (h.vf g hg).1)
    vf := fun g hg => ⟨hno g (h.mw.lt g hg).2 (h.vf g hg).1, (h.vf g hg).2⟩
    gs := fun p hp => by
      obtain ⟨a1, a2, a3⟩ := h.gs p hp
      have hpl := (Array.getElem?_eq_some_iff.1 a1).1
      exact ⟨(hl.2.1 p.1 hpl a2).trans a1, hno p.1 hpl a2, a3⟩ }⟩
/-- the law's own list has turned. -/
theorem PlayC.list (h : PlayC w0 w F K mo N H s f m PK PM Mb v Gs) {v' : Value} {PM' : List (List Int × Int)} (hb : Below w0.heap.size w w') (hfr : ∀ k, k < w.heap.size → k ≠ Mb → v.ownBlock ≠ some k → w'.heap[k]? = w.heap[k]?) (hm : w'.heap[Mb]? = some (.cells #[v'] 41 (0, 0))) (hw : Win w' w0.heap.size v' PM')
    (hv : ∀ g, v'.ownBlock = some g → v.ownBlock = some g ∨ w.heap.size ≤ g) : Play w0 w' K mo N H s f m PK PM' Mb v' Gs := by
  obtain ⟨n, h1, h2, h3⟩ := h.k
  have hMl : Mb < w.heap.size := (Array.getElem?_eq_some_iff.1 h.mh).1
  exact ⟨F, {
    k := ⟨n, h1.keep hb.size (fun k hk => hfr k (h1.lt k hk) (fun e => h.mf (by rw [← e]; exact hk)) (fun e => (h.vf k e).1 hk)), h2, h3⟩
    lo := h.lo
    be := h.be.trans hb
    mh := hm
    mf := h.mf
    mlo := h.mlo
    mw := hw
    vf := fun g hg => by
      rcases hv g hg with h4 | h4
      · exact h.vf g h4
      · exact ⟨fun hc => by have := h1.lt g hc; omega, by omega⟩
    gs := fun p hp => by
      obtain ⟨a1, a2, a3, a4, a5⟩ := h.gs p hp
      have hpl := (Array.getElem?_eq_some_iff.1 a1).1
      refine ⟨(hfr p.1 hpl a3 a4).trans a1, a2, a3, fun hc => ?_, a5⟩
      rcases hv p.1 hc with h4 | h4
      · exact a4 h4
      · omega }⟩
/-- a store into the first guarded block. -/
theorem Play.store {B : Nat} {cur : Array Value} {t : TypeId} {fr : Nat × Nat} (h : Play w0 w K mo N H s f m PK PM Mb v ((B, .cells cur t fr) :: Gs)) (hB : ∀ p ∈ Gs, p.1 ≠ B) (i : Nat) (u : Value) : Play w0 (w.setCell ⟨B, i, none⟩ u) K mo N H s f m PK PM Mb v ((B, .cells (cur.setIfInBounds i u) t fr) :: Gs) := by
  obtain ⟨F, h⟩ := h
  obtain ⟨n, h1, h2, h3⟩ := h.k
  obtain ⟨b1, b2, b3, b4, b5⟩ := h.gs _ (List.mem_cons_self ..)
  have hoff : ∀ k, k ≠ B → (w.setCell ⟨B, i, none⟩ u).heap[k]? = w.heap[k]? := fun k hk => Below.heap_setCell _ _ _ _ (by simpa using hk)
  have hsz : (w.setCell ⟨B, i, none⟩ u).heap.size = w.heap.size := by simp [World.setCell]
  exact ⟨F, {
    k := ⟨n, h1.keep (by omega) (fun k hk => hoff k (fun e => b2 (by rw [← e]; exact hk))), h2, h3⟩
    lo := h.lo
    be := h.be.setCell (p := ⟨B, i, none⟩) b5 u
    mh := (hoff Mb (fun e => b3 e.symm)).trans h.mh
    mf := h.mf
    mlo := h.mlo
    mw := h.mw.keep (fun g hg => hoff g (fun e => b4 (by rw [hg, e])))
    vf := h.vf
    gs := fun p hp => by
      rcases List.mem_cons.1 hp with rfl | hp
      · exact ⟨heap_setCell_fr w B i cur t fr u b1, b2, b3, b4, b5⟩
      · obtain ⟨a1, a2⟩ := h.gs p (List.mem_cons_of_mem _ hp)
        exact ⟨(hoff p.1 (hB p hp)).trans a1, a2⟩ }⟩
end
end Go.Proofs.Ytebldhppnacdjab
