/- Walks: arena.Graph. Walks: ref08.plain. Plain: the normal graph may be, and it is alike to the graph it is of. Plain: the worlds of Alike. Plain: a pair is struck. Walks: ref08.Alike. Plain: heads of the same fields. -/
import Derived.Test.YtifilhkkgkihpaaGreatDoorAs12
import Derived.BigQuiet
set_option linter.unusedSimpArgs false
set_option linter.unusedVariables false
set_option linter.unusedSimpArgs false
set_option linter.unusedVariables false
namespace Go.Proofs.YtifilhkkgkihpaaGreatDoor
open Go.RowKit
theorem NPl.kids_lt {HS : List Hd} {cl : List Nat} {root : Nat} {ord : List Nat} {OS : List Hd} {KK : List Int} (h : NPl HS cl root ord OS KK) : ∀ x ∈ OS, ∀ k ∈ x.KS, 0 ≤ k ∧ k < (ord.length : Int) := by
  intro x hx k hk
  obtain ⟨i, hi⟩ := List.getElem?_of_mem hx
  obtain ⟨r, y, _, _, _, _, _, h6, h7⟩ := (h.heads i x hi).of
  rw [h6] at hk
  obtain ⟨z, hz, rfl⟩ := List.mem_map.1 hk
  obtain ⟨p, hp⟩ := Option.isSome_iff_exists.1 (h7 z hz)
  have := (List.getElem?_eq_some_iff.1 (idxN_some ord _ p hp)).1
  unfold posN
  rw [hp]
  simp
  omega
theorem GSt.start {w4 : World} {A base : Nat} {la : Option Addr} {ln lc : Nat} {most : Int} {ps : List Value} {OS : List Hd} (h : ArenaAt w4 A base la ln lc most ps) : GSt w4 w4 A base (Value.slice la ln lc).ownBlock la ln lc most ps OS [] where
  arena := by simpa using h
  le := Nat.zero_le _
  rel i x y _ h2 := by simp at h2
  heads y hy := by cases hy
  sep y hy := by cases hy
  ownp g e := .inl (by simpa [Value.ownBlock] using e)
  acts := Acts.refl _ _ _
theorem GSt.from' {w w2 wr : World} {A base : Nat} {own : Option Nat} {la' : Option Addr} {ln lc' : Nat} {most : Int} {ps : List Value} {OS YS : List Hd} (h : GSt w2 wr A base own la' ln lc' most ps OS YS) (hb : Below w.heap.size w w2) : GSt w wr A base own la' ln lc' most ps OS YS where
  arena := h.arena
  le := h.le
  rel := h.rel
  heads := h.heads
  sep := h.sep
  ownp g e := (h.ownp g e).imp id (Nat.le_trans hb.size)
  acts := ⟨h.acts.os.trans hb.os, h.acts.tape.trans hb.tape, h.acts.output.trans hb.output, Nat.le_trans hb.size h.acts.size, fun b h1 h2 h3 => (h.acts.block b (Nat.lt_of_lt_of_le h1 hb.size) h2 h3).trans (hb.block b h1)⟩
end Go.Proofs.YtifilhkkgkihpaaGreatDoor
set_option linter.unusedSimpArgs false
set_option linter.unusedVariables false
namespace Go.Proofs.YtifilhkkgkihpaaGreatDoor
open Go.RowKit
/-- two heads are the same by themselves. -/
def Pl (x y : Hd) : Prop := x.kd = y.kd ∧ x.op = y.op ∧ x.NS = y.NS ∧ x.KS.length = y.KS.length
end Go.Proofs.YtifilhkkgkihpaaGreatDoor
set_option linter.unusedSimpArgs false
set_option linter.unusedVariables false
namespace Go.Proofs.YtifilhkkgkihpaaGreatDoor
open Go.RowKit
theorem headB_move {kd : Int} {op : Bool} {n n' : Int} {NS : List ByteArray} {KS KS' : List Int} (h : headB kd op n NS KS = true) (hl : KS'.length = KS.length) (hk : ∀ k ∈ KS', 0 ≤ k ∧ k < n') : headB kd op n' NS KS' = true := by
  unfold headB at h ⊢
  simp only [Bool.and_eq_true, List.all_eq_true, decide_eq_true_eq] at h ⊢
  exact ⟨⟨h.1.1, fun k hm => hk k hm⟩, by rw [hl]; exact h.2⟩
/-- two rows of heads and a relation between their numbers that stands under the kids. -/
structure Rel2 (XS HS : List Hd) (R : Nat → Nat → Prop) : Prop where
  pl : ∀ i k x h, XS[i]? = some x → HS[k]? = some h → R i k → Pl x h
  kid : ∀ i k x h, XS[i]? = some x → HS[k]? = some h → R i k → ∀ (n : Nat) a b, x.KS[n]? = some a → h.KS[n]? = some b → R a.toNat b.toNat
section
variable {HS : List Hd} {cl : List Nat} {root : Nat} {ord : List Nat} {OS : List Hd}
theorem NPl.graph (h : NPl HS cl root ord OS []) (hl : OS.length = ord.length) (hok : OkHeads HS) (hb : OS.length ≤ 4096) : graphB 0 OS = true := by
  have h0 : 0 < ord.length := (List.getElem?_eq_some_iff.1 h.first).1
  unfold graphB
  simp only [Bool.and_eq_true, decide_eq_true_eq, List.all_eq_true]
  refine ⟨⟨⟨⟨by omega, hb⟩, by omega⟩, by omega⟩, fun x hx => ?_⟩
  obtain ⟨i, hi⟩ := List.getElem?_of_mem hx
  obtain ⟨r, y, h1, h2, h3, h4, h5, h6, h7⟩ := (h.heads i x hi).of
  rw [h3, h4, h5]
  refine headB_move (hok y (List.mem_of_getElem? h1)) (by rw [h6, List.length_map]) (fun k hk => ?_)
  rw [hl]
  exact h.kids_lt x hx k hk
theorem NPl.rel2 (h : NPl HS cl root ord OS []) (hok : OkHeads HS) (hst : Stands HS cl) : Rel2 OS HS (fun i k => k < HS.length ∧ ord[i]? = some (cl.getD k 0)) where
  pl i k x y hx hy hr := by
    obtain ⟨r, z, h1, h2, h3, h4, h5, h6, h7⟩ := (h.heads i x hx).of
    obtain ⟨s1, s2, s3, s4⟩ := hst r k z y h1 hy (by rw [h2]; exact getD_of hr.2)
    refine ⟨h3.trans s1, h4.trans s2, h5.trans s3, ?_⟩
    rw [h6, List.length_map]
    have := congrArg List.length s4
    simpa using this
  kid i k x y hx hy hr n a b ha hb := by
    obtain ⟨r, z, h1, h2, h3, h4, h5, h6, h7⟩ := (h.heads i x hx).of
    obtain ⟨s1, s2, s3, s4⟩ := hst r k z y h1 hy (by rw [h2]; exact getD_of hr.2)
    rw [h6, List.getElem?_map] at ha
    cases hz : z.KS[n]? with
    | none => rw [hz] at ha; cases ha
    | some c =>
      rw [hz] at ha
      have hc : cl.getD c.toNat 0 = cl.getD b.toNat 0 := by
        have := congrArg (fun l => l[n]?) s4
        simp only [List.getElem?_map, hz, hb, Option.map_some, Option.some.injEq] at this
        exact this
      obtain ⟨p, hp⟩ := Option.isSome_iff_exists.1 (h7 c (List.mem_of_getElem? hz))
      have ha' : a = (p : Int) := by
        simp only [Option.map_some, Option.some.injEq] at ha
        rw [← ha]
        unfold posN
        rw [hp]
        rfl
      have hbr := (head_kind (hok y (List.mem_of_getElem? hy))).2.2.1 b (List.mem_of_getElem? hb)
      refine ⟨by omega, ?_⟩
      rw [ha', Int.toNat_natCast, idxN_some ord _ p hp, hc]
theorem NPl.root2 (h : NPl HS cl root ord OS []) (hr : root < HS.length) : root < HS.length ∧ ord[0]? = some (cl.getD root 0) := ⟨hr, h.first⟩
end
end Go.Proofs.YtifilhkkgkihpaaGreatDoor
set_option linter.unusedSimpArgs false
set_option linter.unusedVariables false
namespace Go.Proofs.YtifilhkkgkihpaaGreatDoor
open Go.RowKit
abbrev BRow := Nat × Nat × List Bool
def rowv (m : Nat) (r : BRow) : Value := .slice (some ⟨r.1, 0, none⟩) m r.2.1
structure MatAt (w wr : World) (m go co : Nat) (rows : List BRow) : Prop where
  below : Below w.heap.size w wr
  out : wr.ownsRow w.heap.size 76 1 (.slice (some ⟨go, 0, none⟩) rows.length co) rows.length (rows.map (rowv m))
  each : ∀ r ∈ rows, r.2.2.length = m ∧ wr.ownsRow w.heap.size 4 1 (rowv m r) m (r.2.2.map Value.bool)
  nd : (rows.map (·.1)).Nodup
section
variable {w wr w' : World} {m go co : Nat} {rows : List BRow}
theorem MatAt.go_row (h : MatAt w wr m go co rows) : ∀ r ∈ rows, r.1 ≠ go := fun r hr e => by
  have := own_two (h.each r hr).2 h.out (by decide)
  rcases this with e2 | e2
  · cases e2
  · exact e2 (by show some r.1 = some go; rw [e])
theorem MatAt.far (h : MatAt w wr m go co rows) {row : Option Nat} (hg : wr.grownBy w' row) (hr : ∀ g, row = some g → g ≠ go ∧ (∀ r ∈ rows, r.1 ≠ g) ∧ w.heap.size ≤ g) : MatAt w w' m go co rows where
  below := below_grow h.below hg h.below.size (fun g e => (hr g e).2.2)
  out := h.out.kept hg (.inr (fun e => (hr go e.symm).1 rfl))
  each r hm := ⟨(h.each r hm).1, (h.each r hm).2.kept hg (.inr (fun e => (hr r.1 e.symm).2.1 r hm rfl))⟩
  nd := h.nd
theorem MatAt.on (h : MatAt w wr m go co rows) (hb : Below wr.heap.size wr w') : MatAt w w' m go co rows := h.far (grown_below hb) (fun g e => by cases e)
theorem MatAt.push (h : MatAt w wr m go co rows) {gr cr : Nat} {L : List Bool} (hL : L.length = m) (hrow : wr.ownsRow w.heap.size 4 1 (.slice (some ⟨gr, 0, none⟩) m cr) m (L.map Value.bool)) (hgr : ∀ r ∈ rows, r.1 ≠ gr) {g' c' : Nat} (hg : wr.grownBy w' (some go)) (hm : w'.ownsRow w.heap.size 76 1 (.slice (some ⟨g', 0, none⟩) (rows.length + 1) c') (rows.length + 1) (rows.map (rowv m) ++ [.slice (some ⟨gr, 0, none⟩) m cr])) : MatAt w w' m g' c' (rows ++ [(gr, cr, L)]) where
  below := below_grow h.below hg h.below.size (fun g e => by cases e; exact (h.out.lt _ rfl).1)
  out := by simpa [rowv] using hm
  each r hr := by
    rcases List.mem_append.1 hr with e | e
    · exact ⟨(h.each r e).1, (h.each r e).2.kept hg (.inr (fun e2 => h.go_row r e (by cases e2; rfl)))⟩
    · obtain rfl : r = (gr, cr, L) := by simpa using e
      refine ⟨hL, hrow.kept hg ?_⟩
      exact own_two hrow h.out (by decide)
  nd := by
    rw [List.map_append, List.nodup_append]
    refine ⟨h.nd, by simp, fun a ha b hb e => ?_⟩
    obtain ⟨r, hr, rfl⟩ := List.mem_map.1 ha
    simp at hb
    exact hgr r hr (by rw [e, hb])
end
/-- what the matrix holds: only plain pairs, and all that are related. -/
def InvM (XS HS : List Hd) (R : Nat → Nat → Prop) (rows : List BRow) : Prop := ∀ (i : Nat) r, rows[i]? = some r → ∀ (k : Nat) b, r.2.2[k]? = some b → ∀ x h, XS[i]? = some x → HS[k]? = some h → (b = true → Pl x h) ∧ (R i k → b = true)
def InvR (HS : List Hd) (R : Nat → Nat → Prop) (i : Nat) (x : Hd) (L : List Bool) : Prop := ∀ (k : Nat) b, L[k]? = some b → ∀ h, HS[k]? = some h → (b = true → Pl x h) ∧ (R i k → b = true)
theorem InvR.push {HS : List Hd} {R : Nat → Nat → Prop} {i : Nat} {x h : Hd} {L : List Bool} {b : Bool} (hi : InvR HS R i x L) (hh : HS[L.length]? = some h) (hb : b = true ↔ Pl x h) (hR : R i L.length → Pl x h) : InvR HS R i x (L ++ [b]) := by
  intro k c hk y hy
  rcases Nat.lt_or_ge k L.length with h1 | h1
  · rw [List.getElem?_append_left h1] at hk
    exact hi k c hk y hy
  · rw [List.getElem?_append_right h1] at hk
    have h2 : k - L.length = 0 := by
      have := (List.getElem?_eq_some_iff.1 hk).1
      simp at this
      omega
    obtain rfl : k = L.length := by omega
    simp at hk
    rw [hh] at hy
    cases hy
    subst hk
    exact ⟨hb.1, fun hr => hb.2 (hR hr)⟩
theorem InvM.push {XS HS : List Hd} {R : Nat → Nat → Prop} {rows : List BRow} {r : BRow} {x : Hd} (hi : InvM XS HS R rows) (hx : XS[rows.length]? = some x) (hr : InvR HS R rows.length x r.2.2) : InvM XS HS R (rows ++ [r]) := by
  intro i s hs k b hb y h hy hh
  rcases Nat.lt_or_ge i rows.length with h1 | h1
  · rw [List.getElem?_append_left h1] at hs
    exact hi i s hs k b hb y h hy hh
  · rw [List.getElem?_append_right h1] at hs
    have h2 : i - rows.length = 0 := by
      have := (List.getElem?_eq_some_iff.1 hs).1
      simp at this
      omega
    obtain rfl : i = rows.length := by omega
    simp at hs
    subst hs
    rw [hx] at hy
    cases hy
    exact hr k b hb h hh
end Go.Proofs.YtifilhkkgkihpaaGreatDoor
set_option linter.unusedSimpArgs false
set_option linter.unusedVariables false
namespace Go.Proofs.YtifilhkkgkihpaaGreatDoor
open Go.RowKit
def cntR (rows : List BRow) : Nat := (rows.map fun r => r.2.2.count true).sum
/-- what lies at i, k. -/
theorem MatAt.cells {w wr : World} {m go co : Nat} {rows : List BRow} (h : MatAt w wr m go co rows) {i k g c : Nat} {L : List Bool} {b : Bool} (hi : rows[i]? = some (g, c, L)) (hk : L[k]? = some b) : wr.cell? ⟨go, i, none⟩ = some (.slice (some ⟨g, 0, none⟩) m c) ∧ wr.cell? ⟨g, k, none⟩ = some (.bool b) ∧ wr.frozen? ⟨g, k, none⟩ = false ∧ g < wr.heap.size := by
  obtain ⟨h1, h2⟩ := h.each _ (List.mem_of_getElem? hi)
  have hil := (List.getElem?_eq_some_iff.1 hi).1
  have hkl := (List.getElem?_eq_some_iff.1 hk).1
  refine ⟨?_, ?_, ?_, (h2.lt g rfl).2⟩
  · rw [h.out.cellAt i (by omega), List.getElem?_map, hi]
    rfl
  · have := World.ownsRow.cellAt (g := g) (cap := c) h2 k (by simp at h1; omega)
    rw [this, List.getElem?_map, hk]
    rfl
  · exact World.ownsRow.frozenAt (g := g) (cap := c) h2 k
end Go.Proofs.YtifilhkkgkihpaaGreatDoor
set_option linter.unusedSimpArgs false
set_option linter.unusedVariables false
namespace Go.Proofs.YtifilhkkgkihpaaGreatDoor
open Go.RowKit
structure Str (w wr : World) (XS HS : List Hd) (R : Nat → Nat → Prop) (m xn go co c0 : Nat) (again : Bool) (rs : List BRow) : Prop where
  mat : MatAt w wr m go co rs
  inv : InvM XS HS R rs
  len : rs.length = xn
  cnt : cntR rs ≤ c0 ∧ (again = true → cntR rs < c0)
theorem Str.on {w wr w' : World} {XS HS : List Hd} {R : Nat → Nat → Prop} {m xn go co c0 : Nat} {again : Bool} {rs : List BRow} (h : Str w wr XS HS R m xn go co c0 again rs) (hb : Below wr.heap.size wr w') : Str w w' XS HS R m xn go co c0 again rs := ⟨h.mat.on hb, h.inv, h.len, h.cnt⟩
end Go.Proofs.YtifilhkkgkihpaaGreatDoor
set_option linter.unusedSimpArgs false
set_option linter.unusedVariables false
namespace Go.Proofs.YtifilhkkgkihpaaGreatDoor
open Go.RowKit
/-- two rows of heads of the same fields, wherever they lie. -/
structure Alk (OS XS : List Hd) : Prop where
  len : XS.length = OS.length
  eq : ∀ (i : Nat) x y, OS[i]? = some x → XS[i]? = some y → y.kd = x.kd ∧ y.op = x.op ∧ y.NS = x.NS ∧ y.KS = x.KS
theorem Alk.at {OS XS : List Hd} (h : Alk OS XS) {i : Nat} {y : Hd} (hy : XS[i]? = some y) : ∃ x, OS[i]? = some x ∧ y.kd = x.kd ∧ y.op = x.op ∧ y.NS = x.NS ∧ y.KS = x.KS := by
  have hl := (List.getElem?_eq_some_iff.1 hy).1
  obtain ⟨x, hx⟩ : ∃ x, OS[i]? = some x := ⟨_, List.getElem?_eq_getElem (by rw [← h.len]; exact hl)⟩
  exact ⟨x, hx, h.eq i x y hx hy⟩
theorem Alk.graph {OS XS : List Hd} (h : Alk OS XS) {root : Int} (hg : graphB root OS = true) : graphB root XS = true := by
  unfold graphB at hg ⊢
  simp only [Bool.and_eq_true, decide_eq_true_eq, List.all_eq_true] at hg ⊢
  rw [h.len]
  refine ⟨hg.1, fun y hy => ?_⟩
  obtain ⟨i, hi⟩ := List.getElem?_of_mem hy
  obtain ⟨x, hx, e1, e2, e3, e4⟩ := h.at hi
  rw [e1, e2, e3, e4]
  exact hg.2 x (List.mem_of_getElem? hx)
theorem Alk.rel {OS XS HS : List Hd} (h : Alk OS XS) {R : Nat → Nat → Prop} (hr : Rel2 OS HS R) : Rel2 XS HS R where
  pl i k y z hy hz hR := by
    obtain ⟨x, hx, e1, e2, e3, e4⟩ := h.at hy
    obtain ⟨p1, p2, p3, p4⟩ := hr.pl i k x z hx hz hR
    exact ⟨e1.trans p1, e2.trans p2, e3.trans p3, by rw [e4]; exact p4⟩
  kid i k y z hy hz hR n a b ha hb := by
    obtain ⟨x, hx, e1, e2, e3, e4⟩ := h.at hy
    rw [e4] at ha
    exact hr.kid i k x z hx hz hR n a b ha hb
end Go.Proofs.YtifilhkkgkihpaaGreatDoor
