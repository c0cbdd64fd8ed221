/- What holds while ref09.New strikes out pairs. -/
import Derived.Test.YtoakfninndkgaaaGreatDoorNzE
set_option linter.unusedVariables false
namespace Go.Proofs.YtoakfninndkgaaaGreatDoor
open Go.RowKit
def upd (U : Nat → Nat → Bool) (i j : Nat) : Nat → Nat → Bool := fun a b => if a = i ∧ b = j then false else U a b
def pairsL (n m : Nat) : List (Nat × Nat) := (List.range n).flatMap fun i => (List.range m).map fun j => (i, j)
theorem mem_pairs {n m i j : Nat} : (i, j) ∈ pairsL n m ↔ i < n ∧ j < m := by
  unfold pairsL
  simp only [List.mem_flatMap, List.mem_range, List.mem_map, Prod.mk.injEq]
  constructor
  · rintro ⟨a, ha, b, hb, rfl, rfl⟩; exact ⟨ha, hb⟩
  · rintro ⟨ha, hb⟩; exact ⟨i, ha, j, hb, rfl, rfl⟩
def cntT (n m : Nat) (U : Nat → Nat → Bool) : Nat := (pairsL n m).countP fun p => U p.1 p.2
theorem countP_le_of {α : Type} (p q : α → Bool) : ∀ l : List α, (∀ x ∈ l, p x = true → q x = true) → l.countP p ≤ l.countP q
  | [], _ => by simp
  | x :: l, h => by
    have := countP_le_of p q l (fun y hy => h y (List.mem_cons_of_mem _ hy))
    have h1 := h x (List.mem_cons_self ..)
    rw [List.countP_cons, List.countP_cons]
    cases hp : p x
    · simp; omega
    · rw [h1 hp]; simp; omega
theorem countP_lt_of {α : Type} (p q : α → Bool) : ∀ l : List α, (∀ x ∈ l, p x = true → q x = true) → (∃ x ∈ l, q x = true ∧ p x = false) → l.countP p < l.countP q
  | [], _, h => by obtain ⟨x, hx, _⟩ := h; cases hx
  | x :: l, h, hex => by
    have hle := countP_le_of p q l (fun y hy => h y (List.mem_cons_of_mem _ hy))
    obtain ⟨y, hy, hq, hp⟩ := hex
    rw [List.countP_cons, List.countP_cons]
    rcases List.mem_cons.1 hy with rfl | hy
    · rw [hq, hp]; simp; omega
    · have := countP_lt_of p q l (fun y hy => h y (List.mem_cons_of_mem _ hy)) ⟨y, hy, hq, hp⟩
      have h1 := h x (List.mem_cons_self ..)
      cases hpx : p x
      · simp; omega
      · rw [h1 hpx]; simp; omega
theorem cnt_upd {n m i j : Nat} {U : Nat → Nat → Bool} (hi : i < n) (hj : j < m) (h : U i j = true) : cntT n m (upd U i j) < cntT n m U := by
  refine countP_lt_of _ _ _ (fun p _ hp => ?_) ⟨(i, j), mem_pairs.2 ⟨hi, hj⟩, h, by simp [upd]⟩
  unfold upd at hp
  split at hp
  · cases hp
  · exact hp
/-- where all lies: the tables' blocks, the box. -/
structure TT where
  Gu : Nat
  cu : Nat
  Gd : Nat
  cd : Nat
  T : Nat
  lo : Nat
  m : Nat
  hi : Nat
  Ru : Nat → Nat
  Cu : Nat → Nat
  Rd : Nat → Nat
  Cd : Nat → Nat
theorem Tab.keep {w w' : World} {lo hi G c n m : Nat} {R C : Nat → Nat} {f : Nat → Nat → Bool} (h : Tab w lo hi G c n m R C f) (hb : ∀ k, lo ≤ k → k < hi → w'.heap[k]? = w.heap[k]?) : Tab w' lo hi G c n m R C f :=
  ⟨h.rows.on hb, Val.owns_block h.own (fun g hg => by cases hg; exact hb G h.lt.1 h.lt.2), h.lt⟩
theorem Tab.set {w : World} {lo hi G c n m : Nat} {R C : Nat → Nat} {f : Nat → Nat → Bool} (h : Tab w lo hi G c n m R C f) {i j : Nat} (hi' : i < n) (hj : j < m) : Tab (w.setCell ⟨R i, j, none⟩ (.bool false)) lo hi G c n m R C (upd f i j) := by
  obtain ⟨cur, h1, h2⟩ := h.rows.cell i hi'
  have hG : R i ≠ G := fun e => by
    rcases h.own.2 with ⟨h3, -⟩ | ⟨g, cap, cur', e1, e2, e3, e4⟩
    · cases h3
    · cases e1; rw [e, e3] at h1; cases h1
  refine ⟨⟨h.rows.lt, h.rows.inj, fun a ha => ?_⟩, Val.owns_block h.own (fun g hg => by cases hg; exact Below.heap_setCell _ _ _ _ (Ne.symm hG)), h.lt⟩
  by_cases he : a = i
  · subst he
    refine ⟨_, heap_setCell_same _ _ _ _ _ _ h1, fun b hb => ?_⟩
    have hcb := h2 b hb
    have hsz := (Array.getElem?_eq_some_iff.1 hcb).1
    unfold upd
    by_cases hbj : b = j
    · subst hbj
      rw [Array.getElem?_setIfInBounds]
      simp [hsz]
    · rw [Array.getElem?_setIfInBounds, if_neg (Ne.symm hbj), hcb]
      simp [hbj]
  · obtain ⟨cur', h3, h4⟩ := h.rows.cell a ha
    refine ⟨cur', by rw [Below.heap_setCell _ _ _ _ (show R a ≠ R i from fun e => he (h.rows.inj a i ha hi' e))]; exact h3, fun b hb => ?_⟩
    unfold upd
    rw [if_neg (fun h => he h.1)]
    exact h4 b hb
structure NInv (w : World) (la : Option Addr) (ln lc : Nat) (lb : Option Addr) (lm ld : Nat) (t : TT) (wr : World) (U D : Nat → Nat → Bool) : Prop where
  box : wr.heap[t.T]? = some (.cells #[.slice la ln lc, .slice lb lm ld, .slice (some ⟨t.Gu, 0, none⟩) ln t.cu, .slice (some ⟨t.Gd, 0, none⟩) lm t.cd] 114 (0, 0))
  up : Tab wr t.lo t.m t.Gu t.cu ln lm t.Ru t.Cu U
  down : Tab wr t.m t.hi t.Gd t.cd lm ln t.Rd t.Cd D
  th : t.hi ≤ t.T
  mh : t.m ≤ t.hi
  hr : t.hi ≤ wr.heap.size
  wl : w.heap.size ≤ t.lo
  lm' : t.lo ≤ t.m
  below : Below w.heap.size w wr
section
variable {w wr w' : World} {la lb : Option Addr} {ln lc lm ld : Nat} {t : TT} {U D : Nat → Nat → Bool}
theorem NInv.tl (h : NInv w la ln lc lb lm ld t wr U D) : t.T < wr.heap.size := (Array.getElem?_eq_some_iff.1 h.box).1
theorem NInv.on (h : NInv w la ln lc lb lm ld t wr U D) (hb : Below wr.heap.size wr w') : NInv w la ln lc lb lm ld t w' U D where
  box := (hb.block _ h.tl).trans h.box
  up := h.up.keep (fun k _ hk => hb.block k (by have := h.hr; have := h.mh; omega))
  down := h.down.keep (fun k _ hk => hb.block k (by have := h.hr; omega))
  th := h.th
  mh := h.mh
  hr := Nat.le_trans h.hr hb.size
  wl := h.wl
  lm' := h.lm'
  below := h.below.trans (hb.mono h.below.size)
theorem NInv.drew (h : NInv w la ln lc lb lm ld t wr U D) : NInv w la ln lc lb lm ld t wr.drew U D := h.on (Below.refl _ _).drew
theorem NInv.set1 (h : NInv w la ln lc lb lm ld t wr U D) {i j : Nat} (hi : i < ln) (hj : j < lm) : NInv w la ln lc lb lm ld t (wr.setCell ⟨t.Ru i, j, none⟩ (.bool false)) (upd U i j) D where
  box := by
    have := (h.up.rows.lt i hi)
    rw [Below.heap_setCell _ _ _ _ (show t.T ≠ t.Ru i from by have := h.th; have := h.mh; omega)]
    exact h.box
  up := h.up.set hi hj
  down := h.down.keep (fun k hk _ => Below.heap_setCell _ _ _ _ (show k ≠ t.Ru i from by have := (h.up.rows.lt i hi); omega))
  th := h.th
  mh := h.mh
  hr := by simpa using h.hr
  wl := h.wl
  lm' := h.lm'
  below := h.below.setCell (p := ⟨t.Ru i, j, none⟩) (show w.heap.size ≤ t.Ru i from by have := (h.up.rows.lt i hi); have := h.wl; omega) _
theorem NInv.set2 (h : NInv w la ln lc lb lm ld t wr U D) {i j : Nat} (hi : i < lm) (hj : j < ln) : NInv w la ln lc lb lm ld t (wr.setCell ⟨t.Rd i, j, none⟩ (.bool false)) U (upd D i j) where
  box := by
    have := (h.down.rows.lt i hi)
    rw [Below.heap_setCell _ _ _ _ (show t.T ≠ t.Rd i from by have := h.th; omega)]
    exact h.box
  up := h.up.keep (fun k _ hk => Below.heap_setCell _ _ _ _ (show k ≠ t.Rd i from by have := (h.down.rows.lt i hi); omega))
  down := h.down.set hi hj
  th := h.th
  mh := h.mh
  hr := by simpa using h.hr
  wl := h.wl
  lm' := h.lm'
  below := h.below.setCell (p := ⟨t.Rd i, j, none⟩) (show w.heap.size ≤ t.Rd i from by have := (h.down.rows.lt i hi); have := h.wl; have := h.lm'; omega) _
theorem NInv.b2 (h : NInv w la ln lc lb lm ld t wr U D) : wr.cell? ⟨t.T, 2, none⟩ = some (.slice (some ⟨t.Gu, 0, none⟩) ln t.cu) := by rw [cell_of_row _ _ 2 _ 114 _ h.box]; rfl
theorem NInv.b3 (h : NInv w la ln lc lb lm ld t wr U D) : wr.cell? ⟨t.T, 3, none⟩ = some (.slice (some ⟨t.Gd, 0, none⟩) lm t.cd) := by rw [cell_of_row _ _ 3 _ 114 _ h.box]; rfl
theorem NInv.free1 (h : NInv w la ln lc lb lm ld t wr U D) {i j : Nat} (hi : i < ln) : wr.frozen? ⟨t.Ru i, j, none⟩ = false := by
  obtain ⟨cur, h1, _⟩ := h.up.rows.cell i hi
  exact frozen_of_row _ _ _ _ _ h1
theorem NInv.free2 (h : NInv w la ln lc lb lm ld t wr U D) {i j : Nat} (hi : i < lm) : wr.frozen? ⟨t.Rd i, j, none⟩ = false := by
  obtain ⟨cur, h1, _⟩ := h.down.rows.cell i hi
  exact frozen_of_row _ _ _ _ _ h1
end
/-- may a pair be, by tables? -/
def mayAt (A B : List Hd) (U D : Nat → Nat → Bool) (i j : Nat) : Bool := match A[i]?, B[j]? with
  | some h, some k => mayH h k B U D
  | _, _ => false
def Chk (A B : List Hd) (U D : Nat → Nat → Bool) (i j : Nat) : Prop := (U i j = true → mayAt A B U D i j = true) ∧ (D j i = true → mayAt B A D U j i = true)
/-- a round's state: nothing was struck out, and all so far may be; or something was. -/
def StN (A B : List Hd) (U0 D0 : Nat → Nat → Bool) (again : Bool) (U D : Nat → Nat → Bool) (done : Nat → Nat → Prop) : Prop :=
  (again = false ∧ U = U0 ∧ D = D0 ∧ ∀ a b, a < A.length → b < B.length → done a b → Chk A B U0 D0 a b) ∨ (again = true ∧ cntT A.length B.length U + cntT B.length A.length D < cntT A.length B.length U0 + cntT B.length A.length D0)
theorem StN.mono {A B : List Hd} {U0 D0 U D : Nat → Nat → Bool} {again : Bool} {d d' : Nat → Nat → Prop} (h : StN A B U0 D0 again U D d) (hd : ∀ a b, a < A.length → b < B.length → d' a b → d a b) : StN A B U0 D0 again U D d' := by
  rcases h with ⟨h1, h2, h3, h4⟩ | h
  · exact Or.inl ⟨h1, h2, h3, fun a b ha hb hd' => h4 a b ha hb (hd a b ha hb hd')⟩
  · exact Or.inr h
/-- the upper table at one pair: nothing is struck out. -/
theorem StN.keep1 {A B : List Hd} {U0 D0 U D : Nat → Nat → Bool} {again : Bool} {d : Nat → Nat → Prop} (h : StN A B U0 D0 again U D d) : StN A B U0 D0 again U D d := h
theorem StN.strike1 {A B : List Hd} {U0 D0 U D : Nat → Nat → Bool} {again : Bool} {d d' : Nat → Nat → Prop} (h : StN A B U0 D0 again U D d) {i j : Nat} (hi : i < A.length) (hj : j < B.length) (hU : U i j = true) : StN A B U0 D0 true (upd U i j) D d' := by
  have := cnt_upd hi hj hU
  refine Or.inr ⟨rfl, ?_⟩
  rcases h with ⟨h1, h2, h3, h4⟩ | ⟨_, h⟩
  · subst h2 h3; omega
  · omega
theorem StN.strike2 {A B : List Hd} {U0 D0 U D : Nat → Nat → Bool} {again : Bool} {d d' : Nat → Nat → Prop} (h : StN A B U0 D0 again U D d) {i j : Nat} (hi : i < A.length) (hj : j < B.length) (hD : D j i = true) : StN A B U0 D0 true U (upd D j i) d' := by
  have := cnt_upd hj hi hD
  refine Or.inr ⟨rfl, ?_⟩
  rcases h with ⟨h1, h2, h3, h4⟩ | ⟨_, h⟩
  · subst h2 h3; omega
  · omega
/-- one more pair was looked at. -/
theorem StN.next {A B : List Hd} {U0 D0 U D : Nat → Nat → Bool} {again : Bool} {d d' : Nat → Nat → Prop} (h : StN A B U0 D0 again U D d) {i j : Nat} (hc : Chk A B U D i j) (hd : ∀ a b, d' a b → d a b ∨ (a = i ∧ b = j)) : StN A B U0 D0 again U D d' := by
  rcases h with ⟨h1, h2, h3, h4⟩ | h
  · subst h2 h3
    refine Or.inl ⟨h1, rfl, rfl, fun a b ha hb hd' => ?_⟩
    rcases hd a b hd' with h5 | ⟨rfl, rfl⟩
    · exact h4 a b ha hb h5
    · exact hc
  · exact Or.inr h
end Go.Proofs.YtoakfninndkgaaaGreatDoor
