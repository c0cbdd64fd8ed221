/- Walks: BinarySearch in a row of one's own; insert, of a name that is not there. -/
import Derived.Test.YtoakfninndkgaaaGreatDoorXJc
import Derived.Test.YtoakfninndkgaaaGreatDoorXRa
import Derived.Test.YtoakfninndkgaaaGreatDoorXId
set_option linter.unusedVariables false
namespace Go.Proofs.YtoakfninndkgaaaGreatDoor.Val
open Go.RowKit
theorem row_at {cur : Array Value} {m k : Nat} {xs : List Value} {u : Value} (h : cur.toList.take m = xs) (hk : xs[k]? = some u) : cur[k]? = some u := by
  subst h
  rw [List.getElem?_take] at hk
  split at hk
  · simpa using hk
  · cases hk
theorem bs_own (w : World) (base n p : Nat) (S : List ByteArray) (x : ByteArray) (v : Value) (hS : S.length = n) (hn : n ≤ 100000) (h : w.ownsRow base 9 1 v n (S.map Value.string)) (hp : p ≤ n) (hpart : Hid (∀ k s, S[k]? = some s → Op.bytesLess s.toList x.toList = decide (k < p))) :
    Calls Tryz.prog 65 #[v, .string x] w fun e w' => e = .returned (.tuple #[.int .i64 (p : Int), .bool (isAt S p x)]) ∧ w = w' := by
  rcases h.2 with ⟨rfl, h0⟩ | ⟨g, cap, cur, rfl, e2, e3, e4, e5, e6, e7⟩
  · subst h0
    have hS0 : S = [] := List.length_eq_zero_iff.1 hS
    subst hS0
    obtain rfl : p = 0 := by omega
    exact bs_nil w x
  · refine bs_any w g 0 n cap p S x hS hn (Lib.hid fun k s hk => ?_) hp hpart
    rw [Nat.zero_add, cell_of_row w g k _ 9 _ e3]
    exact row_at e7 (by rw [List.getElem?_map, hk]; rfl)
theorem own_apart {w : World} {base Y : Nat} {e t : TypeId} {size n : Nat} {v : Value} {xs : List Value} {c : Array Value} (h : w.ownsRow base e size v n xs) (hY : w.heap[Y]? = some (.cells c t (0, 0))) (het : e ≠ t) : v.ownBlock ≠ some Y := by
  intro hv
  rcases h.2 with h' | ⟨g, cap, cur, e1, e2, e3, e4⟩
  · rw [h'.1] at hv; cases hv
  · rw [e1] at hv
    cases hv
    rw [e3] at hY
    cases hY
    exact het rfl
theorem own_none_or {v u : Value} (h : ∀ g, v.ownBlock = some g → u.ownBlock ≠ some g) : v.ownBlock = none ∨ v.ownBlock ≠ u.ownBlock := by
  cases hv : v.ownBlock with
  | none => exact Or.inl rfl
  | some g => exact Or.inr (fun e => h g hv e.symm)
theorem own_in {w : World} {base : Nat} {e : TypeId} {size n : Nat} {v : Value} {xs : List Value} (h : w.ownsRow base e size v n xs) {g : Nat} (hv : v.ownBlock = some g) : ∃ c, w.heap[g]? = some (.cells c e (0, 0)) := by
  rcases h.2 with h' | ⟨g', cap, cur, e1, e2, e3, e4⟩
  · rw [h'.1] at hv; cases hv
  · rw [e1] at hv; cases hv; exact ⟨cur, e3⟩
theorem own_two {w : World} {base b2 : Nat} {e t : TypeId} {size n s2 n2 : Nat} {v u : Value} {xs ys : List Value} (h : w.ownsRow base e size v n xs) (h2 : w.ownsRow b2 t s2 u n2 ys) (het : e ≠ t) : v.ownBlock = none ∨ v.ownBlock ≠ u.ownBlock :=
  own_none_or fun g hg hu => by
    obtain ⟨c, hc⟩ := own_in h2 hu
    exact own_apart h hc het hg
/-- a world of insert's: the box as it was, the kid, the two rows, what is left alone. -/
structure InsAt (w0 : World) (base Bk X : Nat) (vn0 vk0 : Value) (k : Array Value) (vn : Value) (n : Nat) (xn : List Value) (vk : Value) (m : Nat) (xk : List Value) (w : World) : Prop where
  box : w.heap[Bk]? = some (.cells #[vn0, vk0] 120 (0, 0))
  kid : w.heap[X]? = some (.cells k 70 (0, 0))
  names : w.ownsRow base 9 1 vn n xn
  kids : w.ownsRow base 70 8 vk m xk
  os : w.os = w0.os
  tape : w.tape = w0.tape
  output : w.output = w0.output
  size : w0.heap.size ≤ w.heap.size
  block : ∀ j, j < w0.heap.size → j ≠ Bk → vn0.ownBlock ≠ some j → vk0.ownBlock ≠ some j → w.heap[j]? = w0.heap[j]?
  nown : ∀ g, vn.ownBlock = some g → vn0.ownBlock = some g ∨ w0.heap.size ≤ g
  kown : ∀ g, vk.ownBlock = some g → vk0.ownBlock = some g ∨ w0.heap.size ≤ g
  xkid : w0.heap.size ≤ X
variable {w0 w w' : World} {base Bk X n m : Nat} {vn0 vk0 vn vk : Value} {k : Array Value} {xn xk : List Value}
theorem InsAt.alloc (h : InsAt w0 base Bk X vn0 vk0 k vn n xn vk m xk w) (o : Obj) : InsAt w0 base Bk X vn0 vk0 k vn n xn vk m xk (w.alloc o) where
  box := by rw [Below.heap_alloc w o Bk (Array.getElem?_eq_some_iff.1 h.box).1]; exact h.box
  kid := by rw [Below.heap_alloc w o X (Array.getElem?_eq_some_iff.1 h.kid).1]; exact h.kid
  names := h.names.kept (World.grownBy_alloc w _ none) (by cases h : vn.ownBlock <;> simp)
  kids := h.kids.kept (World.grownBy_alloc w _ none) (by cases h : vk.ownBlock <;> simp)
  os := h.os
  tape := h.tape
  output := h.output
  size := by have := h.size; simp; omega
  block := fun j hj h1 h2 h3 => by rw [Below.heap_alloc w o j (by have := h.size; omega)]; exact h.block j hj h1 h2 h3
  nown := h.nown
  kown := h.kown
  xkid := h.xkid
theorem InsAt.drew (h : InsAt w0 base Bk X vn0 vk0 k vn n xn vk m xk w) : InsAt w0 base Bk X vn0 vk0 k vn n xn vk m xk w.drew :=
  ⟨h.box, h.kid, h.names, h.kids, h.os, h.tape, h.output, h.size, h.block, h.nown, h.kown, h.xkid⟩
theorem InsAt.ins24 (h : InsAt w0 base Bk X vn0 vk0 k vn n xn vk m xk w) (hg : w.grownBy w' vn.ownBlock) {g cap n2 : Nat} {x2 : List Value} (hr : w'.ownsRow base 9 1 (.slice (some ⟨g, 0, none⟩) n2 cap) n2 x2) (ho : vn.ownBlock = some g ∨ g = w.heap.size) : InsAt w0 base Bk X vn0 vk0 k (.slice (some ⟨g, 0, none⟩) n2 cap) n2 x2 vk m xk w' where
  box := (hg.block Bk (Array.getElem?_eq_some_iff.1 h.box).1 (fun e => own_apart h.names h.box (by decide) e.symm)).trans h.box
  kid := (hg.block X (Array.getElem?_eq_some_iff.1 h.kid).1 (fun e => own_apart h.names h.kid (by decide) e.symm)).trans h.kid
  names := hr
  kids := h.kids.kept hg (own_two h.kids h.names (by decide))
  os := hg.os.trans h.os
  tape := hg.tape.trans h.tape
  output := hg.output.trans h.output
  size := Nat.le_trans h.size hg.size
  block := fun j hj h1 h2 h3 => by
    rw [hg.block j (by have := h.size; omega) (fun e => ?_)]
    · exact h.block j hj h1 h2 h3
    · rcases h.nown j e.symm with h4 | h4
      · exact h2 h4
      · omega
  nown := fun g' hg' => by
    cases hg'
    rcases ho with h4 | h4
    · exact h.nown _ h4
    · exact Or.inr (by rw [h4]; exact h.size)
  kown := h.kown
  xkid := h.xkid
/-- behind the second call: without the kid. -/
theorem InsAt.ins25 (h : InsAt w0 base Bk X vn0 vk0 k vn n xn vk m xk w) (hg : w.grownBy w' vk.ownBlock) {g cap n2 : Nat} {x2 : List Value} (hr : w'.ownsRow base 70 8 (.slice (some ⟨g, 0, none⟩) n2 cap) n2 x2) (ho : vk.ownBlock = some g ∨ g = w.heap.size) (hXk : vk0.ownBlock ≠ some X) (hkk : vk.ownBlock = vk0.ownBlock) : InsAt w0 base Bk X vn0 vk0 k vn n xn (.slice (some ⟨g, 0, none⟩) n2 cap) n2 x2 w' where
  box := (hg.block Bk (Array.getElem?_eq_some_iff.1 h.box).1 (fun e => own_apart h.kids h.box (by decide) e.symm)).trans h.box
  kid := (hg.block X (Array.getElem?_eq_some_iff.1 h.kid).1 (fun e => hXk (by rw [← hkk]; exact e.symm))).trans h.kid
  names := h.names.kept hg (own_two h.names h.kids (by decide))
  kids := hr
  os := hg.os.trans h.os
  tape := hg.tape.trans h.tape
  output := hg.output.trans h.output
  size := Nat.le_trans h.size hg.size
  block := fun j hj h1 h2 h3 => by
    rw [hg.block j (by have := h.size; omega) (fun e => ?_)]
    · exact h.block j hj h1 h2 h3
    · rcases h.kown j e.symm with h4 | h4
      · exact h3 h4
      · omega
  nown := h.nown
  kown := fun g' hg' => by
    cases hg'
    rcases ho with h4 | h4
    · exact h.kown _ h4
    · exact Or.inr (by rw [h4]; exact h.size)
  xkid := h.xkid
/-- the end: what insert leaves. -/
structure InsEnd (w0 : World) (base Bk : Nat) (vn0 vk0 : Value) (n : Nat) (xn xk : List Value) (w : World) : Prop where
  rows : ∃ g1 c1 g2 c2, w.heap[Bk]? = some (.cells #[.slice (some ⟨g1, 0, none⟩) n c1, .slice (some ⟨g2, 0, none⟩) n c2] 120 (0, 0)) ∧ w.ownsRow base 9 1 (.slice (some ⟨g1, 0, none⟩) n c1) n xn ∧ w.ownsRow base 70 8 (.slice (some ⟨g2, 0, none⟩) n c2) n xk
  os : w.os = w0.os
  tape : w.tape = w0.tape
  output : w.output = w0.output
  size : w0.heap.size ≤ w.heap.size
  block : ∀ j, j < w0.heap.size → j ≠ Bk → vn0.ownBlock ≠ some j → vk0.ownBlock ≠ some j → w.heap[j]? = w0.heap[j]?
theorem grown_set (w : World) (B i : Nat) (v : Value) : w.grownBy (w.setCell ⟨B, i, none⟩ v) (some B) := ⟨rfl, rfl, rfl, by simp, fun j hj hne => Below.heap_setCell _ _ _ _ (fun e => hne (by rw [e]))⟩
theorem InsAt.done {g1 c1 g2 c2 : Nat} (h : InsAt w0 base Bk X vn0 vk0 k (.slice (some ⟨g1, 0, none⟩) n c1) n xn (.slice (some ⟨g2, 0, none⟩) n c2) n xk w) :
    InsEnd w0 base Bk vn0 vk0 n xn xk ((w.setCell ⟨Bk, 0, none⟩ (.slice (some ⟨g1, 0, none⟩) n c1)).setCell ⟨Bk, 1, none⟩ (.slice (some ⟨g2, 0, none⟩) n c2)) where
  rows := by
    refine ⟨g1, c1, g2, c2, ?_, ?_, ?_⟩
    · rw [heap_setCell_same _ Bk 1 _ 120 _ (heap_setCell_same w Bk 0 _ 120 _ h.box)]
      rfl
    · have ha := own_apart h.names h.box (by decide)
      exact (h.names.kept (grown_set w Bk 0 _) (Or.inr ha)).kept (grown_set _ Bk 1 _) (Or.inr ha)
    · have ha := own_apart h.kids h.box (by decide)
      exact (h.kids.kept (grown_set w Bk 0 _) (Or.inr ha)).kept (grown_set _ Bk 1 _) (Or.inr ha)
  os := h.os
  tape := h.tape
  output := h.output
  size := by have := h.size; simp; omega
  block := fun j hj h1 h2 h3 => by
    rw [Below.heap_setCell _ _ _ _ (show j ≠ Bk from h1), Below.heap_setCell _ _ _ _ (show j ≠ Bk from h1)]
    exact h.block j hj h1 h2 h3
end Go.Proofs.YtoakfninndkgaaaGreatDoor.Val
