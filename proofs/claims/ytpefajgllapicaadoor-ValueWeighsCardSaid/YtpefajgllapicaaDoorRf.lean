/- Walks: insert, at the sorted list that a box shows. -/
import Derived.Test.YtpefajgllapicaaDoorRe
set_option linter.unusedVariables false
namespace Go.Proofs.YtpefajgllapicaaDoor
open Go.RowKit
/-- the box at block Bk shows the list E. -/
structure BX (w : World) (base Bk : Nat) (E : List Ent) : Prop where
  ex : ∃ vn vk, w.heap[Bk]? = some (.cells #[vn, vk] 58 (0, 0)) ∧ w.ownsRow base 9 1 vn E.length ((names E).map Value.string) ∧ w.ownsRow base 28 8 vk E.length (cells E)
  rises : Rises E
theorem BX.on {w w' : World} {base Bk : Nat} {E : List Ent} (h : BX w base Bk E) (hb : ∀ k, k < w.heap.size → w'.heap[k]? = w.heap[k]?) : BX w' base Bk E := by
  obtain ⟨⟨vn, vk, h1, h2, h3⟩, hr⟩ := h
  refine ⟨⟨vn, vk, ?_, ?_, ?_⟩, hr⟩
  · rw [hb Bk (Array.getElem?_eq_some_iff.1 h1).1]; exact h1
  · refine ⟨h2.1, ?_⟩
    rcases h2.2 with h' | ⟨g, cap, cur, e1, e2, e3, e4⟩
    · exact Or.inl h'
    · exact Or.inr ⟨g, cap, cur, e1, e2, by rw [hb g (Array.getElem?_eq_some_iff.1 e3).1]; exact e3, e4⟩
  · refine ⟨h3.1, ?_⟩
    rcases h3.2 with h' | ⟨g, cap, cur, e1, e2, e3, e4⟩
    · exact Or.inl h'
    · exact Or.inr ⟨g, cap, cur, e1, e2, by rw [hb g (Array.getElem?_eq_some_iff.1 e3).1]; exact e3, e4⟩
theorem cells_one (E : List Ent) : ∀ u ∈ cells E, u.oneCell' = true := by
  intro u hu
  obtain ⟨e, -, hu⟩ := List.mem_flatMap.1 hu
  have : ∀ u ∈ e.2.cells, u.oneCell' = true := by
    intro u hu
    simp [Kid.cells] at hu
    rcases hu with rfl | rfl | rfl | rfl | rfl | rfl | rfl | rfl <;> rfl
  exact this u hu
theorem insert_BX (w : World) (base Bk : Nat) (E : List Ent) (x : ByteArray) (k : Kid) (h : BX w base Bk E) (hn : E.length ≤ 99998) (hb : base ≤ w.heap.size) (hBk : base ≤ Bk) :
    Calls Tryd.prog 16 #[.pointer (some ⟨Bk, 0, none⟩), .string x, k.val] w fun e w' => e = .returned (.tuple #[]) ∧ BX w' base Bk (insE E x k) ∧ Below base w w' := by
  obtain ⟨⟨vn, vk, h1, h2, h3⟩, hr⟩ := h
  have hpart := part_of E x hr
  cases hat : isAt (names E) (lowP E x) x with
  | true =>
    rw [insE_old E x k hat]
    refine (insert_old w base Bk E.length (lowP E x) (names E) _ _ _ _ _ _ _ _ vn vk x (by simp [names]) hn h1 h2 (lowP_le E x) hpart hat).mono ?_
    rintro e w' ⟨rfl, rfl⟩
    exact ⟨rfl, (BX.on ⟨⟨vn, vk, h1, h2, h3⟩, hr⟩ (fun j hj => Below.heap_alloc w _ j hj)), (Below.refl _ _).alloc hb _⟩
  | false =>
    obtain ⟨n1, n2, n3⟩ := insE_new E x k hat
    refine (insert_new w base Bk E.length (lowP E x) (names E) (cells E) _ _ _ _ _ _ _ _ vn vk x (by simp [names]) hn h1 h2 h3 (cells_one E) ?_ (lowP_le E x) hpart hat hb).mono ?_
    · intro u hu
      simp at hu
      rcases hu with rfl | rfl | rfl | rfl | rfl | rfl | rfl | rfl <;> rfl
    rintro e w' ⟨rfl, hE⟩
    obtain ⟨g1, c1, g2, c2, r1, r2, r3⟩ := hE.rows
    refine ⟨rfl, ⟨⟨_, _, r1, ?_, ?_⟩, insE_rises E x k hr⟩, ⟨hE.os, hE.tape, hE.output, hE.size, fun j hj => hE.block j (by omega) (by omega) ?_ ?_⟩⟩
    · rw [n3, n1]
      simpa [List.map_take, List.map_drop] using r2
    · rw [n3, n2]
      exact r3
    · intro e; have := ownsRow_ge h2 j e; omega
    · intro e; have := ownsRow_ge h3 j e; omega
end Go.Proofs.YtpefajgllapicaaDoor
