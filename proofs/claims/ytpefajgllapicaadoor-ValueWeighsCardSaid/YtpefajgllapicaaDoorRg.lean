/- Record's pairs, plain; the weight of a row of kids. -/
import Derived.Test.YtpefajgllapicaaDoorRf
set_option linter.unusedVariables false
namespace Go.Proofs.YtpefajgllapicaaDoor
open Go.RowKit
/-- the list behind the first j pairs. -/
def upE (P : List Ent) (j : Nat) : List Ent := (P.take j).foldl (fun E e => insE E e.1 e.2) []
theorem upE_zero (P : List Ent) : upE P 0 = [] := rfl
theorem upE_succ (P : List Ent) (j : Nat) (e : Ent) (h : P[j]? = some e) : upE P (j + 1) = insE (upE P j) e.1 e.2 := by
  unfold upE
  rw [List.take_add_one, h, List.foldl_append]
  rfl
theorem insE_len (E : List Ent) (x : ByteArray) (k : Kid) : (insE E x k).length ≤ E.length + 1 := by
  induction E with
  | nil => simp [insE]
  | cons e l ih =>
    rw [insE_cons]
    split
    · simp; omega
    · split <;> simp
theorem upE_len (P : List Ent) (j : Nat) (h : j ≤ P.length) : (upE P j).length ≤ j := by
  induction j with
  | zero => simp [upE_zero]
  | succ j ih =>
    obtain ⟨e, he⟩ : ∃ e, P[j]? = some e := ⟨_, List.getElem?_eq_getElem (by omega)⟩
    rw [upE_succ P j e he]
    exact Nat.le_trans (insE_len _ _ _) (by have := ih (by omega); omega)
theorem upE_mem (P : List Ent) (j : Nat) (h : j ≤ P.length) : ∀ f ∈ upE P j, f ∈ P := by
  induction j with
  | zero => intro f hf; simp [upE_zero] at hf
  | succ j ih =>
    obtain ⟨e, he⟩ : ∃ e, P[j]? = some e := ⟨_, List.getElem?_eq_getElem (by omega)⟩
    rw [upE_succ P j e he]
    intro f hf
    rcases insE_mem _ _ _ f hf with rfl | hf
    · exact List.mem_of_getElem? he
    · exact ih (by omega) f hf
/-- the names and kids that Record is handed, as they lie. -/
structure PairsIn (w : World) (gn on gk : Nat) (P : List Ent) : Prop where
  nm : ∀ j e, P[j]? = some e → w.cell? ⟨gn, on + j, none⟩ = some (.string e.1)
  kc : ∀ j e i u, P[j]? = some e → e.2.cells[i]? = some u → w.cell? ⟨gk, j * 8 + i, none⟩ = some u
theorem cellE (E : List Ent) : ∀ (j : Nat) (e : Ent) (i : Nat) (u : Value), E[j]? = some e → e.2.cells[i]? = some u → (cells E)[j * 8 + i]? = some u := by
  induction E with
  | nil => intro j e i u h; simp at h
  | cons f l ih =>
    intro j e i u h hi
    have h8 : f.2.cells.length = 8 := rfl
    have hi8 : i < 8 := by have := (List.getElem?_eq_some_iff.1 hi).1; exact this
    rw [cells_cons]
    cases j with
    | zero =>
      obtain rfl : f = e := by simpa using h
      rw [List.getElem?_append_left (by omega), Nat.zero_mul, Nat.zero_add]
      exact hi
    | succ j =>
      rw [List.getElem?_append_right (by omega), h8, show (j + 1) * 8 + i - 8 = j * 8 + i by omega]
      exact ih j e i u (by simpa using h) hi
/-- the weights in a row. -/
def hAt (hOf : Kid → Nat) (E : List Ent) (j : Nat) : Nat := match E[j]? with
  | some e => hOf e.2
  | none => 0
theorem sumH_bound (H : Nat → Nat) (B n : Nat) (h : ∀ j, j < n → H j ≤ B) : sumH H n ≤ n * B := by
  induction n with
  | zero => simp [sumH]
  | succ n ih =>
    have h1 := ih (fun j hj => h j (by omega))
    have h2 := h n (by omega)
    show sumH H n + H n ≤ _
    rw [Nat.succ_mul]
    omega
theorem weigh_row (w : World) (base : Nat) (q1 q2 q4 q6 : Value) (kz : Int) (hkz : kz ≠ 2) (s : ByteArray) (hs : s.size ≤ 100000) (a : Option Addr) (c : Nat) (E : List Ent) (hOf : Kid → Nat) (hown : w.ownsRow base 28 8 (.slice a E.length c) E.length (cells E)) (hn : E.length ≤ 1000)
    (hW : ∀ e ∈ E, Weighs w e.2.val (hOf e.2)) (hB : ∀ e ∈ E, hOf e.2 ≤ 100000) : Weighs w (.agg #[.int .i64 kz, q1, q2, .string s, q4, .slice a E.length c, q6, .int .i64 0]) (own9 kz s + sumH (hAt hOf E) E.length) := by
  have hH : ∀ j, j < E.length → hAt hOf E j ≤ 100000 := fun j hj => by
    unfold hAt
    rw [List.getElem?_eq_getElem hj]
    exact hB _ (List.getElem_mem hj)
  have hsum := sumH_bound _ _ _ hH
  have h9 : own9 kz s ≤ 100001 := by unfold own9; split <;> omega
  rcases hown.2 with ⟨h1, h2⟩ | ⟨g, cap, cur, e1, e2, e3, e4, e5, e6, e7⟩
  · rw [h2] at h1
    cases h1
    rw [h2]
    exact weigh_leaf w kz q1 q2 q4 q6 s hkz hs
  · cases e1
    refine weigh_kids w kz q1 q2 q4 q6 s hkz hs g E.length c (hAt hOf E) (by omega) e4 (Array.getElem?_eq_some_iff.1 e3).1 ?_ ?_
    · intro j hj
      obtain ⟨e, he⟩ : ∃ e, E[j]? = some e := ⟨_, List.getElem?_eq_getElem hj⟩
      have hc : ∀ i u, e.2.cells[i]? = some u → w.cell? ⟨g, j * 8 + i, none⟩ = some u := fun i u hi => by
        rw [cell_of_row w g _ _ 28 _ e3]
        exact row_at e7 (cellE E j e i u he hi)
      have hh : hAt hOf E j = hOf e.2 := by unfold hAt; rw [he]
      rw [hh]
      exact ⟨_, _, _, _, _, _, _, _, _, _, _, _, ⟨hc 0 _ rfl, hc 1 _ rfl, hc 2 _ rfl, hc 3 _ rfl, hc 4 _ rfl, hc 5 _ rfl, hc 6 _ rfl, hc 7 _ rfl⟩, hW e (List.mem_of_getElem? he)⟩
    · have : E.length * 100000 ≤ 1000 * 100000 := Nat.mul_le_mul_right _ hn
      omega
end Go.Proofs.YtpefajgllapicaaDoor
