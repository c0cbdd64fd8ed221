/- Plain: aids. -/
import Derived.Test.YtifilhkkgkihpaaGreatDoorAs04
set_option linter.unusedSimpArgs false
set_option linter.unusedVariables false
set_option linter.unusedSimpArgs false
set_option linter.unusedVariables false
namespace Go.Proofs.YtifilhkkgkihpaaGreatDoor
open Go.RowKit
theorem keepB {W w5 : World} {n b o : Nat} {v : Value} (hb : Below n W w5) (hlt : b < n) (h : W.cell? ⟨b, o, none⟩ = some v) : w5.cell? ⟨b, o, none⟩ = some v := (hb.cell (p := ⟨b, o, none⟩) hlt).trans h
theorem Val.grown_set (w : World) (B i : Nat) (v : Value) : w.grownBy (w.setCell ⟨B, i, none⟩ v) (some B) := ⟨rfl, rfl, rfl, by simp, fun j hj hne => Below.heap_setCell _ _ _ _ (fun e => hne (by rw [e]))⟩
/-- all heads may be. -/
def OkHeads (HS : List Hd) : Prop := ∀ h ∈ HS, headB h.kd h.op HS.length h.NS h.KS = true
theorem OkHeads.of_graph {root : Int} {HS : List Hd} (h : graphB root HS = true) : OkHeads HS ∧ 0 ≤ root ∧ root < (HS.length : Int) := by
  unfold graphB at h
  simp only [Bool.and_eq_true, decide_eq_true_eq, List.all_eq_true] at h
  exact ⟨fun x hx => h.2 x hx, h.1.1.2, h.1.2⟩
theorem head_kind {h : Hd} {n : Int} (e : headB h.kd h.op n h.NS h.KS = true) : (0 ≤ h.kd ∧ h.kd ≤ 9) ∧ risesB h.NS = true ∧ (∀ k ∈ h.KS, 0 ≤ k ∧ k < n) ∧ (h.kd = 8 ∨ h.kd = 9 → h.NS.length = h.KS.length) ∧ (h.kd = 7 → h.NS.length = 0 ∧ h.KS.length = 2) ∧ (h.kd ≤ 6 → h.NS.length = 0 ∧ h.KS.length = 0) ∧ (h.op = true → h.kd = 9) := by
  unfold headB at e
  simp only [Bool.and_eq_true, bne_iff_ne, List.all_eq_true, decide_eq_true_eq] at e
  obtain ⟨⟨⟨e1, e2⟩, e3⟩, e4⟩ := e
  refine ⟨?_, e2, e3, ?_⟩
  all_goals
    unfold typB at e4
    by_cases h0 : h.op = true ∧ h.kd ≠ 9
    · rw [if_pos h0] at e4; cases e4
    rw [if_neg h0] at e4
    by_cases h7 : h.kd = 7
    · rw [if_pos h7] at e4
      simp only [Bool.and_eq_true, decide_eq_true_eq] at e4
      first | omega | exact ⟨fun h => by omega, fun _ => e4, fun h => by omega, fun ho => by
        by_cases h9 : h.kd = 9
        · exact h9
        · exact absurd ⟨ho, h9⟩ h0⟩
    rw [if_neg h7] at e4
    by_cases h8 : h.kd = 8
    · rw [if_pos h8] at e4
      simp only [Bool.and_eq_true, decide_eq_true_eq] at e4
      first | omega | exact ⟨fun _ => e4.1, fun h => by omega, fun h => by omega, fun ho => by
        by_cases h9 : h.kd = 9
        · exact h9
        · exact absurd ⟨ho, h9⟩ h0⟩
    rw [if_neg h8] at e4
    by_cases h9 : h.kd = 9
    · rw [if_pos h9] at e4
      simp only [Bool.and_eq_true, decide_eq_true_eq] at e4
      first | omega | exact ⟨fun _ => e4.1, fun h => by omega, fun h => by omega, fun _ => h9⟩
    rw [if_neg h9] at e4
    simp only [Bool.and_eq_true, decide_eq_true_eq] at e4
    first | omega | exact ⟨fun h => by omega, fun h => by omega, fun _ => ⟨e4.1.2, e4.2⟩, fun ho => absurd ⟨ho, h9⟩ h0⟩
theorem Val.row_at {cur : Array Value} {m k : Nat} {xs : List Value} {u : Value} (h : cur.toList.take m = xs) (hk : xs[k]? = some u) : cur[k]? = some u := by
  subst h
  rw [List.getElem?_take] at hk
  split at hk
  · simpa using hk
  · cases hk
theorem row_at {cur : Array Value} {m k : Nat} {xs : List Value} {u : Value} (h : cur.toList.take m = xs) (hk : xs[k]? = some u) : cur[k]? = some u := Val.row_at h hk
theorem own_cells {w : World} {base : Nat} {e : TypeId} {size n : Nat} {a : Option Addr} {c : Nat} {xs : List Value} (h : w.ownsRow base e size (.slice a n c) n xs) : n = 0 ∨ ∃ g cur, a = some ⟨g, 0, none⟩ ∧ g < w.heap.size ∧ w.heap[g]? = some (.cells cur e (0, 0)) ∧ cur.toList.take (n * size) = xs := by
  rcases h.2 with ⟨-, h0⟩ | ⟨g, cap, cur, e1, e2, e3, e4, e5, e6, e7⟩
  · exact Or.inl h0
  · cases e1
    exact Or.inr ⟨g, cur, rfl, (Array.getElem?_eq_some_iff.1 e3).1, e3, e7⟩
theorem HeadsIn.on {w w' : World} {la : Option Addr} {ln : Nat} {HS : List Hd} (h : HeadsIn w la ln HS) (hb : Below w.heap.size w w') : HeadsIn w' la ln HS := by
  refine ⟨h.1, ?_⟩
  rcases h.2 with h0 | ⟨g, o, e, hg, hc⟩
  · exact Or.inl h0
  · refine Or.inr ⟨g, o, e, Nat.lt_of_lt_of_le hg hb.size, fun i x hx => ?_⟩
    have r := hc i x hx
    exact ⟨keepB hb hg r.c0, keepB hb hg r.c1, keepB hb hg r.c2, keepB hb hg r.c3, r.ok.on hb⟩
end Go.Proofs.YtifilhkkgkihpaaGreatDoor
