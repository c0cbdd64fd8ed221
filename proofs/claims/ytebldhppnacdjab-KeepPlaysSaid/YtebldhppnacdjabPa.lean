/- KeepPlays: the law's own list: a window of a row of pairs; append, and what is behind the first. -/
import Derived.Test.YtebldhppnacdjabKq
import Derived.ArgAppend
set_option linter.unusedVariables false
namespace Go.Proofs.Ytebldhppnacdjab
open Go.RowKit
theorem Try.info43 : (Try.prog.info? 43).map (fun i => (i.zero, i.size, i.bytes)) = some (some (.agg #[.string ByteArray.empty, .int .i64 0]), 2, 24) := by kernel_rfl
/-- a pair's cells. -/
def pcells (q : List Int × Int) : List Value := [.string (strOfNums q.1), .int .i64 q.2]
def pairs (P : List (List Int × Int)) : List Value := P.flatMap pcells
theorem pairs_length : ∀ P, (pairs P).length = P.length * 2
  | [] => rfl
  | q :: P => by
    have := pairs_length P
    unfold pairs at this ⊢
    rw [List.flatMap_cons, List.length_append, this, List.length_cons]
    show 2 + _ = _
    omega
theorem pairs_at : ∀ (P : List (List Int × Int)) (j : Nat) (q : List Int × Int), P[j]? = some q → (pairs P)[j * 2]? = some (.string (strOfNums q.1)) ∧ (pairs P)[j * 2 + 1]? = some (.int .i64 q.2)
  | [], j, q, h => by simp at h
  | a :: P, 0, q, h => by
    simp at h; subst h
    exact ⟨rfl, rfl⟩
  | a :: P, j + 1, q, h => by
    have := pairs_at P j q (by simpa using h)
    have hs : ∀ i, (pairs (a :: P))[i + 2]? = (pairs P)[i]? := fun i => rfl
    rw [show (j + 1) * 2 = j * 2 + 2 by omega, hs, show j * 2 + 2 + 1 = j * 2 + 1 + 2 by omega, hs]
    exact this
theorem pairs_take : ∀ (P : List (List Int × Int)) (i : Nat), (pairs P).take (i * 2) = pairs (P.take i)
  | [], i => by simp [pairs]
  | a :: P, 0 => by simp [pairs]
  | a :: P, i + 1 => by
    rw [List.take_succ_cons, show (i + 1) * 2 = i * 2 + 2 by omega]
    show _ :: _ :: (pairs P).take (i * 2) = _
    rw [pairs_take P i]
    rfl
theorem pairs_drop : ∀ (P : List (List Int × Int)) (i : Nat), (pairs P).drop (i * 2) = pairs (P.drop i)
  | [], i => by simp [pairs]
  | a :: P, 0 => by simp
  | a :: P, i + 1 => by
    rw [List.drop_succ_cons, ← pairs_drop P i, show (i + 1) * 2 = i * 2 + 2 by omega]
    rfl
theorem pairs_append (P Q : List (List Int × Int)) : pairs (P ++ Q) = pairs P ++ pairs Q := List.flatMap_append
theorem pairs_one (P : List (List Int × Int)) : ∀ u ∈ pairs P, u.oneCell' = true := by
  intro u hu
  obtain ⟨q, -, hu⟩ := List.mem_flatMap.1 hu
  simp only [pcells, List.mem_cons, List.not_mem_nil, or_false] at hu
  rcases hu with rfl | rfl <;> rfl
/-- a slice that reads as a window of an own row of pairs. -/
def Win (w : World) (base : Nat) (v : Value) (P : List (List Int × Int)) : Prop :=
  (v = .slice none 0 0 ∧ P = []) ∨ ∃ (g off cap : Nat) (cur : Array Value), v = .slice (some ⟨g, off, none⟩) P.length cap ∧ base ≤ g ∧ w.heap[g]? = some (.cells cur 43 (0, 0)) ∧ P.length ≤ cap ∧ cap ≤ maxLen ∧ off + cap * 2 ≤ cur.size ∧ (cur.toList.drop off).take (P.length * 2) = pairs P
theorem Win.keep {w w' : World} {base : Nat} {v : Value} {P : List (List Int × Int)} (h : Win w base v P) (hb : ∀ g, v.ownBlock = some g → w'.heap[g]? = w.heap[g]?) : Win w' base v P := by
  rcases h with h | ⟨g, off, cap, cur, rfl, e2, e3, e4⟩
  · exact Or.inl h
  · exact Or.inr ⟨g, off, cap, cur, rfl, e2, by rw [hb g rfl]; exact e3, e4⟩
theorem Win.of_own {w : World} {base b2 : Nat} {v : Value} {n : Nat} {P : List (List Int × Int)} (h : w.ownsRow b2 43 2 v n (pairs P)) (hb : base ≤ b2) (hn : n = P.length) : Win w base v P := by
  subst hn
  rcases h.2 with ⟨rfl, hP⟩ | ⟨g, cap, cur, rfl, e2, e3, e4, e5, e6, e7⟩
  · exact Or.inl ⟨rfl, List.length_eq_zero_iff.1 hP⟩
  · exact Or.inr ⟨g, 0, cap, cur, rfl, by omega, e3, e4, e5, by omega, by rw [List.drop_zero]; exact e7⟩
theorem win_cell {w : World} {g off : Nat} {cur : Array Value} {P : List (List Int × Int)} (h1 : w.heap[g]? = some (.cells cur 43 (0, 0))) (h2 : (cur.toList.drop off).take (P.length * 2) = pairs P) {j : Nat} {u : Value} (hu : (pairs P)[j]? = some u) : w.cell? ⟨g, off + j, none⟩ = some u := by
  rw [cell_of_row w g _ cur 43 _ h1]
  rw [← h2, List.getElem?_take] at hu
  split at hu
  · rw [List.getElem?_drop] at hu
    simpa using hu
  · cases hu
theorem Win.lt {w : World} {base : Nat} {v : Value} {P : List (List Int × Int)} (h : Win w base v P) : ∀ g, v.ownBlock = some g → base ≤ g ∧ g < w.heap.size := by
  rcases h with ⟨rfl, -⟩ | ⟨g, off, cap, cur, rfl, e2, e3, -⟩
  · intro g hg; cases hg
  · intro g' hg; cases hg; exact ⟨e2, (Array.getElem?_eq_some_iff.1 e3).1⟩
/-- the list without its first. -/
theorem win_tail {w : World} {base g off n cap : Nat} {P : List (List Int × Int)} (h : Win w base (.slice (some ⟨g, off, none⟩) (n + 1) cap) P) : P.length = n + 1 ∧ n + 1 ≤ cap ∧ Win w base (.slice (some ⟨g, if cap = 1 then off else off + 2, none⟩) n (cap - 1)) P.tail := by
  rcases h with ⟨h, -⟩ | ⟨g', off', cap', cur, h, e2, e3, e4, e5, e6, e7⟩
  · simp at h
  · simp only [Value.slice.injEq, Option.some.injEq, Addr.mk.injEq, and_true] at h
    obtain ⟨⟨rfl, rfl⟩, h1, rfl⟩ := h
    refine ⟨h1.symm, by omega, Or.inr ⟨g, _, cap - 1, cur, by rw [List.length_tail, ← h1]; simp; rfl, e2, e3, by rw [List.length_tail]; omega, by omega, by split <;> omega, ?_⟩⟩
    rw [List.length_tail, ← h1]
    have hp : pairs P.tail = (pairs P).drop 2 := by
      have := pairs_drop P 1
      rw [List.drop_one] at this
      exact this.symm
    rw [hp, ← e7, ← h1]
    split
    · next hc =>
      have : n = 0 := by omega
      subst this
      simp
    · rw [List.drop_take, List.drop_drop]
      congr 1
      omega
/-- append of one pair to the list. -/
theorem win_append (w : World) (base : Nat) (v : Value) (P : List (List Int × Int)) (h : Win w base v P) (hP : P.length ≤ 100000) (hb : base ≤ w.heap.size) (B c : Nat) (q : List Int × Int) (hB : w.heap[B]? = some (.cells #[.string (strOfNums q.1), .int .i64 q.2] 43 (0, 0))) (ty : TypeId) :
    ∃ v' w', (Builtin.append_ #[41, 41] ty #[v, .slice (some ⟨B, 0, none⟩) 1 c]).run Try.prog w = .ok v' w' ∧ Win w' base v' (P ++ [q]) ∧ (∃ a n c, v' = .slice (some a) n c) ∧ Below base w w' ∧ (∀ k, k < w.heap.size → v.ownBlock ≠ some k → w'.heap[k]? = w.heap[k]?) ∧ (∀ g, v'.ownBlock = some g → v.ownBlock = some g ∨ w.heap.size ≤ g) := by
  obtain ⟨i0, hi, hz0, hz1, hz2⟩ := info_parts Try.info43
  have hnews : ∀ j u, [Value.string (strOfNums q.1), .int .i64 q.2][j]? = some u → w.cell? ((⟨B, 0, none⟩ : Addr).add j) = some u := fun j u hu => by
    have hadd : (⟨B, 0, none⟩ : Addr).add j = ⟨B, j, none⟩ := by unfold Addr.add; split <;> simp_all
    rw [hadd, cell_of_row w B j _ 43 _ hB]
    simpa using hu
  have hone : ∀ u ∈ [Value.string (strOfNums q.1), .int .i64 q.2], u.oneCell' = true := by
    intro u hu
    simp only [List.mem_cons, List.not_mem_nil, or_false] at hu
    rcases hu with rfl | rfl <;> rfl
  have hpq : pairs (P ++ [q]) = pairs P ++ [.string (strOfNums q.1), .int .i64 q.2] := by rw [pairs_append]; rfl
  rcases h with ⟨rfl, rfl⟩ | ⟨g, off, cap, cur, rfl, e2, e3, e4, e5, e6, e7⟩
  · obtain ⟨v', w', r1, r2, r3, r4⟩ := run_append_own (P := Try.prog) w w.heap.size 41 ty 43 i0 (.agg #[.string ByteArray.empty, .int .i64 0]) 2 24 Try.underlying41 hi hz0 hz1 hz2 rfl (by decide) (.slice none 0 0) 0 [] (World.ownsRow_nil _ _ _ _) ⟨B, 0, none⟩ 1 c [.string (strOfNums q.1), .int .i64 q.2] rfl hnews hone (by unfold maxLen; omega) (by omega) (Nat.le_refl _)
    have hw : Win w' base v' ([] ++ [q]) := Win.of_own (b2 := w.heap.size) (n := 0 + 1) (by rw [hpq]; exact r2) hb rfl
    refine ⟨v', w', r1, hw, ?_, ?_, fun k h1 h2 => r3.block k h1 (by simp [Value.ownBlock]), ?_⟩
    · rcases hw with ⟨h, hc⟩ | ⟨g, off, cap, cur, h, -⟩
      · simp at hc
      · exact ⟨_, _, _, h⟩
    · exact (Below.refl base w).grown r3 hb (fun k hk => by simp [Value.ownBlock] at hk)
    · exact fun g hg => Or.inr (ownsRow_ge r2 g hg)
  · by_cases hr : P.length + 1 ≤ cap
    · have hlen : (pairs P).length = P.length * 2 := pairs_length P
      have hrun := run_append_room_cells (P := Try.prog) w 41 ty 43 i0 Try.underlying41 hi g off P.length cap ⟨B, 0, none⟩ 1 c [.string (strOfNums q.1), .int .i64 q.2] (by rw [hz1]; rfl) hnews hone hr
        (fun j hj => by rw [hz1, cell_of_row w g _ cur 43 _ e3, Array.getElem?_eq_getElem (by simp at hj; omega)]; rfl) (fun j hj => frozen_of_row w g _ cur 43 e3)
      rw [hz1] at hrun
      obtain ⟨A, hA⟩ : ∃ A, A = off + P.length * 2 := ⟨_, rfl⟩
      rw [← hA] at hrun
      have h1 := heap_setCell_same w g A cur 43 (.string (strOfNums q.1)) e3
      have h2 := heap_setCell_same _ g (A + 1) _ 43 (.int .i64 q.2) h1
      have hoff : ∀ k, k ≠ g → (w.setCells g A [.string (strOfNums q.1), .int .i64 q.2]).heap[k]? = w.heap[k]? := fun k hk => setCells_off g _ _ _ k hk
      refine ⟨_, _, hrun, Or.inr ⟨g, off, cap, _, by simp, e2, h2, by simpa using hr, e5, by simpa using e6, ?_⟩, ⟨_, _, _, rfl⟩, setCells_below e2 _ _ _ (Below.refl _ _), fun k _ hk => hoff k (fun e => hk (by rw [e]; rfl)), fun g' hg' => Or.inl (by rw [← hg']; rfl)⟩
      have hl2 : A + 1 < cur.toList.length := by rw [Array.length_toList]; omega
      rw [hpq, ← e7]
      simp only [Array.toList_setIfInBounds, List.length_append, List.length_singleton]
      apply List.ext_getElem?
      intro i
      rw [List.getElem?_take, List.getElem?_drop, List.getElem?_set, List.getElem?_set, List.getElem?_append, List.getElem?_take, List.getElem?_drop]
      have ht : ((cur.toList.drop off).take (P.length * 2)).length = P.length * 2 := by rw [e7, pairs_length]
      rw [ht]
      by_cases c1 : i < P.length * 2
      · rw [if_pos (by omega), if_neg (by omega), if_neg (by omega), if_pos c1, if_pos c1]
      · rw [if_neg c1]
        by_cases c2 : i = P.length * 2
        · rw [if_pos (by omega), if_neg (by omega), if_pos (by omega), if_pos (by omega), c2, Nat.sub_self]
          rfl
        · by_cases c3 : i = P.length * 2 + 1
          · rw [if_pos (by omega), if_pos (by omega), if_pos (by rw [List.length_set]; omega), c3, show P.length * 2 + 1 - P.length * 2 = 1 by omega]
            rfl
          · rw [if_neg (by omega), List.getElem?_eq_none (by simp; omega)]
    · obtain ⟨v', w', r1, r2, r3⟩ := run_append_arg_grows (P := Try.prog) w 41 ty 43 i0 (.agg #[.string ByteArray.empty, .int .i64 0]) 2 24 Try.underlying41 hi hz0 hz1 hz2 rfl (by decide) ⟨g, off, none⟩ P.length cap (pairs P) (pairs_length P) (fun j u hj => by rw [Addr.add_lit]; exact win_cell e3 e7 hj) ⟨B, 0, none⟩ 1 c [.string (strOfNums q.1), .int .i64 q.2] rfl hnews (by omega) (by unfold maxLen; omega) (by omega)
      have hw : Win w' base v' (P ++ [q]) := Win.of_own (b2 := w.heap.size) (n := P.length + 1) (by rw [hpq]; exact r2) hb (by simp)
      refine ⟨v', w', r1, hw, ?_, ?_, fun k h1 h2 => r3.block k h1 (by simp), ?_⟩
      · rcases hw with ⟨h, hc⟩ | ⟨g, off, cap, cur, h, -⟩
        · simp at hc
        · exact ⟨_, _, _, h⟩
      · exact (Below.refl base w).grown r3 hb (fun k hk => by simp at hk)
      · exact fun g hg => Or.inr (ownsRow_ge r2 g hg)
end Go.Proofs.Ytebldhppnacdjab
