/- A range over a keep's map, the iterator anywhere in the heap; delete of a key. -/
import Derived.Test.YtebldhppnacdjabKm
import Derived.Laws.IdiomRangeMap
set_option linter.unusedVariables false
namespace Go.Proofs.Ytebldhppnacdjab
open Go.RowKit Go.MapKept
theorem run_next_at (w : World) (ty : TypeId) (r bm since c0 : Nat) (seen : Array Nat) (es : Array MapEntry) (clock : Nat) (hr : w.heap[r]? = some (.mapIter (some bm) since seen c0)) (hb : w.heap[bm]? = some (.map es clock)) (hold : ∀ x ∈ es.toList, x.born < since) (hsc : since ≤ c0) :
    ((leftOf es seen).size = 0 ∧ (Instr.next (.pointer (some ⟨r, 0, none⟩)) false ty).run Try.prog w = .ok (.tuple #[.bool false]) w) ∨
    ∃ e ∈ (leftOf es seen).toList, ∃ w1 : World, Below r w w1 ∧ w1.heap.size = w.heap.size ∧ (∀ k, k ≠ r → w1.heap[k]? = w.heap[k]?) ∧ w1.heap[r]? = some (.mapIter (some bm) since (seen.push e.born) clock) ∧
      (Instr.next (.pointer (some ⟨r, 0, none⟩)) false ty).run Try.prog w = .ok (.tuple #[.bool true, e.key, e.val]) w1 := by
  simp only [Instr.next, getObj, Sem.run_bind, Sem.run, hr, hb, Result.andThen, next_test_false seen es since c0 hold hsc, Bool.false_eq_true, if_false]
  unfold leftOf
  have hmem : ∀ x ∈ (Array.filter (fun e => !seen.contains e.born) es).toList, x.born < since := fun x hx => hold x (by simp at hx ⊢; exact hx.1)
  generalize Array.filter (fun e => !seen.contains e.born) es = L at hmem ⊢
  have e1 : L.filter (fun x => decide (x.born < since)) = L := Array.filter_eq_self.2 (fun x hx => by simpa using hmem x (by simpa using hx))
  have e2 : L.filter (fun x => decide (x.born ≥ since)) = #[] := by
    rw [Array.filter_eq_empty_iff]
    intro x hx
    have := hmem x (by simpa using hx)
    simp
    omega
  simp only [e1, e2, Array.append_empty]
  by_cases h0 : L.size = 0
  · left
    have : L = #[] := Array.eq_empty_of_size_eq_zero h0
    subst this
    refine ⟨rfl, ?_⟩
    simp [choose, Sem.run, Question.forced]
  · right
    have hne : L.isEmpty = false := by simp [Array.isEmpty, h0]
    simp only [hne, Bool.false_eq_true, if_false, Array.empty_append, Array.size_map]
    have hch : ∃ (j : Nat) (w1 : World), j < L.size ∧ w1.heap = w.heap ∧ Below r w w1 ∧ (choose (Question.mapNext L.size)).run Try.prog w = .ok j w1 := by
      by_cases hf : L.size ≤ 1
      · exact ⟨0, w, by omega, rfl, Below.refl _ _, by simp [choose, Sem.run, Question.forced, hf]⟩
      · exact ⟨_, w.drew, Nat.mod_lt _ (by omega), rfl, (Below.refl _ _).drew, by
          simp only [choose, Sem.run, Question.forced, decide_eq_true_eq, hf, if_false, Question.cut]
          rfl⟩
    obtain ⟨j, w1, hj, hal, hbl, hrun⟩ := hch
    have hr1 : w1.heap[r]? = some (.mapIter (some bm) since seen c0) := by rw [hal]; exact hr
    refine ⟨L[j], by simp, putMap w1 r (.mapIter (some bm) since (seen.push L[j].born) clock), putMap_below hbl (Nat.le_refl _) _, by rw [putMap_size, hal], fun k hk => by rw [putMap_off hk, hal], putMap_at hr1, ?_⟩
    have hset : ∀ (o' : Obj), (setObj r o').run Try.prog w1 = .ok () (putMap w1 r o') := fun o' => by
      simp only [setObj, Sem.run]
      rw [hr1]
      rfl
    simp only [hrun, Array.getElem?_map, Array.getElem?_eq_getElem hj, Option.map_some, Sem.run_bind, hset, Result.andThen]
    rfl
theorem run_entry_at (w : World) (r bm since : Nat) (seen : Array Nat) (es : Array MapEntry) (clock : Nat) (e : MapEntry) (hr : w.heap[r]? = some (.mapIter (some bm) since (seen.push e.born) clock)) (hb : w.heap[bm]? = some (.map es clock)) (he : e ∈ es.toList) (hn : (es.toList.map (·.born)).Nodup) :
    (Instr.entry (.pointer (some ⟨r, 0, none⟩))).run Try.prog w = .ok (.tuple #[e.key, e.val]) w := by
  have hf : es.find? (·.born == e.born) = some e := by rw [← Array.find?_toList]; exact find_born e es.toList hn he
  simp only [Instr.entry, getObj, Sem.run_bind, Sem.run, hr, hb, Result.andThen, Array.back?_push, bne_self_eq_false, Bool.false_eq_true, if_false, hf]
  rfl
theorem run_del (w' : World) (M c : Nat) (ty : TypeId) (es : Array MapEntry) (hK : Keys es) (hh : Int) {j : Nat} {e : MapEntry} (he : es.toList[j]? = some e) (hk : e.key = .int .u64 hh) (h : w'.heap[M]? = some (.map es c)) :
    (Builtin.delete_ #[49, 37] ty #[.map (some M), .int .u64 hh]).run Try.prog w' = .ok (.tuple #[]) (putMap w' M (.map (es.eraseIdxIfInBounds j) c)) := by
  simp [Builtin.delete_, run_underlying Try.underlying49, MapKept.run_getObj_map h, run_checkKey Try.underlying37 (isKeyH hh), run_findKey (P := Try.prog) Try.underlying37 (find_some hK hh he hk), MapKept.run_setObj_map _ h, Result.andThen, putMap]
theorem range_map (w : World) (M c : Nat) (es : Array MapEntry) (h : w.heap[M]? = some (.map es c)) : (Instr.range 49 (.map (some M))).run Try.prog w = .ok (.pointer (some ⟨w.heap.size, 0, none⟩)) (w.alloc (.mapIter (some M) c #[] c)) := run_range_map w 49 37 53 M es c Try.underlying49 h
end Go.Proofs.Ytebldhppnacdjab
