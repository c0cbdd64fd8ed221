/- A row of entries: cells stored one by one, one entry less; the builtin clear of one entry. -/
import Derived.Test.YtebldhppnacdjabKj
import Derived.Deep.RegionLaw
import Derived.Deep.MidRow
set_option linter.unusedVariables false
namespace Go.Proofs.Ytebldhppnacdjab
open Go.RowKit
theorem run_clear1 (w : World) (g o c : Nat) (ty : TypeId) (ht : w.there g o 3) : (Builtin.clear_ #[53] ty #[.slice (some ⟨g, o, none⟩) 1 c]).run Try.prog w = .ok (.tuple #[]) (w.setCells g o [.slice none 0 0, .int .i64 0, .int .i64 0]) := by
  have hz : (zeroValue 55).run Try.prog w = .ok (.agg #[.slice none 0 0, .int .i64 0, .int .i64 0]) w := by rfl
  have hc : (Builtin.zeroCells (Value.agg #[.slice none 0 0, .int .i64 0, .int .i64 0]).cells 1).toList = [.slice none 0 0, .int .i64 0, .int .i64 0] := by
    simp [Builtin.zeroCells, Value.cells]
    rfl
  have := run_storeCells_cells (P := Try.prog) g o [.slice none 0 0, .int .i64 0, .int .i64 0] 0 w (fun j hj => by simpa using (ht j (by simpa using hj)).1) (fun j hj => by simpa using (ht j (by simpa using hj)).2) (fun v hv => by simp at hv; rcases hv with rfl | rfl <;> rfl)
  simp only [Nat.add_zero] at this
  simp [Builtin.clear_, run_underlying Try.underlying53, hz, hc, this, Result.andThen]
def sets : List Value → Nat → List Value → List Value
  | xs, _, [] => xs
  | xs, o, v :: r => sets (xs.set o v) (o + 1) r
theorem sets_length : ∀ (vs xs : List Value) (o : Nat), (sets xs o vs).length = xs.length
  | [], _, _ => rfl
  | v :: r, xs, o => by rw [sets, sets_length r, List.length_set]
theorem sets_eq : ∀ (vs xs : List Value) (o : Nat), o + vs.length ≤ xs.length → sets xs o vs = xs.take o ++ vs ++ xs.drop (o + vs.length)
  | [], xs, o, _ => by simp [sets]
  | v :: r, xs, o, h => by
    have hl : o < xs.length := by simp at h; omega
    rw [sets, sets_eq r (xs.set o v) (o + 1) (by simp at h ⊢; omega)]
    rw [List.take_add_one, List.getElem?_set_self (by simpa using hl), List.take_set_of_le (by omega), List.drop_set_of_lt (by omega)]
    simp [Nat.add_assoc, Nat.add_comm 1]
theorem ownsRow_setCells {base g n cap : Nat} : ∀ (vs : List Value) (w : World) (xs : List Value) (o : Nat), w.ownsRow base 55 3 (.slice (some ⟨g, 0, none⟩) n cap) n xs → (w.setCells g o vs).ownsRow base 55 3 (.slice (some ⟨g, 0, none⟩) n cap) n (sets xs o vs)
  | [], _, _, _, h => h
  | v :: r, w, xs, o, h => ownsRow_setCells r _ _ (o + 1) (h.stored o v).1
theorem setCells_off (g : Nat) : ∀ (vs : List Value) (w : World) (o k : Nat), k ≠ g → (w.setCells g o vs).heap[k]? = w.heap[k]?
  | [], _, _, _, _ => rfl
  | v :: r, w, o, k, h => (setCells_off g r _ (o + 1) k h).trans (Below.heap_setCell _ _ _ _ (by simpa using h))
theorem setCells_below {base g : Nat} {a : World} (hg : base ≤ g) : ∀ (vs : List Value) (w : World) (o : Nat), Below base a w → Below base a (w.setCells g o vs)
  | [], _, _, h => h
  | v :: r, w, o, h => setCells_below hg r _ (o + 1) (h.setCell (p := ⟨g, o, none⟩) hg v)
/-- a row with one entry less at its end. -/
theorem ownsRow_less {w : World} {base g n m cap : Nat} {xs : List Value} (h : w.ownsRow base 55 3 (.slice (some ⟨g, 0, none⟩) n cap) n xs) (hm : m ≤ n) : w.ownsRow base 55 3 (.slice (some ⟨g, 0, none⟩) m cap) m (xs.take (m * 3)) := by
  have hl := h.1
  rcases h.2 with ⟨h', _⟩ | ⟨g', cap', cur, h', e1, e2, e3, e4, e5, e6⟩
  · simp at h'
  · simp only [Value.slice.injEq, Option.some.injEq, Addr.mk.injEq, and_true, true_and] at h'
    obtain ⟨rfl, rfl⟩ := h'
    refine ⟨by rw [List.length_take, hl]; omega, Or.inr ⟨g, cap, cur, rfl, e1, e2, by omega, e4, e5, ?_⟩⟩
    rw [← e6, List.take_take, Nat.min_eq_left (by omega)]
end Go.Proofs.Ytebldhppnacdjab
