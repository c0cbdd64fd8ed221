/- Walks: an arena's plain functions. -/
import Derived.Test.YtoakfninndkgaaaGreatDoorNl
set_option linter.unusedVariables false
namespace Go.Proofs.YtoakfninndkgaaaGreatDoor
open Go.RowKit
theorem ownsRow_mono {w w' : World} {base : Nat} {e : TypeId} {size : Nat} {v : Value} {n : Nat} {xs : List Value} (h : w.ownsRow base e size v n xs) (hb : ∀ g, v.ownBlock = some g → w'.heap[g]? = w.heap[g]?) : w'.ownsRow base e size v n xs := by
  refine ⟨h.1, ?_⟩
  rcases h.2 with h' | ⟨g, cap, cur, rfl, e2, e3, e4⟩
  · exact Or.inl h'
  · exact Or.inr ⟨g, cap, cur, rfl, e2, by rw [hb g rfl]; exact e3, e4⟩
/-- an arena as it lies: its box at A, its row of parts at base or behind it. -/
structure ArenaAt (w : World) (A base : Nat) (la : Option Addr) (ln lc : Nat) (most : Int) (ps : List Value) : Prop where
  box : w.heap[A]? = some (.cells #[.slice la ln lc, .int .i64 most] 79 (0, 0))
  own : w.ownsRow base 83 9 (.slice la ln lc) ln ps
  lt : A < base
  le : base ≤ w.heap.size
theorem ArenaAt.on {w w' : World} {A base : Nat} {la : Option Addr} {ln lc : Nat} {most : Int} {ps : List Value} (h : ArenaAt w A base la ln lc most ps) (hb : Below w.heap.size w w') : ArenaAt w' A base la ln lc most ps :=
  ⟨(hb.block A (Nat.lt_of_lt_of_le h.lt h.le)).trans h.box, ownsRow_mono h.own (fun g hg => hb.block g (h.own.lt g hg).2), h.lt, Nat.le_trans h.le hb.size⟩
set_option maxRecDepth 20000 in
set_option maxHeartbeats 2000000 in
theorem new_ok (w : World) (m : Int) (h1 : 1 ≤ m) (h2 : m ≤ 1048576) :
    Calls Tryz.prog 10 #[.int .i64 m] w fun e w' => e = .returned (.tuple #[.pointer (some ⟨w.heap.size, 0, none⟩), .int .i64 0]) ∧ w' = w.alloc (.cells #[.slice none 0 0, .int .i64 m] 79) := by
  have h3 : ¬ m < 1 := by omega
  have h4 : ¬ 1048576 < m := by omega
  go_enter Tryz.func10, Tryz.ntmps10
  go_wp2
  go_ret2
  exact ⟨rfl, rfl⟩
set_option maxRecDepth 20000 in
set_option maxHeartbeats 2000000 in
theorem room_any (w : World) (A : Nat) (la : Option Addr) (ln lc : Nat) (most n : Int) (hA : w.heap[A]? = some (.cells #[.slice la ln lc, .int .i64 most] 79 (0, 0))) (hn : (ln : Int) + n ≤ maxLen) (h0 : 0 ≤ n) :
    Calls Tryz.prog 35 #[.pointer (some ⟨A, 0, none⟩), .int .i64 n] w fun e w' => e = .returned (.int .i64 (if most < (ln : Int) + n then 12 else 0)) ∧ Below w.heap.size w w' := by
  have a0 : w.cell? ⟨A, 0, none⟩ = some (.slice la ln lc) := (by rw [cell_of_row _ _ 0 _ 79 _ hA]; rfl)
  have a1 : w.cell? ⟨A, 1, none⟩ = some (.int .i64 most) := (by rw [cell_of_row _ _ 1 _ 79 _ hA]; rfl)
  have hw : IntKind.i64.wrap ((ln : Int) + n) = (ln : Int) + n := by rw [IntKind.wrap_i64]; simp only [maxLen] at hn; omega
  clear hA
  by_cases hm : most < (ln : Int) + n
  · go_enter Tryz.func35, Tryz.ntmps35
    go_wp2
    go_region
    go_wp2
    go_ret
    refine ⟨?_, (Below.refl _ _).drew⟩
    simp [hm]
  · go_enter Tryz.func35, Tryz.ntmps35
    go_wp2
    go_region
    go_wp2
    go_ret
    refine ⟨?_, (Below.refl _ _).drew⟩
    simp [hm]
set_option maxRecDepth 20000 in
set_option maxHeartbeats 2000000 in
theorem there_any (w : World) (A : Nat) (la : Option Addr) (ln lc : Nat) (most i : Int) (hA : w.heap[A]? = some (.cells #[.slice la ln lc, .int .i64 most] 79 (0, 0))) :
    Calls Tryz.prog 38 #[.pointer (some ⟨A, 0, none⟩), .int .i64 i] w fun e w' => e = .returned (.bool (decide (0 ≤ i) && decide (i < ln))) ∧ w' = w := by
  have a0 : w.cell? ⟨A, 0, none⟩ = some (.slice la ln lc) := (by rw [cell_of_row _ _ 0 _ 79 _ hA]; rfl)
  clear hA
  by_cases h0 : 0 ≤ i
  · by_cases h1 : i < ln
    · go_enter Tryz.func38, Tryz.ntmps38
      go_wp2
      go_ret
      simp [h0, h1]
    · go_enter Tryz.func38, Tryz.ntmps38
      go_wp2
      go_ret
      simp [h0, h1]
  · go_enter Tryz.func38, Tryz.ntmps38
    go_wp2
    go_ret
    simp [h0]
    omega
set_option maxRecDepth 20000 in
set_option maxHeartbeats 2000000 in
theorem there_nil (w : World) (i : Int) : Calls Tryz.prog 38 #[.pointer none, .int .i64 i] w fun e w' => e = .returned (.bool false) ∧ w' = w := by
  go_enter Tryz.func38, Tryz.ntmps38
  go_wp2
  go_ret
  exact ⟨rfl, rfl⟩
set_option maxRecDepth 20000 in
set_option maxHeartbeats 2000000 in
theorem level_any (w : World) (A base : Nat) (la : Option Addr) (ln lc : Nat) (most : Int) (ps : List Value) (i : Nat) (lv : Int) (hA : ArenaAt w A base la ln lc most ps) (hi : i < ln) (hl : ps[i * 9 + 5]? = some (.int .i64 lv)) (hln : ln ≤ maxLen) :
    Calls Tryz.prog 15 #[.pointer (some ⟨A, 0, none⟩), .int .i64 (i : Int)] w fun e w' => e = .returned (.int .i64 lv) ∧ w' = w := by
  have a0 : w.cell? ⟨A, 0, none⟩ = some (.slice la ln lc) := (by rw [cell_of_row _ _ 0 _ 79 _ hA.box]; rfl)
  have HT := Lib.hid (there_any w A la ln lc most (i : Int) hA.box)
  rcases hA.own.2 with ⟨h, _⟩ | ⟨g, cap, cur, h, hb, hg, -⟩
  · cases h; omega
  · cases h
    have a5 : w.cell? ⟨g, i * 9 + 5, none⟩ = some (.int .i64 lv) := (hA.own.cellAt (i * 9 + 5) (by omega)).trans hl
    have hi2 : (i : Int) < ln := by omega
    have hi3 : (decide (0 ≤ (i : Int)) && decide ((i : Int) < ln)) = true := by simp [hi2]
    rw [hi3] at HT
    clear hA hg hl
    go_enter Tryz.func15, Tryz.ntmps15
    go_wp2_with (go_at_call 38; refine HT.out.mono ?_; rintro e w2 ⟨rfl, rfl⟩)
    go_ret
    exact ⟨rfl, rfl⟩
end Go.Proofs.YtoakfninndkgaaaGreatDoor
