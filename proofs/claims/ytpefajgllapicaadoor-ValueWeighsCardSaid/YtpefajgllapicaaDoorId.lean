/- Walks: slices.Insert of one element, whatever the row; insert. -/
import Derived.Test.YtpefajgllapicaaDoorIc
import Derived.Deep.RegionLaw
import Derived.Deep.RegionWith
import Derived.WalkKit
import Derived.WalkSpells
import Derived.WalkLawsBesides
import Derived.Lib.Hide
import Derived.Laws.OwnMore
import Derived.Laws.MakeOwn
import Derived.Laws.CopyRow
import Derived.Lib.AppendZerosOnto
import Derived.Lib.Overlaps
import Derived.OwnWalk
import Derived.Carry
import Derived.OneCell
import Derived.BigRegion
import Derived.BigQuiet
import Derived.Deep.QuietTactic
import Derived.Deep.LoopGhost
import Derived.Deep.DeepCutAuto
import Derived.Deep.CutBlock
import Derived.Deep.RegionHeld3
set_option linter.unusedVariables false
namespace Go.Proofs.YtpefajgllapicaaDoor
open Go.RowKit
theorem grown_none {w w' : World} (h : w.grownBy w' none) (row : Option Nat) : w.grownBy w' row := ⟨h.os, h.tape, h.output, h.size, fun k hk _ => h.block k hk (by simp)⟩
theorem ins_any_24 (w : World) (base n i B c : Nat) (v : Value) (xs new : List Value) (hn : n ≤ 99999) (hin : i ≤ n) (hown : w.ownsRow base 9 1 v n xs) (hone : ∀ u ∈ xs, u.oneCell' = true) (hl : new.length = 1) (hB : w.heap[B]? = some (.cells new.toArray 9 (0, 0))) (hnone : ∀ u ∈ new, u.oneCell' = true) (hBg : v.ownBlock ≠ some B) (hb : base ≤ w.heap.size) :
    Calls Tryd.prog 19 #[v, .int .i64 (i : Int), .slice (some ⟨B, 0, none⟩) 1 c] w fun e w' => ∃ g cap, e = .returned (.slice (some ⟨g, 0, none⟩) (n + 1) cap) ∧ w'.ownsRow base 9 1 (.slice (some ⟨g, 0, none⟩) (n + 1) cap) (n + 1) (xs.take (i * 1) ++ new ++ xs.drop (i * 1)) ∧ w.grownBy w' v.ownBlock ∧ (v.ownBlock = some g ∨ g = w.heap.size) := by
  have hxl := hown.1
  rcases hown.2 with ⟨rfl, rfl⟩ | ⟨g, cap, cur, rfl, e1, e2, e3, e4, e5, e6⟩
  · obtain rfl : i = 0 := by omega
    obtain rfl : xs = [] := List.length_eq_zero_iff.1 (by omega)
    refine (ins_end_nil_24 w base B c new hl hB hnone hb).mono ?_
    rintro e w' ⟨g, cap, rfl, h2, h3, h4⟩
    exact ⟨g, cap, rfl, by simpa using h2, h3, Or.inr h4⟩
  · by_cases hi : i = n
    · subst hi
      have ht : xs.take (i * 1) = xs := List.take_of_length_le (by omega)
      have hd : xs.drop (i * 1) = [] := List.drop_eq_nil_of_le (by omega)
      refine (ins_end_24 w base g i cap B c xs new (by omega) hown hl hB hnone hb).mono ?_
      rintro e w' ⟨g', cap', rfl, h2, h3, h4⟩
      refine ⟨g', cap', rfl, by rw [ht, hd, List.append_nil]; exact h2, h3, ?_⟩
      rcases h4 with h4 | h4
      · exact Or.inl (by rw [h4]; rfl)
      · exact Or.inr h4
    · by_cases hr : n + 1 ≤ cap
      · refine (ins_room_24 w base g n cap i B c xs new (by omega) (by omega) hr hown hone hl hB hnone (fun e => hBg (by rw [e]; rfl))).mono ?_
        rintro e w' ⟨rfl, h2, h3⟩
        exact ⟨g, cap, rfl, by simpa using h2, h3, Or.inl rfl⟩
      · refine (ins_grow_24 w base g n cap i B c xs new (by omega) (by omega) (by omega) hown hone hl hB hnone hb).mono ?_
        rintro e w' ⟨C, rfl, h2, h3⟩
        exact ⟨_, C, rfl, by simpa using h2, grown_none h3 _, Or.inr rfl⟩
theorem ins_any_25 (w : World) (base n i B c : Nat) (v : Value) (xs new : List Value) (hn : n ≤ 99999) (hin : i ≤ n) (hown : w.ownsRow base 28 8 v n xs) (hone : ∀ u ∈ xs, u.oneCell' = true) (hl : new.length = 8) (hB : w.heap[B]? = some (.cells new.toArray 28 (0, 0))) (hnone : ∀ u ∈ new, u.oneCell' = true) (hBg : v.ownBlock ≠ some B) (hb : base ≤ w.heap.size) :
    Calls Tryd.prog 20 #[v, .int .i64 (i : Int), .slice (some ⟨B, 0, none⟩) 1 c] w fun e w' => ∃ g cap, e = .returned (.slice (some ⟨g, 0, none⟩) (n + 1) cap) ∧ w'.ownsRow base 28 8 (.slice (some ⟨g, 0, none⟩) (n + 1) cap) (n + 1) (xs.take (i * 8) ++ new ++ xs.drop (i * 8)) ∧ w.grownBy w' v.ownBlock ∧ (v.ownBlock = some g ∨ g = w.heap.size) := by
  have hxl := hown.1
  rcases hown.2 with ⟨rfl, rfl⟩ | ⟨g, cap, cur, rfl, e1, e2, e3, e4, e5, e6⟩
  · obtain rfl : i = 0 := by omega
    obtain rfl : xs = [] := List.length_eq_zero_iff.1 (by omega)
    refine (ins_end_nil_25 w base B c new hl hB hnone hb).mono ?_
    rintro e w' ⟨g, cap, rfl, h2, h3, h4⟩
    exact ⟨g, cap, rfl, by simpa using h2, h3, Or.inr h4⟩
  · by_cases hi : i = n
    · subst hi
      have ht : xs.take (i * 8) = xs := List.take_of_length_le (by omega)
      have hd : xs.drop (i * 8) = [] := List.drop_eq_nil_of_le (by omega)
      refine (ins_end_25 w base g i cap B c xs new (by omega) hown hl hB hnone hb).mono ?_
      rintro e w' ⟨g', cap', rfl, h2, h3, h4⟩
      refine ⟨g', cap', rfl, by rw [ht, hd, List.append_nil]; exact h2, h3, ?_⟩
      rcases h4 with h4 | h4
      · exact Or.inl (by rw [h4]; rfl)
      · exact Or.inr h4
    · by_cases hr : n + 1 ≤ cap
      · refine (ins_room_25 w base g n cap i B c xs new (by omega) (by omega) hr hown hone hl hB hnone (fun e => hBg (by rw [e]; rfl))).mono ?_
        rintro e w' ⟨rfl, h2, h3⟩
        exact ⟨g, cap, rfl, by simpa using h2, h3, Or.inl rfl⟩
      · refine (ins_grow_25 w base g n cap i B c xs new (by omega) (by omega) (by omega) hown hone hl hB hnone hb).mono ?_
        rintro e w' ⟨C, rfl, h2, h3⟩
        exact ⟨_, C, rfl, by simpa using h2, grown_none h3 _, Or.inr rfl⟩
end Go.Proofs.YtpefajgllapicaaDoor
