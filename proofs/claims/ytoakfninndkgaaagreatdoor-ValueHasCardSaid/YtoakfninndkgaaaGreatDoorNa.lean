/- Plain: names, tags, words. -/
import Derived.Test.YtoakfninndkgaaaGreatDoorRows
import Derived.WalkKit
import Derived.WalkSpells
import Derived.WalkLawsBesides
import Derived.Lib.Hide
import Derived.Laws.OwnMore
import Derived.Laws.MakeOwn
import Derived.Laws.CopyRow
import Derived.Lib.AppendZerosOnto
import Derived.Lib.Overlaps
import Derived.OwnWalk
import Derived.Carry
import Derived.OneCell
import Derived.BigRegion
import Derived.BigQuiet
import Derived.Deep.QuietTactic
import Derived.Deep.LoopGhost
import Derived.Deep.DeepCutAuto
import Derived.Deep.CutBlock
import Derived.Deep.RegionHeld3
import Derived.Deep.AppendLies
import Derived.Laws.ResultCell
import Derived.Maps.OwnSet
import Derived.Maps.OwnOps
import Derived.Maps.AppendAt
set_option linter.unusedVariables false
namespace Go.Proofs.YtoakfninndkgaaaGreatDoor
def lowB (c : UInt8) : Bool := (97 ≤ c && c ≤ 122) || c == 95
def digB (c : UInt8) : Bool := 48 ≤ c && c ≤ 57
def inB (c : UInt8) : Bool := lowB c || digB c
/-- is it a tag: a name, or a word? -/
def tagL : List UInt8 → Bool
  | [] => false
  | c :: l => lowB c && l.all inB
def wordL : List (List UInt8) := [[102, 117, 110], [108, 101, 116], [114, 101, 99], [105, 110], [105, 102], [116, 104, 101, 110], [101, 108, 115, 101], [99, 97, 115, 101], [111, 102], [101, 110, 100], [116, 114, 117, 101], [102, 97, 108, 115, 101], [105, 110, 116], [98, 111, 111, 108], [115, 116, 114], [102, 108, 111, 97, 116], [100, 121, 110], [97, 110, 121], [110, 111, 110, 101], [116, 121, 112, 101]]
def isWordL (l : List UInt8) : Bool := wordL.contains l
def nameL (l : List UInt8) : Bool := tagL l && !isWordL l
/-- all the words, with a blank ahead of each, and behind the last one. -/
def textW : List UInt8 := [32, 102, 117, 110, 32, 108, 101, 116, 32, 114, 101, 99, 32, 105, 110, 32, 105, 102, 32, 116, 104, 101, 110, 32, 101, 108, 115, 101, 32, 99, 97, 115, 101, 32, 111, 102, 32, 101, 110, 100, 32, 116, 114, 117, 101, 32, 102, 97, 108, 115, 101, 32, 105, 110, 116, 32, 98, 111, 111, 108, 32, 115, 116, 114, 32, 102, 108, 111, 97, 116, 32, 100, 121, 110, 32, 97, 110, 121, 32, 110, 111, 110, 101, 32, 116, 121, 112, 101, 32]
example : textW.length = 89 := by decide
def letters (l : List UInt8) : Bool := l.all fun c => 97 ≤ c && c ≤ 122
/-- does a blank, l and a blank stand at i? -/
def standsAt (i : Nat) (l : List UInt8) : Bool := (textW.drop i).take (l.length + 2) == 32 :: l ++ [32]
theorem word_tag {l : List UInt8} (h : isWordL l = true) : tagL l = true := by
  have hall : (wordL.all fun w => tagL w) = true := by decide
  exact List.all_eq_true.1 hall l (by simpa [isWordL] using h)
theorem word_letters {l : List UInt8} (h : isWordL l = true) : letters l = true ∧ l ≠ [] := by
  have hall : (wordL.all fun w => letters w && !w.isEmpty) = true := by decide
  have := List.all_eq_true.1 hall l (by simpa [isWordL] using h)
  simp only [Bool.and_eq_true] at this
  refine ⟨this.1, fun e => ?_⟩
  subst e
  simp at this
theorem word_stands {l : List UInt8} (h : isWordL l = true) : ∃ i, i + l.length + 2 ≤ 89 ∧ standsAt i l = true := by
  have hall : (wordL.all fun w => (List.range 89).any fun i => decide (i + w.length + 2 ≤ 89) && standsAt i w) = true := by decide +kernel
  have := List.all_eq_true.1 hall l (by simpa [isWordL] using h)
  obtain ⟨i, _, hi⟩ := List.any_eq_true.1 this
  simp only [Bool.and_eq_true, decide_eq_true_eq] at hi
  exact ⟨i, hi⟩
theorem stands_all : ((List.range 89).all fun i => (List.range 89).all fun n => !(letters (((textW.drop (i + 1)).take n)) && decide (n ≠ 0) && standsAt i ((textW.drop (i + 1)).take n) && decide (((textW.drop (i + 1)).take n).length = n)) || isWordL ((textW.drop (i + 1)).take n)) = true := by decide +kernel
theorem stands_word {l : List UInt8} (hl : letters l = true) (h0 : l ≠ []) (i : Nat) (hi : i + l.length + 2 ≤ 89) (h : standsAt i l = true) : isWordL l = true := by
  have h1 : (textW.drop i).take (l.length + 2) = 32 :: l ++ [32] := by simpa [standsAt] using h
  have h2 : (textW.drop (i + 1)).take l.length = l := by
    have := congrArg (fun x => (x.drop 1).take l.length) h1
    simp only [List.drop_take, List.drop_drop] at this
    rw [List.take_take] at this
    rw [show min l.length (l.length + 2 - 1) = l.length by omega] at this
    simpa using this
  have h3 := List.all_eq_true.1 (List.all_eq_true.1 stands_all i (List.mem_range.2 (by omega))) l.length (List.mem_range.2 (by omega))
  have hne : l.length ≠ 0 := fun e => h0 (List.eq_nil_of_length_eq_zero e)
  simpa [h2, hl, h, hne, h0] using h3
theorem word_iff (l : List UInt8) (hl : letters l = true) (h0 : l ≠ []) : isWordL l = true ↔ ∃ i, i + l.length + 2 ≤ 89 ∧ standsAt i l = true :=
  ⟨word_stands, fun ⟨i, hi, h⟩ => stands_word hl h0 i hi h⟩
end Go.Proofs.YtoakfninndkgaaaGreatDoor
