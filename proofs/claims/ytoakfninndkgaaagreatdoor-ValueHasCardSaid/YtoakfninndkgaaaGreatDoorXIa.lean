/- Walks: slices.Insert of one element, at strings and at values. -/
import Derived.Test.YtoakfninndkgaaaGreatDoorRows
import Derived.WalkKit
import Derived.WalkSpells
import Derived.WalkLawsBesides
import Derived.Lib.Hide
import Derived.Laws.OwnMore
import Derived.Laws.MakeOwn
import Derived.Laws.CopyRow
import Derived.Lib.AppendZerosOnto
import Derived.Lib.Overlaps
import Derived.OwnWalk
import Derived.Carry
import Derived.OneCell
import Derived.BigRegion
import Derived.BigQuiet
import Derived.Deep.QuietTactic
import Derived.Deep.LoopGhost
import Derived.Deep.DeepCutAuto
import Derived.Deep.CutBlock
import Derived.Deep.RegionHeld3
import Derived.Deep.AppendLies
set_option linter.unusedVariables false
namespace Go.Proofs.YtoakfninndkgaaaGreatDoor.Val
open Go.RowKit
theorem run_copy_many {P : Program} (w : World) (dT sT ty elem : TypeId) (size : Nat) (g o dLen dCap : Nat) (a : Addr) (sLen sCap : Nat) (cur : Array Value) (t : TypeId) (cs : List Value)
    (hu : P.underlying dT = some (.slice elem)) (hs : (P.info? elem).map (·.size) = some size)
    (hg : w.heap[g]? = some (.cells cur t (0, 0))) (hn : cs.length = Nat.min sLen dLen * size)
    (hsrc : ∀ j v, cs[j]? = some v → w.cell? (a.add j) = some v) (hfit : o + cs.length ≤ cur.size) (h1 : ∀ v ∈ cs, v.oneCell' = true) :
    (Builtin.copy_ #[dT, sT] ty #[.slice (some ⟨g, o, none⟩) dLen dCap, .slice (some a) sLen sCap]).run P w =
      .ok (goInt (Nat.min sLen dLen)) (w.setRow g (cur.toList.take o ++ cs ++ cur.toList.drop (o + cs.length)).toArray) := by
  have hl := run_loadCells_list (P := P) w a cs hsrc
  have hst := run_storeCells_at P g o t cs 0 cur w hg (by simpa using hfit) h1
  cases hq : P.info? elem with
  | none => simp [hq] at hs
  | some i =>
    have hi : i.size = size := by simpa [hq] using hs
    simp [Builtin.copy_, run_underlying hu, Builtin.lenOf, Builtin.firstCells, sizeOf, typeInfo, hq, hi, ← hn, hl, hst]
theorem Tryz.info9 : (Tryz.prog.info? 9).map (fun i => (i.zero, i.size, i.bytes)) = some (some (.string ByteArray.empty), 1, 16) := by kernel_rfl
theorem news9 {w : World} {B : Nat} {new : List Value} (hB : w.heap[B]? = some (.cells new.toArray 9 (0, 0))) : ∀ (j : Nat) (u : Value), new[j]? = some u → w.cell? ((⟨B, 0, none⟩ : Addr).add j) = some u := by
  intro j u h
  have hadd : (⟨B, 0, none⟩ : Addr).add j = ⟨B, j, none⟩ := by unfold Addr.add; split <;> simp_all
  rw [hadd, cell_of_row _ _ j _ 9 _ hB]
  simpa using h
set_option maxRecDepth 20000 in
set_option maxHeartbeats 2000000 in
theorem ins_end_nil_24 (w : World) (base B c : Nat) (new : List Value) (hl : new.length = 1) (hB : w.heap[B]? = some (.cells new.toArray 9 (0, 0))) (hone : ∀ u ∈ new, u.oneCell' = true) (hb : base ≤ w.heap.size) :
    Calls Tryz.prog 66 #[.slice none 0 0, .int .i64 0, .slice (some ⟨B, 0, none⟩) 1 c] w fun e w' => ∃ g cap, e = .returned (.slice (some ⟨g, 0, none⟩) 1 cap) ∧ w'.ownsRow base 9 1 (.slice (some ⟨g, 0, none⟩) 1 cap) 1 new ∧ w.grownBy w' none ∧ g = w.heap.size := by
  obtain ⟨i0, hi, hz0, hz1, hz2⟩ := info_parts Tryz.info9
  have HN := Lib.hid (news9 hB)
  have HO := Lib.hid hone
  clear hB hone
  go_enter Tryz.func66, Tryz.ntmps66
  go_wp2_with (at_builtin; refine wpList_append_lies _ rfl _ _ 35 rfl base 9 i0 (.string ByteArray.empty) 1 16 Tryz.underlying35 hi hz0 hz1 hz2 rfl (by decide) (.slice none 0 0) 0 [] rfl (World.ownsRow_nil _ _ _ _) ⟨B, 0, none⟩ 1 c new rfl hl HN.out HO.out (by decide) (by unfold maxLen; omega) (by omega) hb _ rfl ?_; intro g cap w' hown' hgr hat hlt)
  have HE : Hid (w'.ownsRow base 9 1 (.slice (some ⟨g, 0, none⟩) 1 cap) 1 new ∧ w.grownBy w' none ∧ g = w.heap.size) := Lib.hid ⟨by simpa using hown', hgr, by rcases hat with h | h; cases h; exact h⟩
  clear hown' hgr hat hlt
  go_wp2
  go_ret
  exact ⟨g, cap, rfl, HE.out⟩
set_option maxRecDepth 20000 in
set_option maxHeartbeats 2000000 in
theorem ins_end_24 (w : World) (base g n cap B c : Nat) (xs new : List Value) (hn : n ≤ 100000) (hown : w.ownsRow base 9 1 (.slice (some ⟨g, 0, none⟩) n cap) n xs) (hl : new.length = 1) (hB : w.heap[B]? = some (.cells new.toArray 9 (0, 0))) (hone : ∀ u ∈ new, u.oneCell' = true) (hb : base ≤ w.heap.size) :
    Calls Tryz.prog 66 #[.slice (some ⟨g, 0, none⟩) n cap, .int .i64 (n : Int), .slice (some ⟨B, 0, none⟩) 1 c] w fun e w' => ∃ g' cap', e = .returned (.slice (some ⟨g', 0, none⟩) (n + 1) cap') ∧ w'.ownsRow base 9 1 (.slice (some ⟨g', 0, none⟩) (n + 1) cap') (n + 1) (xs ++ new) ∧ w.grownBy w' (some g) ∧ (g' = g ∨ g' = w.heap.size) := by
  obtain ⟨i0, hi, hz0, hz1, hz2⟩ := info_parts Tryz.info9
  have hcap : n ≤ cap := by
    rcases hown.2 with ⟨h', _⟩ | ⟨g', cap', cur, h', e1, e2, e3, e4, -⟩
    · simp at h'
    · simp only [Value.slice.injEq, Option.some.injEq, Addr.mk.injEq, and_true, true_and] at h'
      omega
  have hcap2 : (n : Int) ≤ cap := by omega
  have HN := Lib.hid (news9 hB)
  have HO := Lib.hid hone
  have HW := Lib.hid hown
  clear hB hone hown
  go_enter Tryz.func66, Tryz.ntmps66
  go_wp2_with (at_builtin; refine wpList_append_lies _ rfl _ _ 35 rfl base 9 i0 (.string ByteArray.empty) 1 16 Tryz.underlying35 hi hz0 hz1 hz2 rfl (by decide) (.slice (some ⟨g, 0, none⟩) n cap) n xs rfl HW.out ⟨B, 0, none⟩ 1 c new rfl hl HN.out HO.out (by decide) (by unfold maxLen; omega) (by omega) hb _ rfl ?_; intro g' cap' w' hown' hgr hat hlt)
  all_goals
    have HE : Hid (w'.ownsRow base 9 1 (.slice (some ⟨g', 0, none⟩) (n + 1) cap') (n + 1) (xs ++ new) ∧ w.grownBy w' (some g) ∧ (g' = g ∨ g' = w.heap.size)) := Lib.hid ⟨hown', hgr, hat.elim (fun h => Or.inl (Option.some.inj (show some g = some g' from h)).symm) (fun h => Or.inr h)⟩
    clear hown' hgr hat hlt
    go_wp2
    go_ret
    exact ⟨g', cap', rfl, HE.out⟩
theorem Tryz.info70 : (Tryz.prog.info? 70).map (fun i => (i.zero, i.size, i.bytes)) = some (some (.agg #[.int .i64 0, .int .i64 0, .int .u64 0, .string ByteArray.empty, .slice none 0 0, .slice none 0 0, .pointer none, .int .i64 0]), 8, 104) := by kernel_rfl
theorem news28 {w : World} {B : Nat} {new : List Value} (hB : w.heap[B]? = some (.cells new.toArray 70 (0, 0))) : ∀ (j : Nat) (u : Value), new[j]? = some u → w.cell? ((⟨B, 0, none⟩ : Addr).add j) = some u := by
  intro j u h
  have hadd : (⟨B, 0, none⟩ : Addr).add j = ⟨B, j, none⟩ := by unfold Addr.add; split <;> simp_all
  rw [hadd, cell_of_row _ _ j _ 70 _ hB]
  simpa using h
set_option maxRecDepth 20000 in
set_option maxHeartbeats 2000000 in
theorem ins_end_nil_25 (w : World) (base B c : Nat) (new : List Value) (hl : new.length = 8) (hB : w.heap[B]? = some (.cells new.toArray 70 (0, 0))) (hone : ∀ u ∈ new, u.oneCell' = true) (hb : base ≤ w.heap.size) :
    Calls Tryz.prog 67 #[.slice none 0 0, .int .i64 0, .slice (some ⟨B, 0, none⟩) 1 c] w fun e w' => ∃ g cap, e = .returned (.slice (some ⟨g, 0, none⟩) 1 cap) ∧ w'.ownsRow base 70 8 (.slice (some ⟨g, 0, none⟩) 1 cap) 1 new ∧ w.grownBy w' none ∧ g = w.heap.size := by
  obtain ⟨i0, hi, hz0, hz1, hz2⟩ := info_parts Tryz.info70
  have HN := Lib.hid (news28 hB)
  have HO := Lib.hid hone
  clear hB hone
  go_enter Tryz.func67, Tryz.ntmps67
  go_wp2_with (at_builtin; refine wpList_append_lies _ rfl _ _ 67 rfl base 70 i0 (.agg #[.int .i64 0, .int .i64 0, .int .u64 0, .string ByteArray.empty, .slice none 0 0, .slice none 0 0, .pointer none, .int .i64 0]) 8 104 Tryz.underlying67 hi hz0 hz1 hz2 rfl (by decide) (.slice none 0 0) 0 [] rfl (World.ownsRow_nil _ _ _ _) ⟨B, 0, none⟩ 1 c new rfl hl HN.out HO.out (by decide) (by unfold maxLen; omega) (by omega) hb _ rfl ?_; intro g cap w' hown' hgr hat hlt)
  have HE : Hid (w'.ownsRow base 70 8 (.slice (some ⟨g, 0, none⟩) 1 cap) 1 new ∧ w.grownBy w' none ∧ g = w.heap.size) := Lib.hid ⟨by simpa using hown', hgr, by rcases hat with h | h; cases h; exact h⟩
  clear hown' hgr hat hlt
  go_wp2
  go_ret
  exact ⟨g, cap, rfl, HE.out⟩
set_option maxRecDepth 20000 in
set_option maxHeartbeats 2000000 in
theorem ins_end_25 (w : World) (base g n cap B c : Nat) (xs new : List Value) (hn : n ≤ 100000) (hown : w.ownsRow base 70 8 (.slice (some ⟨g, 0, none⟩) n cap) n xs) (hl : new.length = 8) (hB : w.heap[B]? = some (.cells new.toArray 70 (0, 0))) (hone : ∀ u ∈ new, u.oneCell' = true) (hb : base ≤ w.heap.size) :
    Calls Tryz.prog 67 #[.slice (some ⟨g, 0, none⟩) n cap, .int .i64 (n : Int), .slice (some ⟨B, 0, none⟩) 1 c] w fun e w' => ∃ g' cap', e = .returned (.slice (some ⟨g', 0, none⟩) (n + 1) cap') ∧ w'.ownsRow base 70 8 (.slice (some ⟨g', 0, none⟩) (n + 1) cap') (n + 1) (xs ++ new) ∧ w.grownBy w' (some g) ∧ (g' = g ∨ g' = w.heap.size) := by
  obtain ⟨i0, hi, hz0, hz1, hz2⟩ := info_parts Tryz.info70
  have hcap : n ≤ cap := by
    rcases hown.2 with ⟨h', _⟩ | ⟨g', cap', cur, h', e1, e2, e3, e4, -⟩
    · simp at h'
    · simp only [Value.slice.injEq, Option.some.injEq, Addr.mk.injEq, and_true, true_and] at h'
      omega
  have hcap2 : (n : Int) ≤ cap := by omega
  have HN := Lib.hid (news28 hB)
  have HO := Lib.hid hone
  have HW := Lib.hid hown
  clear hB hone hown
  go_enter Tryz.func67, Tryz.ntmps67
  go_wp2_with (at_builtin; refine wpList_append_lies _ rfl _ _ 67 rfl base 70 i0 (.agg #[.int .i64 0, .int .i64 0, .int .u64 0, .string ByteArray.empty, .slice none 0 0, .slice none 0 0, .pointer none, .int .i64 0]) 8 104 Tryz.underlying67 hi hz0 hz1 hz2 rfl (by decide) (.slice (some ⟨g, 0, none⟩) n cap) n xs rfl HW.out ⟨B, 0, none⟩ 1 c new rfl hl HN.out HO.out (by decide) (by unfold maxLen; omega) (by omega) hb _ rfl ?_; intro g' cap' w' hown' hgr hat hlt)
  all_goals
    have HE : Hid (w'.ownsRow base 70 8 (.slice (some ⟨g', 0, none⟩) (n + 1) cap') (n + 1) (xs ++ new) ∧ w.grownBy w' (some g) ∧ (g' = g ∨ g' = w.heap.size)) := Lib.hid ⟨hown', hgr, hat.elim (fun h => Or.inl (Option.some.inj (show some g = some g' from h)).symm) (fun h => Or.inr h)⟩
    clear hown' hgr hat hlt
    go_wp2
    go_ret
    exact ⟨g', cap', rfl, HE.out⟩
end Go.Proofs.YtoakfninndkgaaaGreatDoor.Val
