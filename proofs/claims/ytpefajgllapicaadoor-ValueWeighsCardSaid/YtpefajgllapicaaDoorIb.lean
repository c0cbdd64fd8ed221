/- Walks: slices.Insert of one element in a row with room. -/
import Derived.Test.YtpefajgllapicaaDoorIa
import Derived.WalkKit
import Derived.WalkSpells
import Derived.WalkLawsBesides
import Derived.Lib.Hide
import Derived.Laws.OwnMore
import Derived.Laws.MakeOwn
import Derived.Laws.CopyRow
import Derived.Lib.AppendZerosOnto
import Derived.Lib.Overlaps
import Derived.OwnWalk
import Derived.Carry
import Derived.OneCell
import Derived.BigRegion
import Derived.BigQuiet
import Derived.Deep.QuietTactic
import Derived.Deep.LoopGhost
import Derived.Deep.DeepCutAuto
import Derived.Deep.CutBlock
import Derived.Deep.RegionHeld3
set_option linter.unusedVariables false
namespace Go.Proofs.YtpefajgllapicaaDoor
open Go.RowKit
theorem ins_list (cur xs new c1 c2 : List Value) (o z m : Nat) (hct : cur.take m = xs) (ho : o ≤ m) (hl : new.length = z) (hfit : m + z ≤ cur.length) (h1 : c1 = cur.take (o + z) ++ xs.drop o ++ cur.drop (o + z + (xs.drop o).length)) (h2 : c2 = c1.take o ++ new ++ c1.drop (o + new.length)) :
    c2.take (m + z) = xs.take o ++ new ++ xs.drop o ∧ c2.length = cur.length := by
  have hxl : xs.length = m := by rw [← hct, List.length_take]; omega
  have hdl : (xs.drop o).length = m - o := by rw [List.length_drop, hxl]
  have htl : (cur.take (o + z)).length = o + z := by rw [List.length_take]; omega
  have e1 : c1.take o = xs.take o := by
    rw [h1, List.append_assoc, List.take_append_of_le_length (by omega), List.take_take, Nat.min_eq_left (by omega), ← hct, List.take_take, Nat.min_eq_left ho]
  have e2 : c1.drop (o + new.length) = xs.drop o ++ cur.drop (o + z + (xs.drop o).length) := by
    rw [h1, List.append_assoc, hl]
    exact List.drop_left' htl
  rw [h2, e1, e2]
  constructor
  · rw [← List.append_assoc]
    refine List.take_left' ?_
    simp only [List.length_append, List.length_take, hl, hxl, hdl]
    omega
  · simp only [List.length_append, List.length_take, List.length_drop, hl, hxl]
    omega
theorem over9 (w : World) (B c g lb cb o : Nat) (cB cur : Array Value) (hB : w.heap[B]? = some (.cells cB 9 (0, 0))) (hg : w.heap[g]? = some (.cells cur 9 (0, 0))) (hne : B ≠ g) (hcur : cur.size ≠ 0) :
    (callFunc 27 #[.slice (some ⟨B, 0, none⟩) 1 c, .slice (some ⟨g, o, none⟩) lb cb]).run Tryd.prog w = .ok (.value (.bool false)) w := by
  have hs : ∀ (b : Nat) (cs : Array Value), w.heap[b]? = some (.cells cs 9 (0, 0)) → w.shape? b = some (9, cs.size) := fun b cs h => by
    unfold World.shape?
    rw [h]
  have hf : ∀ (o : Nat), w.frozen? ⟨B, o, none⟩ = false := fun o => frozen_of_row w B o _ 9 hB
  have hz : ∀ w, (Go.sizeOf 9).run Tryd.prog w = .ok 1 w := fun w => by kernel_rfl
  rw [run_callFunc_extern Tryd.func27 (by kernel_rfl) (by kernel_rfl) (by kernel_rfl) (e := Extern.SlicesOverlaps.overlaps Tryd.f27.params Tryd.f27.resultTypes) (by kernel_rfl)]
  have := Lib.run_overlaps_apart (P := Tryd.prog) w 24 4 9 Tryd.underlying24 1 hz ⟨B, 0, none⟩ ⟨g, o, none⟩ 1 c lb cb hne 9 9 cB.size cur.size (hs B cB hB) (hs g cur hg) hcur (hf 0) (hf _)
  have hp : Tryd.f27.params = #[24, 24] := rfl
  have hr : Tryd.f27.resultTypes = #[4] := rfl
  rw [hp, hr, this]
  rfl
set_option maxRecDepth 20000 in
set_option maxHeartbeats 2000000 in
theorem ins_room_24 (w : World) (base g n cap i B c : Nat) (xs new : List Value) (hn : n ≤ 100000) (hin : i < n) (hroom : n + 1 ≤ cap) (hown : w.ownsRow base 9 1 (.slice (some ⟨g, 0, none⟩) n cap) n xs) (hone : ∀ u ∈ xs, u.oneCell' = true) (hl : new.length = 1) (hB : w.heap[B]? = some (.cells new.toArray 9 (0, 0))) (hnone : ∀ u ∈ new, u.oneCell' = true) (hBg : B ≠ g) :
    Calls Tryd.prog 19 #[.slice (some ⟨g, 0, none⟩) n cap, .int .i64 (i : Int), .slice (some ⟨B, 0, none⟩) 1 c] w fun e w' => e = .returned (.slice (some ⟨g, 0, none⟩) (n + 1) cap) ∧ w'.ownsRow base 9 1 (.slice (some ⟨g, 0, none⟩) (n + 1) cap) (n + 1) (xs.take i ++ new ++ xs.drop i) ∧ w.grownBy w' (some g) := by
  obtain ⟨cur, hgb, hg, hcm, hcs, hct⟩ : ∃ cur, base ≤ g ∧ w.heap[g]? = some (.cells cur 9 (0, 0)) ∧ cap ≤ maxLen ∧ cur.size = cap ∧ cur.toList.take n = xs := by
    rcases hown.2 with ⟨h', _⟩ | ⟨g', cap', cur, h', e1, e2, e3, e4, e5, e6⟩
    · simp at h'
    · simp only [Value.slice.injEq, Option.some.injEq, Addr.mk.injEq, and_true, true_and] at h'
      obtain ⟨rfl, rfl⟩ := h'
      exact ⟨cur, e1, e2, e4, by simpa using e5, by simpa using e6⟩
  have hxl := hown.1
  obtain ⟨cur1, hcur1⟩ : ∃ cur1, cur1 = (cur.toList.take (i + 1) ++ xs.drop i ++ cur.toList.drop ((i + 1) + (xs.drop i).length)).toArray := ⟨_, rfl⟩
  have hdl : (xs.drop i).length = n - i := by rw [List.length_drop, hxl]; omega
  have hmin : Nat.min (n + 1 - i) (n - i) = n - i := by show (min (n + 1 - i) (n - i) : Nat) = n - i; omega
  have hc1 := fun ty => run_copy_many (P := Tryd.prog) w.drew 24 24 ty 9 1 g (i + 1) (n - i) (cap - (i + 1)) ⟨g, i, none⟩ (n + 1 - i) (cap - i) cur 9 (xs.drop i) Tryd.underlying24 (by kernel_rfl) hg (by rw [hmin]; omega)
    (fun j u hu => by
      have hadd : (⟨g, i, none⟩ : Addr).add j = ⟨g, i + j, none⟩ := by unfold Addr.add; split <;> simp_all
      have := hown.cellAt (i + j) (by have := (List.getElem?_eq_some_iff.1 hu).1; omega)
      rw [hadd]
      exact this.trans (by rw [List.getElem?_drop] at hu; exact hu)) (by rw [hdl, hcs]; omega) (fun u hu => hone u (List.mem_of_mem_drop hu))
  rw [← hcur1, hmin] at hc1
  have hg1 : (w.drew.setRow g cur1).heap[g]? = some (.cells cur1 9 (0, 0)) := setRow_heap w.drew g cur _ 9 _ hg
  have hcs1 : cur1.size = cap := by rw [hcur1]; simp [hxl, hcs]; omega
  have hB1 : (w.drew.setRow g cur1).heap[B]? = some (.cells new.toArray 9 (0, 0)) := (setRow_other w.drew g B cur1 hBg).trans hB
  obtain ⟨cur2, hcur2⟩ : ∃ cur2, cur2 = (cur1.toList.take i ++ new ++ cur1.toList.drop (i + new.length)).toArray := ⟨_, rfl⟩
  have hmin2 : Nat.min 1 (n + 1 - i) = 1 := Nat.min_eq_left (by omega)
  have hc2 := fun ty => run_copy_many (P := Tryd.prog) (w.drew.setRow g cur1) 24 24 ty 9 1 g i (n + 1 - i) (cap - i) ⟨B, 0, none⟩ 1 c cur1 9 new Tryd.underlying24 (by kernel_rfl) hg1 (by rw [hmin2]; omega) (news9 hB1) (by rw [hl, hcs1]; omega) hnone
  rw [← hcur2, hmin2] at hc2
  have hov := over9 w B c g (n - i) (cap - (i + 1)) (i + 1) new.toArray cur hB hg hBg (by rw [hcs]; omega)
  have hlist := ins_list cur.toList xs new cur1.toList cur2.toList i 1 n hct (by omega) hl (by rw [Array.length_toList]; omega) (by simp [hcur1, Nat.add_mul]) (by rw [hcur2])
  have HEND : Hid ((w.drew.setRow g cur2).ownsRow base 9 1 (.slice (some ⟨g, 0, none⟩) (n + 1) cap) (n + 1) (xs.take i ++ new ++ xs.drop i) ∧ w.grownBy (w.drew.setRow g cur2) (some g)) := Lib.hid (by
    refine ⟨⟨?_, Or.inr ⟨g, cap, cur2, rfl, hgb, setRow_heap w.drew g cur _ 9 _ hg, hroom, hcm, ?_, ?_⟩⟩, ⟨rfl, rfl, rfl, by rw [size_setRow]; exact Nat.le_refl _, fun k _ hk => setRow_other w.drew g k _ (fun e => hk (by rw [e]))⟩⟩
    · rw [← hlist.1, List.length_take, hlist.2, Array.length_toList]; omega
    · have := hlist.2
      rw [Array.length_toList, Array.length_toList] at this
      omega
    · have := hlist.1
      rw [show (n + 1) * 1 = n + 1 by omega]
      exact this)
  have i1 : (i : Int) ≤ n := by omega
  have i2 : (i : Int) ≤ cap := by omega
  have i3 : (i : Int) + 1 ≤ (n : Int) + 1 := by omega
  have i4 : (i : Int) + 1 ≤ cap := by omega
  have i5 : (n : Int) + 1 ≤ cap := by omega
  have i6 : ¬ cap = i := by omega
  have i7 : ¬ cap = i + 1 := by omega
  have i8 : ((i : Int) == (n : Int)) = false := by simp; omega
  have i9 : (0 : Int) ≤ (n : Int) + 1 := by omega
  have i10 : (0 : Int) ≤ (i : Int) + 1 := by omega
  have i11 : (i : Int) ≤ (n : Int) + 1 := by omega
  have i12 : ¬ (cap : Int) < (n : Int) + 1 := by omega
  have w1 : IntKind.i64.wrap ((n : Int) + 1) = (n : Int) + 1 := by rw [IntKind.wrap_i64]; omega
  have w2 : IntKind.i64.wrap ((i : Int) + 1) = (i : Int) + 1 := by rw [IntKind.wrap_i64]; omega
  clear hlist hown hone hB hnone hg hg1 hB1 hcs hct hcs1 hcur1 hcur2 hdl hmin hmin2 hxl hl
  go_enter Tryd.func19, Tryd.ntmps19
  go_upto_region 15 with (fail)
  go_region
  clear hc1 hov
  go_wp2
  go_ret
  refine ⟨rfl, ?_⟩
  have hend := HEND.out
  rw [List.append_assoc] at hend
  rw [setRow_setRow]
  exact hend
theorem over28 (w : World) (B c g lb cb o : Nat) (cB cur : Array Value) (hB : w.heap[B]? = some (.cells cB 28 (0, 0))) (hg : w.heap[g]? = some (.cells cur 28 (0, 0))) (hne : B ≠ g) (hcur : cur.size ≠ 0) :
    (callFunc 29 #[.slice (some ⟨B, 0, none⟩) 1 c, .slice (some ⟨g, o, none⟩) lb cb]).run Tryd.prog w = .ok (.value (.bool false)) w := by
  have hs : ∀ (b : Nat) (cs : Array Value), w.heap[b]? = some (.cells cs 28 (0, 0)) → w.shape? b = some (28, cs.size) := fun b cs h => by
    unfold World.shape?
    rw [h]
  have hf : ∀ (o : Nat), w.frozen? ⟨B, o, none⟩ = false := fun o => frozen_of_row w B o _ 28 hB
  have hz : ∀ w, (Go.sizeOf 28).run Tryd.prog w = .ok 8 w := fun w => by kernel_rfl
  rw [run_callFunc_extern Tryd.func29 (by kernel_rfl) (by kernel_rfl) (by kernel_rfl) (e := Extern.SlicesOverlaps.overlaps Tryd.f29.params Tryd.f29.resultTypes) (by kernel_rfl)]
  have := Lib.run_overlaps_apart (P := Tryd.prog) w 25 4 28 Tryd.underlying25 8 hz ⟨B, 0, none⟩ ⟨g, o, none⟩ 1 c lb cb hne 28 28 cB.size cur.size (hs B cB hB) (hs g cur hg) hcur (hf 0) (hf _)
  have hp : Tryd.f29.params = #[25, 25] := rfl
  have hr : Tryd.f29.resultTypes = #[4] := rfl
  rw [hp, hr, this]
  rfl
set_option maxRecDepth 20000 in
set_option maxHeartbeats 2000000 in
theorem ins_room_25 (w : World) (base g n cap i B c : Nat) (xs new : List Value) (hn : n ≤ 100000) (hin : i < n) (hroom : n + 1 ≤ cap) (hown : w.ownsRow base 28 8 (.slice (some ⟨g, 0, none⟩) n cap) n xs) (hone : ∀ u ∈ xs, u.oneCell' = true) (hl : new.length = 8) (hB : w.heap[B]? = some (.cells new.toArray 28 (0, 0))) (hnone : ∀ u ∈ new, u.oneCell' = true) (hBg : B ≠ g) :
    Calls Tryd.prog 20 #[.slice (some ⟨g, 0, none⟩) n cap, .int .i64 (i : Int), .slice (some ⟨B, 0, none⟩) 1 c] w fun e w' => e = .returned (.slice (some ⟨g, 0, none⟩) (n + 1) cap) ∧ w'.ownsRow base 28 8 (.slice (some ⟨g, 0, none⟩) (n + 1) cap) (n + 1) (xs.take (i * 8) ++ new ++ xs.drop (i * 8)) ∧ w.grownBy w' (some g) := by
  obtain ⟨cur, hgb, hg, hcm, hcs, hct⟩ : ∃ cur, base ≤ g ∧ w.heap[g]? = some (.cells cur 28 (0, 0)) ∧ cap ≤ maxLen ∧ cur.size = cap * 8 ∧ cur.toList.take (n * 8) = xs := by
    rcases hown.2 with ⟨h', _⟩ | ⟨g', cap', cur, h', e1, e2, e3, e4, e5, e6⟩
    · simp at h'
    · simp only [Value.slice.injEq, Option.some.injEq, Addr.mk.injEq, and_true, true_and] at h'
      obtain ⟨rfl, rfl⟩ := h'
      exact ⟨cur, e1, e2, e4, by simpa using e5, by simpa using e6⟩
  have hxl := hown.1
  obtain ⟨cur1, hcur1⟩ : ∃ cur1, cur1 = (cur.toList.take ((i + 1) * 8) ++ xs.drop (i * 8) ++ cur.toList.drop ((i + 1) * 8 + (xs.drop (i * 8)).length)).toArray := ⟨_, rfl⟩
  have hdl : (xs.drop (i * 8)).length = (n - i) * 8 := by rw [List.length_drop, hxl]; omega
  have hmin : Nat.min (n + 1 - i) (n - i) = n - i := by show (min (n + 1 - i) (n - i) : Nat) = n - i; omega
  have hc1 := fun ty => run_copy_many (P := Tryd.prog) w.drew 25 25 ty 28 8 g ((i + 1) * 8) (n - i) (cap - (i + 1)) ⟨g, i * 8, none⟩ (n + 1 - i) (cap - i) cur 28 (xs.drop (i * 8)) Tryd.underlying25 (by kernel_rfl) hg (by rw [hmin]; omega)
    (fun j u hu => by
      have hadd : (⟨g, i * 8, none⟩ : Addr).add j = ⟨g, i * 8 + j, none⟩ := by unfold Addr.add; split <;> simp_all
      have := hown.cellAt (i * 8 + j) (by have := (List.getElem?_eq_some_iff.1 hu).1; omega)
      rw [hadd]
      exact this.trans (by rw [List.getElem?_drop] at hu; exact hu)) (by rw [hdl, hcs]; omega) (fun u hu => hone u (List.mem_of_mem_drop hu))
  rw [← hcur1, hmin] at hc1
  have hg1 : (w.drew.setRow g cur1).heap[g]? = some (.cells cur1 28 (0, 0)) := setRow_heap w.drew g cur _ 28 _ hg
  have hcs1 : cur1.size = cap * 8 := by rw [hcur1]; simp [hxl, hcs]; omega
  have hB1 : (w.drew.setRow g cur1).heap[B]? = some (.cells new.toArray 28 (0, 0)) := (setRow_other w.drew g B cur1 hBg).trans hB
  obtain ⟨cur2, hcur2⟩ : ∃ cur2, cur2 = (cur1.toList.take (i * 8) ++ new ++ cur1.toList.drop (i * 8 + new.length)).toArray := ⟨_, rfl⟩
  have hmin2 : Nat.min 1 (n + 1 - i) = 1 := Nat.min_eq_left (by omega)
  have hc2 := fun ty => run_copy_many (P := Tryd.prog) (w.drew.setRow g cur1) 25 25 ty 28 8 g (i * 8) (n + 1 - i) (cap - i) ⟨B, 0, none⟩ 1 c cur1 28 new Tryd.underlying25 (by kernel_rfl) hg1 (by rw [hmin2]; omega) (news28 hB1) (by rw [hl, hcs1]; omega) hnone
  rw [← hcur2, hmin2] at hc2
  have hov := over28 w B c g (n - i) (cap - (i + 1)) ((i + 1) * 8) new.toArray cur hB hg hBg (by rw [hcs]; omega)
  have hlist := ins_list cur.toList xs new cur1.toList cur2.toList (i * 8) 8 (n * 8) hct (by omega) hl (by rw [Array.length_toList]; omega) (by simp [hcur1, Nat.add_mul]) (by rw [hcur2])
  have HEND : Hid ((w.drew.setRow g cur2).ownsRow base 28 8 (.slice (some ⟨g, 0, none⟩) (n + 1) cap) (n + 1) (xs.take (i * 8) ++ new ++ xs.drop (i * 8)) ∧ w.grownBy (w.drew.setRow g cur2) (some g)) := Lib.hid (by
    refine ⟨⟨?_, Or.inr ⟨g, cap, cur2, rfl, hgb, setRow_heap w.drew g cur _ 28 _ hg, hroom, hcm, ?_, ?_⟩⟩, ⟨rfl, rfl, rfl, by rw [size_setRow]; exact Nat.le_refl _, fun k _ hk => setRow_other w.drew g k _ (fun e => hk (by rw [e]))⟩⟩
    · rw [← hlist.1, List.length_take, hlist.2, Array.length_toList]; omega
    · have := hlist.2
      rw [Array.length_toList, Array.length_toList] at this
      omega
    · have := hlist.1
      rw [show (n + 1) * 8 = (n * 8) + 8 by omega]
      exact this)
  have i1 : (i : Int) ≤ n := by omega
  have i2 : (i : Int) ≤ cap := by omega
  have i3 : (i : Int) + 1 ≤ (n : Int) + 1 := by omega
  have i4 : (i : Int) + 1 ≤ cap := by omega
  have i5 : (n : Int) + 1 ≤ cap := by omega
  have i6 : ¬ cap = i := by omega
  have i7 : ¬ cap = i + 1 := by omega
  have i8 : ((i : Int) == (n : Int)) = false := by simp; omega
  have i9 : (0 : Int) ≤ (n : Int) + 1 := by omega
  have i10 : (0 : Int) ≤ (i : Int) + 1 := by omega
  have i11 : (i : Int) ≤ (n : Int) + 1 := by omega
  have i12 : ¬ (cap : Int) < (n : Int) + 1 := by omega
  have w1 : IntKind.i64.wrap ((n : Int) + 1) = (n : Int) + 1 := by rw [IntKind.wrap_i64]; omega
  have w2 : IntKind.i64.wrap ((i : Int) + 1) = (i : Int) + 1 := by rw [IntKind.wrap_i64]; omega
  clear hlist hown hone hB hnone hg hg1 hB1 hcs hct hcs1 hcur1 hcur2 hdl hmin hmin2 hxl hl
  go_enter Tryd.func20, Tryd.ntmps20
  go_upto_region 15 with (fail)
  go_region
  clear hc1 hov
  go_wp2
  go_ret
  refine ⟨rfl, ?_⟩
  have hend := HEND.out
  rw [List.append_assoc] at hend
  rw [setRow_setRow]
  exact hend
end Go.Proofs.YtpefajgllapicaaDoor
