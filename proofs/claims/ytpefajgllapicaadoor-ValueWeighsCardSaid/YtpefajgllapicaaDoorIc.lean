/- Walks: slices.Insert of one element in a row without room. -/
import Derived.Test.YtpefajgllapicaaDoorIb
import Derived.WalkKit
import Derived.WalkSpells
import Derived.WalkLawsBesides
import Derived.Lib.Hide
import Derived.Laws.OwnMore
import Derived.Laws.MakeOwn
import Derived.Laws.CopyRow
import Derived.Lib.AppendZerosOnto
import Derived.Lib.Overlaps
import Derived.OwnWalk
import Derived.Carry
import Derived.OneCell
import Derived.BigRegion
import Derived.BigQuiet
import Derived.Deep.QuietTactic
import Derived.Deep.LoopGhost
import Derived.Deep.DeepCutAuto
import Derived.Deep.CutBlock
import Derived.Deep.RegionHeld3
set_option linter.unusedVariables false
namespace Go.Proofs.YtpefajgllapicaaDoor
open Go.RowKit
theorem wpList_append_run {w w' : World} {ops : Array Oper} {rest : List Oper} {o : Oper} {a : Act} {Q : Exit → Act → World → Prop} (hgd : o.guard = none) (sl x : Operand) (t tn : TypeId)
    (ho : o.op = .call { callee := .builtin .append, args := #[sl, x], argTypes := #[t, tn] }) (vs vx v' : Value) (hs : a.eval sl = vs) (hx : a.eval x = vx) (hrun : ∀ ty, (Builtin.append_ #[t, tn] ty #[vs, vx]).run Tryd.prog w = .ok v' w')
    (h : wpList Tryd.prog ops Q rest (a.put o.dst v') w') : wpList Tryd.prog ops Q (o :: rest) a w := by
  refine wpList_plain hgd fun K hK => ?_
  unfold Oper.wp execOp
  simp only [ho, resolve, invoke, builtin, Sem.run_bind, Sem.run_pure, Result.andThen_ok, List.map_toArray, List.map_cons, List.map_nil, hs, hx, hrun]
  exact hK _ _ h
theorem grow_list (C0 xs new c1 c2 : List Value) (o z m : Nat) (ho : o ≤ m) (hxl : xs.length = m) (h0 : C0.take o = xs.take o) (hl : new.length = z) (hfit : m + z ≤ C0.length) (h1 : c1 = C0.take o ++ new ++ C0.drop (o + new.length)) (h2 : c2 = c1.take (o + z) ++ xs.drop o ++ c1.drop (o + z + (xs.drop o).length)) :
    c2.take (m + z) = xs.take o ++ new ++ xs.drop o ∧ c2.length = C0.length := by
  have hdl : (xs.drop o).length = m - o := by rw [List.length_drop, hxl]
  have htl : (xs.take o ++ new).length = o + z := by rw [List.length_append, List.length_take, hl]; omega
  have hc1l : c1.length = C0.length := by rw [h1, h0]; simp only [List.length_append, List.length_take, List.length_drop, hl, hxl]; omega
  have e1 : c1.take (o + z) = xs.take o ++ new := by
    rw [h1, h0]
    exact List.take_left' htl
  rw [h2, e1]
  constructor
  · refine List.take_left' ?_
    simp only [List.length_append, List.length_take, hl, hxl, hdl]
    omega
  · simp only [List.length_append, List.length_take, List.length_drop, hl, hxl, hc1l]
    omega
theorem app_zeros_24 (w : World) (base g n cap i : Nat) (xs : List Value) (hn : n ≤ 100000) (hin : i < n) (hroom : cap < n + 1) (hown : w.ownsRow base 9 1 (.slice (some ⟨g, 0, none⟩) n cap) n xs) :
    ∃ (C : Nat) (C0 : Array Value) (w1 : World), (∀ ty, (Builtin.append_ #[24, 3] ty #[.slice (some ⟨g, 0, none⟩) i cap, .int .i64 ((n : Int) + 1 - (i : Int))]).run Tryd.prog w = .ok (.slice (some ⟨w.heap.size, 0, none⟩) (n + 1) C) w1) ∧
      w1.heap[w.heap.size]? = some (.cells C0 9 (0, 0)) ∧ n + 1 ≤ C ∧ C ≤ maxLen ∧ C0.size = C ∧ C0.toList.take i = xs.take i ∧ w.grownBy w1 none := by
  obtain ⟨i0, hi, hz0, hz1, hz2⟩ := info_parts Tryd.info9
  have hxl := hown.1
  obtain ⟨k, hk⟩ : ∃ k, k = n + 1 - i := ⟨_, rfl⟩
  have hkI : (n : Int) + 1 - (i : Int) = (k : Int) := by omega
  have hik : i + k = n + 1 := by omega
  have hold : (Builtin.firstCells i0.size i (.slice (some ⟨g, 0, none⟩) i cap)).run Tryd.prog w.drew = .ok (xs.take i).toArray w.drew := by
    refine run_firstCells_some (P := Tryd.prog) w.drew i0.size i ⟨g, 0, none⟩ i cap (xs.take i) (by rw [hz1, List.length_take]; omega) (fun j u hu => ?_)
    have hadd : (⟨g, 0, none⟩ : Addr).add j = ⟨g, j, none⟩ := by unfold Addr.add; split <;> simp_all
    rw [hadd]
    rw [List.getElem?_take] at hu
    split at hu
    · have := hown.cellAt j (by have := (List.getElem?_eq_some_iff.1 hu).1; omega)
      exact this.trans hu
    · cases hu
  have hfit : Builtin.nextslicecap (i + k) cap * i0.bytes ≤ 281474976710656 := growslice_fits (by omega) (by rw [hz2]; omega)
  have happ := fun ty => Lib.run_append_grow_zeros (P := Tryd.prog) w 24 3 ty 9 i0 (.string ByteArray.empty) .i64 .i64 Tryd.underlying24 Tryd.underlying3 hi hz0 (some ⟨g, 0, none⟩) i cap (xs.take i) hold k (by omega) (by rw [hz1]; omega) (by omega) (by omega) (by rw [hz2]; omega) hfit
  rw [hik] at happ
  have hge := grownCap_ge w (n + 1) cap 9
  have hle := grownCap_le_maxLen w (n + 1) cap 9 (by unfold maxLen; omega)
  have htl : (xs.take i).length = i := by rw [List.length_take]; omega
  refine ⟨_, _, _, fun ty => by rw [hkI]; exact happ ty, heap_alloc_new w.drew _, hge, hle, ?_, ?_, ⟨rfl, rfl, rfl, by simp, fun j hj _ => Below.heap_alloc w.drew _ j hj⟩⟩
  · simp only [Array.size_append, List.size_toArray, size_zeroCells, htl]
    show i + k * 1 + (grownCap w (n + 1) cap 9 - (n + 1)) * 1 = grownCap w (n + 1) cap 9
    omega
  · simp only [Array.toList_append, List.append_assoc]
    exact List.take_left' htl
set_option maxRecDepth 20000 in
set_option maxHeartbeats 2000000 in
theorem ins_grow_24 (w : World) (base g n cap i B c : Nat) (xs new : List Value) (hn : n ≤ 100000) (hin : i < n) (hroom : cap < n + 1) (hown : w.ownsRow base 9 1 (.slice (some ⟨g, 0, none⟩) n cap) n xs) (hone : ∀ u ∈ xs, u.oneCell' = true) (hl : new.length = 1) (hB : w.heap[B]? = some (.cells new.toArray 9 (0, 0))) (hnone : ∀ u ∈ new, u.oneCell' = true) (hb : base ≤ w.heap.size) :
    Calls Tryd.prog 19 #[.slice (some ⟨g, 0, none⟩) n cap, .int .i64 (i : Int), .slice (some ⟨B, 0, none⟩) 1 c] w fun e w' => ∃ C, e = .returned (.slice (some ⟨w.heap.size, 0, none⟩) (n + 1) C) ∧ w'.ownsRow base 9 1 (.slice (some ⟨w.heap.size, 0, none⟩) (n + 1) C) (n + 1) (xs.take i ++ new ++ xs.drop i) ∧ w.grownBy w' none := by
  obtain ⟨C, C0, w1, happ, hG, hC1, hC2, hC3, hC4, hgr⟩ := app_zeros_24 w base g n cap i xs hn hin hroom hown
  obtain ⟨hgl, hcapn⟩ : g < w.heap.size ∧ n ≤ cap := by
    rcases hown.2 with ⟨h', _⟩ | ⟨g', cap', cur, h', e1, e2, e3, e4, e5, e6⟩
    · simp at h'
    · simp only [Value.slice.injEq, Option.some.injEq, Addr.mk.injEq, and_true, true_and] at h'
      obtain ⟨rfl, rfl⟩ := h'
      exact ⟨(Array.getElem?_eq_some_iff.1 e2).1, e3⟩
  have hBl : B < w.heap.size := (Array.getElem?_eq_some_iff.1 hB).1
  have hxl := hown.1
  obtain ⟨G, hGd⟩ : ∃ G, G = w.heap.size := ⟨_, rfl⟩
  rw [← hGd] at happ hG hgl hBl hb ⊢
  have hdl : (xs.drop i).length = n - i := by rw [List.length_drop, hxl]; omega
  have hB1 : w1.heap[B]? = some (.cells new.toArray 9 (0, 0)) := (hgr.block B (by omega) (by simp)).trans hB
  obtain ⟨c1, hc1d⟩ : ∃ c1, c1 = (C0.toList.take i ++ new ++ C0.toList.drop (i + new.length)).toArray := ⟨_, rfl⟩
  have hmin2 : Nat.min 1 (n + 1 - i) = 1 := Nat.min_eq_left (by omega)
  have hc1 := fun ty => run_copy_many (P := Tryd.prog) w1 24 24 ty 9 1 G i (n + 1 - i) (C - i) ⟨B, 0, none⟩ 1 c C0 9 new Tryd.underlying24 (by kernel_rfl) hG (by rw [hmin2]; omega) (news9 hB1) (by rw [hl, hC3]; omega) hnone
  rw [← hc1d, hmin2] at hc1
  have hG1 : (w1.setRow G c1).drew.heap[G]? = some (.cells c1 9 (0, 0)) := setRow_heap w1 G C0 _ 9 _ hG
  have hs1 : c1.size = C := by rw [hc1d]; simp only [List.size_toArray, List.length_append, List.length_take, List.length_drop, hl, Array.length_toList, hC3]; omega
  have hown1 : (w1.setRow G c1).drew.ownsRow base 9 1 (.slice (some ⟨g, 0, none⟩) n cap) n xs := by
    refine ⟨hown.1, ?_⟩
    rcases hown.2 with h' | ⟨g', cap', cur, h', e1, e2, e3⟩
    · exact Or.inl h'
    · simp only [Value.slice.injEq, Option.some.injEq, Addr.mk.injEq, and_true, true_and] at h'
      obtain ⟨rfl, rfl⟩ := h'
      exact Or.inr ⟨g, cap, cur, rfl, e1, (setRow_other w1 G g c1 (by omega)).trans ((hgr.block g (by omega) (by simp)).trans e2), e3⟩
  have hmin : Nat.min (n - i) (n - i) = n - i := Nat.min_eq_left (Nat.le_refl _)
  obtain ⟨c2, hc2d⟩ : ∃ c2, c2 = (c1.toList.take (i + 1) ++ xs.drop i ++ c1.toList.drop ((i + 1) + (xs.drop i).length)).toArray := ⟨_, rfl⟩
  have hc2 := fun ty => run_copy_many (P := Tryd.prog) (w1.setRow G c1).drew 24 24 ty 9 1 G (i + 1) (n - i) (C - (i + 1)) ⟨g, i, none⟩ (n - i) (cap - i) c1 9 (xs.drop i) Tryd.underlying24 (by kernel_rfl) hG1 (by rw [hmin]; omega)
    (fun j u hu => by
      have hadd : (⟨g, i, none⟩ : Addr).add j = ⟨g, i + j, none⟩ := by unfold Addr.add; split <;> simp_all
      have := hown1.cellAt (i + j) (by have := (List.getElem?_eq_some_iff.1 hu).1; omega)
      rw [hadd]
      exact this.trans (by rw [List.getElem?_drop] at hu; exact hu)) (by rw [hdl, hs1]; omega) (fun u hu => hone u (List.mem_of_mem_drop hu))
  rw [← hc2d, hmin] at hc2
  have HEND : Hid (((w1.setRow G c1).drew.setRow G c2).ownsRow base 9 1 (.slice (some ⟨G, 0, none⟩) (n + 1) C) (n + 1) (xs.take i ++ new ++ xs.drop i) ∧ w.grownBy ((w1.setRow G c1).drew.setRow G c2) none) := Lib.hid (by
    have hall := grow_list C0.toList xs new c1.toList c2.toList i 1 n (by omega) (by omega) hC4 hl (by rw [Array.length_toList, hC3]; omega) (by rw [hc1d]) (by simp [hc2d, Nat.add_mul])
    refine ⟨⟨?_, Or.inr ⟨G, C, c2, rfl, hb, setRow_heap _ G c1 _ 9 _ hG1, hC1, hC2, ?_, ?_⟩⟩, ⟨hgr.os, hgr.tape, hgr.output, ?_, fun k hk _ => ?_⟩⟩
    · rw [← hall.1, List.length_take, hall.2, Array.length_toList, hC3]; omega
    · have := hall.2
      rw [Array.length_toList, Array.length_toList] at this
      omega
    · rw [show (n + 1) * 1 = n + 1 by omega]
      exact hall.1
    · rw [size_setRow]
      show w.heap.size ≤ (w1.setRow G c1).heap.size
      rw [size_setRow]
      exact hgr.size
    · rw [setRow_other _ G k _ (by omega)]
      exact (setRow_other w1 G k c1 (by omega)).trans (hgr.block k hk (by simp)))
  have i1 : (i : Int) ≤ n := by omega
  have i2 : (i : Int) ≤ cap := by omega
  have i3 : (i : Int) + 1 ≤ (n : Int) + 1 := by omega
  have i4 : (i : Int) + 1 ≤ C := by omega
  have i5 : (n : Int) + 1 ≤ C := by omega
  have i6 : ¬ cap = i := by omega
  have i7 : ¬ C = i + 1 := by omega
  have i7b : ¬ C = i := by omega
  have i8 : ((i : Int) == (n : Int)) = false := by simp; omega
  have i10 : (0 : Int) ≤ (i : Int) + 1 := by omega
  have i11 : (i : Int) ≤ (n : Int) + 1 := by omega
  have i12 : (cap : Int) < (n : Int) + 1 := by omega
  have i13 : (i : Int) ≤ C := by omega
  have i14 : (n : Int) ≤ cap := by omega
  have w1' : IntKind.i64.wrap ((n : Int) + 1) = (n : Int) + 1 := by rw [IntKind.wrap_i64]; omega
  have w2' : IntKind.i64.wrap ((i : Int) + 1) = (i : Int) + 1 := by rw [IntKind.wrap_i64]; omega
  have w3' : IntKind.i64.wrap ((n : Int) + 1 - (i : Int)) = (n : Int) + 1 - (i : Int) := by rw [IntKind.wrap_i64]; omega
  have HAP := Lib.hid happ
  clear happ
  clear hown hone hB hnone hG hG1 hB1 hC3 hs1 hc1d hc2d hdl hmin hmin2 hxl hl hown1 hC4 hgr hGd
  go_enter Tryd.func19, Tryd.ntmps19
  go_upto_region 11 with (at_builtin; refine wpList_append_run rfl _ _ 24 3 rfl _ _ _ rfl rfl HAP.out ?_)
  go_region
  clear hc1 hc2
  go_wp2
  go_ret
  refine ⟨C, rfl, ?_⟩
  exact HEND.out
theorem app_zeros_25 (w : World) (base g n cap i : Nat) (xs : List Value) (hn : n ≤ 100000) (hin : i < n) (hroom : cap < n + 1) (hown : w.ownsRow base 28 8 (.slice (some ⟨g, 0, none⟩) n cap) n xs) :
    ∃ (C : Nat) (C0 : Array Value) (w1 : World), (∀ ty, (Builtin.append_ #[25, 3] ty #[.slice (some ⟨g, 0, none⟩) i cap, .int .i64 ((n : Int) + 1 - (i : Int))]).run Tryd.prog w = .ok (.slice (some ⟨w.heap.size, 0, none⟩) (n + 1) C) w1) ∧
      w1.heap[w.heap.size]? = some (.cells C0 28 (0, 0)) ∧ n + 1 ≤ C ∧ C ≤ maxLen ∧ C0.size = C * 8 ∧ C0.toList.take (i * 8) = xs.take (i * 8) ∧ w.grownBy w1 none := by
  obtain ⟨i0, hi, hz0, hz1, hz2⟩ := info_parts Tryd.info28
  have hxl := hown.1
  obtain ⟨k, hk⟩ : ∃ k, k = n + 1 - i := ⟨_, rfl⟩
  have hkI : (n : Int) + 1 - (i : Int) = (k : Int) := by omega
  have hik : i + k = n + 1 := by omega
  have hold : (Builtin.firstCells i0.size i (.slice (some ⟨g, 0, none⟩) i cap)).run Tryd.prog w.drew = .ok (xs.take (i * 8)).toArray w.drew := by
    refine run_firstCells_some (P := Tryd.prog) w.drew i0.size i ⟨g, 0, none⟩ i cap (xs.take (i * 8)) (by rw [hz1, List.length_take]; omega) (fun j u hu => ?_)
    have hadd : (⟨g, 0, none⟩ : Addr).add j = ⟨g, j, none⟩ := by unfold Addr.add; split <;> simp_all
    rw [hadd]
    rw [List.getElem?_take] at hu
    split at hu
    · have := hown.cellAt j (by have := (List.getElem?_eq_some_iff.1 hu).1; omega)
      exact this.trans hu
    · cases hu
  have hfit : Builtin.nextslicecap (i + k) cap * i0.bytes ≤ 281474976710656 := growslice_fits (by omega) (by rw [hz2]; omega)
  have happ := fun ty => Lib.run_append_grow_zeros (P := Tryd.prog) w 25 3 ty 28 i0 (.agg #[.int .i64 0, .int .i64 0, .int .u64 0, .string ByteArray.empty, .slice none 0 0, .slice none 0 0, .pointer none, .int .i64 0]) .i64 .i64 Tryd.underlying25 Tryd.underlying3 hi hz0 (some ⟨g, 0, none⟩) i cap (xs.take (i * 8)) hold k (by omega) (by rw [hz1]; omega) (by omega) (by omega) (by rw [hz2]; omega) hfit
  rw [hik] at happ
  have hge := grownCap_ge w (n + 1) cap 28
  have hle := grownCap_le_maxLen w (n + 1) cap 28 (by unfold maxLen; omega)
  have htl : (xs.take (i * 8)).length = i * 8 := by rw [List.length_take]; omega
  refine ⟨_, _, _, fun ty => by rw [hkI]; exact happ ty, heap_alloc_new w.drew _, hge, hle, ?_, ?_, ⟨rfl, rfl, rfl, by simp, fun j hj _ => Below.heap_alloc w.drew _ j hj⟩⟩
  · simp only [Array.size_append, List.size_toArray, size_zeroCells, htl]
    show i * 8 + k * 8 + (grownCap w (n + 1) cap 28 - (n + 1)) * 8 = grownCap w (n + 1) cap 28 * 8
    omega
  · simp only [Array.toList_append, List.append_assoc]
    exact List.take_left' htl
set_option maxRecDepth 20000 in
set_option maxHeartbeats 2000000 in
theorem ins_grow_25 (w : World) (base g n cap i B c : Nat) (xs new : List Value) (hn : n ≤ 100000) (hin : i < n) (hroom : cap < n + 1) (hown : w.ownsRow base 28 8 (.slice (some ⟨g, 0, none⟩) n cap) n xs) (hone : ∀ u ∈ xs, u.oneCell' = true) (hl : new.length = 8) (hB : w.heap[B]? = some (.cells new.toArray 28 (0, 0))) (hnone : ∀ u ∈ new, u.oneCell' = true) (hb : base ≤ w.heap.size) :
    Calls Tryd.prog 20 #[.slice (some ⟨g, 0, none⟩) n cap, .int .i64 (i : Int), .slice (some ⟨B, 0, none⟩) 1 c] w fun e w' => ∃ C, e = .returned (.slice (some ⟨w.heap.size, 0, none⟩) (n + 1) C) ∧ w'.ownsRow base 28 8 (.slice (some ⟨w.heap.size, 0, none⟩) (n + 1) C) (n + 1) (xs.take (i * 8) ++ new ++ xs.drop (i * 8)) ∧ w.grownBy w' none := by
  obtain ⟨C, C0, w1, happ, hG, hC1, hC2, hC3, hC4, hgr⟩ := app_zeros_25 w base g n cap i xs hn hin hroom hown
  obtain ⟨hgl, hcapn⟩ : g < w.heap.size ∧ n ≤ cap := by
    rcases hown.2 with ⟨h', _⟩ | ⟨g', cap', cur, h', e1, e2, e3, e4, e5, e6⟩
    · simp at h'
    · simp only [Value.slice.injEq, Option.some.injEq, Addr.mk.injEq, and_true, true_and] at h'
      obtain ⟨rfl, rfl⟩ := h'
      exact ⟨(Array.getElem?_eq_some_iff.1 e2).1, e3⟩
  have hBl : B < w.heap.size := (Array.getElem?_eq_some_iff.1 hB).1
  have hxl := hown.1
  obtain ⟨G, hGd⟩ : ∃ G, G = w.heap.size := ⟨_, rfl⟩
  rw [← hGd] at happ hG hgl hBl hb ⊢
  have hdl : (xs.drop (i * 8)).length = (n - i) * 8 := by rw [List.length_drop, hxl]; omega
  have hB1 : w1.heap[B]? = some (.cells new.toArray 28 (0, 0)) := (hgr.block B (by omega) (by simp)).trans hB
  obtain ⟨c1, hc1d⟩ : ∃ c1, c1 = (C0.toList.take (i * 8) ++ new ++ C0.toList.drop (i * 8 + new.length)).toArray := ⟨_, rfl⟩
  have hmin2 : Nat.min 1 (n + 1 - i) = 1 := Nat.min_eq_left (by omega)
  have hc1 := fun ty => run_copy_many (P := Tryd.prog) w1 25 25 ty 28 8 G (i * 8) (n + 1 - i) (C - i) ⟨B, 0, none⟩ 1 c C0 28 new Tryd.underlying25 (by kernel_rfl) hG (by rw [hmin2]; omega) (news28 hB1) (by rw [hl, hC3]; omega) hnone
  rw [← hc1d, hmin2] at hc1
  have hG1 : (w1.setRow G c1).drew.heap[G]? = some (.cells c1 28 (0, 0)) := setRow_heap w1 G C0 _ 28 _ hG
  have hs1 : c1.size = C * 8 := by rw [hc1d]; simp only [List.size_toArray, List.length_append, List.length_take, List.length_drop, hl, Array.length_toList, hC3]; omega
  have hown1 : (w1.setRow G c1).drew.ownsRow base 28 8 (.slice (some ⟨g, 0, none⟩) n cap) n xs := by
    refine ⟨hown.1, ?_⟩
    rcases hown.2 with h' | ⟨g', cap', cur, h', e1, e2, e3⟩
    · exact Or.inl h'
    · simp only [Value.slice.injEq, Option.some.injEq, Addr.mk.injEq, and_true, true_and] at h'
      obtain ⟨rfl, rfl⟩ := h'
      exact Or.inr ⟨g, cap, cur, rfl, e1, (setRow_other w1 G g c1 (by omega)).trans ((hgr.block g (by omega) (by simp)).trans e2), e3⟩
  have hmin : Nat.min (n - i) (n - i) = n - i := Nat.min_eq_left (Nat.le_refl _)
  obtain ⟨c2, hc2d⟩ : ∃ c2, c2 = (c1.toList.take ((i + 1) * 8) ++ xs.drop (i * 8) ++ c1.toList.drop ((i + 1) * 8 + (xs.drop (i * 8)).length)).toArray := ⟨_, rfl⟩
  have hc2 := fun ty => run_copy_many (P := Tryd.prog) (w1.setRow G c1).drew 25 25 ty 28 8 G ((i + 1) * 8) (n - i) (C - (i + 1)) ⟨g, i * 8, none⟩ (n - i) (cap - i) c1 28 (xs.drop (i * 8)) Tryd.underlying25 (by kernel_rfl) hG1 (by rw [hmin]; omega)
    (fun j u hu => by
      have hadd : (⟨g, i * 8, none⟩ : Addr).add j = ⟨g, i * 8 + j, none⟩ := by unfold Addr.add; split <;> simp_all
      have := hown1.cellAt (i * 8 + j) (by have := (List.getElem?_eq_some_iff.1 hu).1; omega)
      rw [hadd]
      exact this.trans (by rw [List.getElem?_drop] at hu; exact hu)) (by rw [hdl, hs1]; omega) (fun u hu => hone u (List.mem_of_mem_drop hu))
  rw [← hc2d, hmin] at hc2
  have HEND : Hid (((w1.setRow G c1).drew.setRow G c2).ownsRow base 28 8 (.slice (some ⟨G, 0, none⟩) (n + 1) C) (n + 1) (xs.take (i * 8) ++ new ++ xs.drop (i * 8)) ∧ w.grownBy ((w1.setRow G c1).drew.setRow G c2) none) := Lib.hid (by
    have hall := grow_list C0.toList xs new c1.toList c2.toList (i * 8) 8 (n * 8) (by omega) (by omega) hC4 hl (by rw [Array.length_toList, hC3]; omega) (by rw [hc1d]) (by simp [hc2d, Nat.add_mul])
    refine ⟨⟨?_, Or.inr ⟨G, C, c2, rfl, hb, setRow_heap _ G c1 _ 28 _ hG1, hC1, hC2, ?_, ?_⟩⟩, ⟨hgr.os, hgr.tape, hgr.output, ?_, fun k hk _ => ?_⟩⟩
    · rw [← hall.1, List.length_take, hall.2, Array.length_toList, hC3]; omega
    · have := hall.2
      rw [Array.length_toList, Array.length_toList] at this
      omega
    · rw [show (n + 1) * 8 = (n * 8) + 8 by omega]
      exact hall.1
    · rw [size_setRow]
      show w.heap.size ≤ (w1.setRow G c1).heap.size
      rw [size_setRow]
      exact hgr.size
    · rw [setRow_other _ G k _ (by omega)]
      exact (setRow_other w1 G k c1 (by omega)).trans (hgr.block k hk (by simp)))
  have i1 : (i : Int) ≤ n := by omega
  have i2 : (i : Int) ≤ cap := by omega
  have i3 : (i : Int) + 1 ≤ (n : Int) + 1 := by omega
  have i4 : (i : Int) + 1 ≤ C := by omega
  have i5 : (n : Int) + 1 ≤ C := by omega
  have i6 : ¬ cap = i := by omega
  have i7 : ¬ C = i + 1 := by omega
  have i7b : ¬ C = i := by omega
  have i8 : ((i : Int) == (n : Int)) = false := by simp; omega
  have i10 : (0 : Int) ≤ (i : Int) + 1 := by omega
  have i11 : (i : Int) ≤ (n : Int) + 1 := by omega
  have i12 : (cap : Int) < (n : Int) + 1 := by omega
  have i13 : (i : Int) ≤ C := by omega
  have i14 : (n : Int) ≤ cap := by omega
  have w1' : IntKind.i64.wrap ((n : Int) + 1) = (n : Int) + 1 := by rw [IntKind.wrap_i64]; omega
  have w2' : IntKind.i64.wrap ((i : Int) + 1) = (i : Int) + 1 := by rw [IntKind.wrap_i64]; omega
  have w3' : IntKind.i64.wrap ((n : Int) + 1 - (i : Int)) = (n : Int) + 1 - (i : Int) := by rw [IntKind.wrap_i64]; omega
  have HAP := Lib.hid happ
  clear happ
  clear hown hone hB hnone hG hG1 hB1 hC3 hs1 hc1d hc2d hdl hmin hmin2 hxl hl hown1 hC4 hgr hGd
  go_enter Tryd.func20, Tryd.ntmps20
  go_upto_region 11 with (at_builtin; refine wpList_append_run rfl _ _ 25 3 rfl _ _ _ rfl rfl HAP.out ?_)
  go_region
  clear hc1 hc2
  go_wp2
  go_ret
  refine ⟨C, rfl, ?_⟩
  exact HEND.out
end Go.Proofs.YtpefajgllapicaaDoor
