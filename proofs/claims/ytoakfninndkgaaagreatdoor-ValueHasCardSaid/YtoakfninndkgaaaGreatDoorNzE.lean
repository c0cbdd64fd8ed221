/- Walks: ref09.may. -/
import Derived.Test.YtoakfninndkgaaaGreatDoorNzD
set_option linter.unusedVariables false
namespace Go.Proofs.YtoakfninndkgaaaGreatDoor
open Go.RowKit
def kindAt (B : List Hd) (x : Int) : Int := match B[x.toNat]? with
  | some b => b.kd
  | none => 5
def recB (NS : List ByteArray) (KS : List Int) (MS : List ByteArray) (JS : List Int) (U : Nat → Nat → Bool) (n : Nat) : Bool := match MS[n]? with
  | some s => decide (0 ≤ findK NS KS s) && U (findK NS KS s).toNat (JS.getD n 0).toNat
  | none => true
def var1B (NS : List ByteArray) (KS : List Int) (MS : List ByteArray) (JS : List Int) (eq : Bool) (U : Nat → Nat → Bool) (n : Nat) : Bool := match NS[n]? with
  | some s => if findK MS JS s < 0 then eq else U (KS.getD n 0).toNat (findK MS JS s).toNat
  | none => true
def var2B (NS : List ByteArray) (KS : List Int) (op : Bool) (MS : List ByteArray) (JS : List Int) (B : List Hd) (n : Nat) : Bool := match MS[n]? with
  | some s => !(op && decide (findK NS KS s < 0) && decide (kindAt B (JS.getD n 0) ≠ 5))
  | none => true
/-- may a head be below another one, by tables of kids? -/
def mayH (h k : Hd) (B : List Hd) (U D : Nat → Nat → Bool) : Bool :=
  if h.kd = 6 ∨ k.kd = 5 then true
  else if h.kd ≠ k.kd then false
  else if h.kd = 7 then D (k.KS.getD 0 0).toNat (h.KS.getD 0 0).toNat && U (h.KS.getD 1 0).toNat (k.KS.getD 1 0).toNat
  else if h.kd = 8 then (List.range k.NS.length).all (recB h.NS h.KS k.NS k.KS U)
  else if h.kd = 9 then !(h.op && !k.op) && (List.range h.NS.length).all (var1B h.NS h.KS k.NS k.KS k.op U) && (List.range k.NS.length).all (var2B h.NS h.KS h.op k.NS k.KS B)
  else true
structure TabR (w : World) (G n m : Nat) (R C : Nat → Nat) (f : Nat → Nat → Bool) : Prop where
  row : ∀ i, i < n → w.cell? ⟨G, i, none⟩ = some (.slice (some ⟨R i, 0, none⟩) m (C i))
  cell : ∀ i j, i < n → j < m → w.cell? ⟨R i, j, none⟩ = some (.bool (f i j))
  gl : G < w.heap.size
  rl : ∀ i, i < n → R i < w.heap.size
theorem Tab.read {w : World} {lo hi G c n m : Nat} {R C : Nat → Nat} {f : Nat → Nat → Bool} (h : Tab w lo hi G c n m R C f) : TabR w G n m R C f where
  row i hi' := by
    rcases h.own.2 with ⟨h1, -⟩ | ⟨g, cap, cur, e1, e2, e3, e4, e5, e6, e7⟩
    · cases h1
    · cases e1
      rw [cell_of_row _ _ i _ 87 _ e3]
      exact row_at e7 (by unfold rowsL; rw [List.getElem?_map, List.getElem?_range hi']; rfl)
  cell i j hi' hj := by
    obtain ⟨cur, h1, h2⟩ := h.rows.cell i hi'
    rw [cell_of_row _ _ j _ 4 _ h1]
    exact h2 j hj
  gl := (h.own.lt G rfl).2
  rl i hi' := by
    obtain ⟨cur, h1, h2⟩ := h.rows.cell i hi'
    exact (Array.getElem?_eq_some_iff.1 h1).1
theorem TabR.on {w w' : World} {G n m : Nat} {R C : Nat → Nat} {f : Nat → Nat → Bool} (h : TabR w G n m R C f) (hb : Below w.heap.size w w') : TabR w' G n m R C f :=
  ⟨fun i hi => keepB hb h.gl (h.row i hi), fun i j hi hj => keepB hb (h.rl i hi) (h.cell i j hi hj), Nat.lt_of_lt_of_le h.gl hb.size, fun i hi => Nat.lt_of_lt_of_le (h.rl i hi) hb.size⟩
set_option maxRecDepth 20000 in
set_option maxHeartbeats 4000000 in
theorem may_top (w : World) (la lb : Option Addr) (ln lc lm ld : Nat) (A B : List Hd) (hA : HeadsIn w la ln A) (hB : HeadsIn w lb lm B) (hln : (ln : Int) ≤ 100000) (hlm : (lm : Int) ≤ 100000) (Gu cu Gd cd : Nat) (Ru Cu Rd Cd : Nat → Nat) (U D : Nat → Nat → Bool) (hU : TabR w Gu ln lm Ru Cu U) (hD : TabR w Gd lm ln Rd Cd D) (i j : Nat) (hd : Int) (na : Option Addr) (nn nc : Nat) (NS : List ByteArray) (ka : Option Addr) (kn kc : Nat) (KS : List Int) (op : Bool) (hi : A[i]? = some ⟨hd, na, nn, nc, NS, ka, kn, kc, KS, op⟩) (ed : Int) (ma : Option Addr) (mn mc : Nat) (MS : List ByteArray) (ja : Option Addr) (jn jc : Nat) (JS : List Int) (eq : Bool) (hj : B[j]? = some ⟨ed, ma, mn, mc, MS, ja, jn, jc, JS, eq⟩) (h65 : hd = 6 ∨ ed = 5) :
    Calls Tryz.prog 63 #[.slice la ln lc, .slice lb lm ld, .slice (some ⟨Gu, 0, none⟩) ln cu, .slice (some ⟨Gd, 0, none⟩) lm cd, .int .i64 (i : Int), .int .i64 (j : Int)] w (BoolPost w true) := by
  rcases h65 with rfl | rfl
  · have HAA := Lib.hid hA
    have HBB := Lib.hid hB
    have hil : i < ln := by rw [hA.1]; exact (List.getElem?_eq_some_iff.1 hi).1
    have hil2 : (i : Int) < ln := by omega
    have hjl : j < lm := by rw [hB.1]; exact (List.getElem?_eq_some_iff.1 hj).1
    have hjl2 : (j : Int) < lm := by omega
    have HUU := Lib.hid hU
    have HDD := Lib.hid hD
    obtain ⟨ga, oa, rfl, hga, hca⟩ := hA.2.resolve_left (by omega)
    obtain ⟨gb, ob, rfl, hgb, hcb⟩ := hB.2.resolve_left (by omega)
    have r1 := hca i _ hi
    have r2 := hcb j _ hj
    have HO1 := Lib.hid r1.ok
    have HO2 := Lib.hid r2.ok
    have h0 : w.cell? ⟨ga, oa + i * 4, none⟩ = some (.int .i64 6) := r1.c0
    have h1 : w.cell? ⟨ga, oa + i * 4 + 1, none⟩ = some (.slice na nn nc) := r1.c1
    have h2 : w.cell? ⟨ga, oa + i * 4 + 2, none⟩ = some (.slice ka kn kc) := r1.c2
    have h3 : w.cell? ⟨ga, oa + i * 4 + 3, none⟩ = some (.bool op) := r1.c3
    have k0 : w.cell? ⟨gb, ob + j * 4, none⟩ = some (.int .i64 ed) := r2.c0
    have k1 : w.cell? ⟨gb, ob + j * 4 + 1, none⟩ = some (.slice ma mn mc) := r2.c1
    have k2 : w.cell? ⟨gb, ob + j * 4 + 2, none⟩ = some (.slice ja jn jc) := r2.c2
    have k3 : w.cell? ⟨gb, ob + j * 4 + 3, none⟩ = some (.bool eq) := r2.c3
    have HLA := Lib.hid hA.1
    have HLB := Lib.hid hB.1
    have HII := Lib.hid hi
    have HJJ := Lib.hid hj
    have HW1 : Hid (∀ a b, (w.alloc (.cells a 38)).heap[w.heap.size]? = some (.cells a 38 (0, 0)) ∧ ((w.alloc (.cells a 38)).alloc (.cells b 38)).heap[w.heap.size]? = some (.cells a 38 (0, 0)) ∧ ((w.alloc (.cells a 38)).alloc (.cells b 38)).heap[w.heap.size + 1]? = some (.cells b 38 (0, 0)) ∧ Below w.heap.size w ((w.alloc (.cells a 38)).alloc (.cells b 38))) := Lib.hid (fun a b => ⟨heap_alloc_new w _, by rw [Below.heap_alloc _ _ _ (by simp)]; exact heap_alloc_new w _, by have := heap_alloc_new (w.alloc (.cells a 38)) (.cells b 38); simpa using this, ((Below.refl _ _).alloc (Nat.le_refl _) _).alloc (by simp) _⟩)
    clear hA hB hU hD hca hcb r1 r2 hi hj
    go_enter Tryz.func63, Tryz.ntmps63
    go_upto_region 1 with (fail)
    go_cut [13, 14] from 23 (fun s13 s14 wc => ∃ B1 B2 : Nat, s13 = .pointer (some ⟨B1, 0, none⟩) ∧ s14 = .pointer (some ⟨B2, 0, none⟩) ∧ Hid (wc.heap[B1]? = some (.cells #[.int .i64 6, .slice na nn nc, .slice ka kn kc, .bool op] 38 (0, 0))) ∧ Hid (wc.heap[B2]? = some (.cells #[.int .i64 ed, .slice ma mn mc, .slice ja jn jc, .bool eq] 38 (0, 0))) ∧ Hid (Below w.heap.size w wc))
    case first =>
      go_region
      all_goals
        go_wp2
        go_meet
        case rel => first | exact ⟨w.heap.size, w.heap.size + 1, rfl, rfl, Lib.hid (HW1.out _ _).2.1, Lib.hid (HW1.out _ _).2.2.1, Lib.hid (HW1.out _ _).2.2.2.drew⟩ | exact ⟨w.heap.size + 1, w.heap.size, rfl, rfl, Lib.hid (HW1.out _ _).2.2.1, Lib.hid (HW1.out _ _).2.1, Lib.hid (HW1.out _ _).2.2.2.drew⟩
    obtain ⟨B1, B2, rfl, rfl, HY1, HY2, HBZ⟩ := hcut
    clear h0 h1 h2 h3 k0 k1 k2 k3 hga hgb
    have b0 : wc.cell? ⟨B1, 0, none⟩ = some (.int .i64 6) := (by rw [cell_of_row _ _ 0 _ 38 _ HY1.out]; rfl)
    have b1 : wc.cell? ⟨B1, 1, none⟩ = some (.slice na nn nc) := (by rw [cell_of_row _ _ 1 _ 38 _ HY1.out]; rfl)
    have b2 : wc.cell? ⟨B1, 2, none⟩ = some (.slice ka kn kc) := (by rw [cell_of_row _ _ 2 _ 38 _ HY1.out]; rfl)
    have b3 : wc.cell? ⟨B1, 3, none⟩ = some (.bool op) := (by rw [cell_of_row _ _ 3 _ 38 _ HY1.out]; rfl)
    have d0 : wc.cell? ⟨B2, 0, none⟩ = some (.int .i64 ed) := (by rw [cell_of_row _ _ 0 _ 38 _ HY2.out]; rfl)
    have d1 : wc.cell? ⟨B2, 1, none⟩ = some (.slice ma mn mc) := (by rw [cell_of_row _ _ 1 _ 38 _ HY2.out]; rfl)
    have d2 : wc.cell? ⟨B2, 2, none⟩ = some (.slice ja jn jc) := (by rw [cell_of_row _ _ 2 _ 38 _ HY2.out]; rfl)
    have d3 : wc.cell? ⟨B2, 3, none⟩ = some (.bool eq) := (by rw [cell_of_row _ _ 3 _ 38 _ HY2.out]; rfl)
    have HL1 : Hid (B1 < wc.heap.size) := Lib.hid (Array.getElem?_eq_some_iff.1 HY1.out).1
    have HL2 : Hid (B2 < wc.heap.size) := Lib.hid (Array.getElem?_eq_some_iff.1 HY2.out).1
    go_wp2
    go_ret
    exact ⟨rfl, HBZ.out⟩
  · by_cases h6 : hd = 6
    · subst h6
      have HAA := Lib.hid hA
      have HBB := Lib.hid hB
      have hil : i < ln := by rw [hA.1]; exact (List.getElem?_eq_some_iff.1 hi).1
      have hil2 : (i : Int) < ln := by omega
      have hjl : j < lm := by rw [hB.1]; exact (List.getElem?_eq_some_iff.1 hj).1
      have hjl2 : (j : Int) < lm := by omega
      have HUU := Lib.hid hU
      have HDD := Lib.hid hD
      obtain ⟨ga, oa, rfl, hga, hca⟩ := hA.2.resolve_left (by omega)
      obtain ⟨gb, ob, rfl, hgb, hcb⟩ := hB.2.resolve_left (by omega)
      have r1 := hca i _ hi
      have r2 := hcb j _ hj
      have HO1 := Lib.hid r1.ok
      have HO2 := Lib.hid r2.ok
      have h0 : w.cell? ⟨ga, oa + i * 4, none⟩ = some (.int .i64 6) := r1.c0
      have h1 : w.cell? ⟨ga, oa + i * 4 + 1, none⟩ = some (.slice na nn nc) := r1.c1
      have h2 : w.cell? ⟨ga, oa + i * 4 + 2, none⟩ = some (.slice ka kn kc) := r1.c2
      have h3 : w.cell? ⟨ga, oa + i * 4 + 3, none⟩ = some (.bool op) := r1.c3
      have k0 : w.cell? ⟨gb, ob + j * 4, none⟩ = some (.int .i64 5) := r2.c0
      have k1 : w.cell? ⟨gb, ob + j * 4 + 1, none⟩ = some (.slice ma mn mc) := r2.c1
      have k2 : w.cell? ⟨gb, ob + j * 4 + 2, none⟩ = some (.slice ja jn jc) := r2.c2
      have k3 : w.cell? ⟨gb, ob + j * 4 + 3, none⟩ = some (.bool eq) := r2.c3
      have HLA := Lib.hid hA.1
      have HLB := Lib.hid hB.1
      have HII := Lib.hid hi
      have HJJ := Lib.hid hj
      have HW1 : Hid (∀ a b, (w.alloc (.cells a 38)).heap[w.heap.size]? = some (.cells a 38 (0, 0)) ∧ ((w.alloc (.cells a 38)).alloc (.cells b 38)).heap[w.heap.size]? = some (.cells a 38 (0, 0)) ∧ ((w.alloc (.cells a 38)).alloc (.cells b 38)).heap[w.heap.size + 1]? = some (.cells b 38 (0, 0)) ∧ Below w.heap.size w ((w.alloc (.cells a 38)).alloc (.cells b 38))) := Lib.hid (fun a b => ⟨heap_alloc_new w _, by rw [Below.heap_alloc _ _ _ (by simp)]; exact heap_alloc_new w _, by have := heap_alloc_new (w.alloc (.cells a 38)) (.cells b 38); simpa using this, ((Below.refl _ _).alloc (Nat.le_refl _) _).alloc (by simp) _⟩)
      clear hA hB hU hD hca hcb r1 r2 hi hj
      go_enter Tryz.func63, Tryz.ntmps63
      go_upto_region 1 with (fail)
      go_cut [13, 14] from 23 (fun s13 s14 wc => ∃ B1 B2 : Nat, s13 = .pointer (some ⟨B1, 0, none⟩) ∧ s14 = .pointer (some ⟨B2, 0, none⟩) ∧ Hid (wc.heap[B1]? = some (.cells #[.int .i64 6, .slice na nn nc, .slice ka kn kc, .bool op] 38 (0, 0))) ∧ Hid (wc.heap[B2]? = some (.cells #[.int .i64 5, .slice ma mn mc, .slice ja jn jc, .bool eq] 38 (0, 0))) ∧ Hid (Below w.heap.size w wc))
      case first =>
        go_region
        all_goals
          go_wp2
          go_meet
          case rel => first | exact ⟨w.heap.size, w.heap.size + 1, rfl, rfl, Lib.hid (HW1.out _ _).2.1, Lib.hid (HW1.out _ _).2.2.1, Lib.hid (HW1.out _ _).2.2.2.drew⟩ | exact ⟨w.heap.size + 1, w.heap.size, rfl, rfl, Lib.hid (HW1.out _ _).2.2.1, Lib.hid (HW1.out _ _).2.1, Lib.hid (HW1.out _ _).2.2.2.drew⟩
      obtain ⟨B1, B2, rfl, rfl, HY1, HY2, HBZ⟩ := hcut
      clear h0 h1 h2 h3 k0 k1 k2 k3 hga hgb
      have b0 : wc.cell? ⟨B1, 0, none⟩ = some (.int .i64 6) := (by rw [cell_of_row _ _ 0 _ 38 _ HY1.out]; rfl)
      have b1 : wc.cell? ⟨B1, 1, none⟩ = some (.slice na nn nc) := (by rw [cell_of_row _ _ 1 _ 38 _ HY1.out]; rfl)
      have b2 : wc.cell? ⟨B1, 2, none⟩ = some (.slice ka kn kc) := (by rw [cell_of_row _ _ 2 _ 38 _ HY1.out]; rfl)
      have b3 : wc.cell? ⟨B1, 3, none⟩ = some (.bool op) := (by rw [cell_of_row _ _ 3 _ 38 _ HY1.out]; rfl)
      have d0 : wc.cell? ⟨B2, 0, none⟩ = some (.int .i64 5) := (by rw [cell_of_row _ _ 0 _ 38 _ HY2.out]; rfl)
      have d1 : wc.cell? ⟨B2, 1, none⟩ = some (.slice ma mn mc) := (by rw [cell_of_row _ _ 1 _ 38 _ HY2.out]; rfl)
      have d2 : wc.cell? ⟨B2, 2, none⟩ = some (.slice ja jn jc) := (by rw [cell_of_row _ _ 2 _ 38 _ HY2.out]; rfl)
      have d3 : wc.cell? ⟨B2, 3, none⟩ = some (.bool eq) := (by rw [cell_of_row _ _ 3 _ 38 _ HY2.out]; rfl)
      have HL1 : Hid (B1 < wc.heap.size) := Lib.hid (Array.getElem?_eq_some_iff.1 HY1.out).1
      have HL2 : Hid (B2 < wc.heap.size) := Lib.hid (Array.getElem?_eq_some_iff.1 HY2.out).1
      go_wp2
      go_ret
      exact ⟨rfl, HBZ.out⟩
    · have e6 : (hd == 6) = false := by simpa using h6
      have HAA := Lib.hid hA
      have HBB := Lib.hid hB
      have hil : i < ln := by rw [hA.1]; exact (List.getElem?_eq_some_iff.1 hi).1
      have hil2 : (i : Int) < ln := by omega
      have hjl : j < lm := by rw [hB.1]; exact (List.getElem?_eq_some_iff.1 hj).1
      have hjl2 : (j : Int) < lm := by omega
      have HUU := Lib.hid hU
      have HDD := Lib.hid hD
      obtain ⟨ga, oa, rfl, hga, hca⟩ := hA.2.resolve_left (by omega)
      obtain ⟨gb, ob, rfl, hgb, hcb⟩ := hB.2.resolve_left (by omega)
      have r1 := hca i _ hi
      have r2 := hcb j _ hj
      have HO1 := Lib.hid r1.ok
      have HO2 := Lib.hid r2.ok
      have h0 : w.cell? ⟨ga, oa + i * 4, none⟩ = some (.int .i64 hd) := r1.c0
      have h1 : w.cell? ⟨ga, oa + i * 4 + 1, none⟩ = some (.slice na nn nc) := r1.c1
      have h2 : w.cell? ⟨ga, oa + i * 4 + 2, none⟩ = some (.slice ka kn kc) := r1.c2
      have h3 : w.cell? ⟨ga, oa + i * 4 + 3, none⟩ = some (.bool op) := r1.c3
      have k0 : w.cell? ⟨gb, ob + j * 4, none⟩ = some (.int .i64 5) := r2.c0
      have k1 : w.cell? ⟨gb, ob + j * 4 + 1, none⟩ = some (.slice ma mn mc) := r2.c1
      have k2 : w.cell? ⟨gb, ob + j * 4 + 2, none⟩ = some (.slice ja jn jc) := r2.c2
      have k3 : w.cell? ⟨gb, ob + j * 4 + 3, none⟩ = some (.bool eq) := r2.c3
      have HLA := Lib.hid hA.1
      have HLB := Lib.hid hB.1
      have HII := Lib.hid hi
      have HJJ := Lib.hid hj
      have HW1 : Hid (∀ a b, (w.alloc (.cells a 38)).heap[w.heap.size]? = some (.cells a 38 (0, 0)) ∧ ((w.alloc (.cells a 38)).alloc (.cells b 38)).heap[w.heap.size]? = some (.cells a 38 (0, 0)) ∧ ((w.alloc (.cells a 38)).alloc (.cells b 38)).heap[w.heap.size + 1]? = some (.cells b 38 (0, 0)) ∧ Below w.heap.size w ((w.alloc (.cells a 38)).alloc (.cells b 38))) := Lib.hid (fun a b => ⟨heap_alloc_new w _, by rw [Below.heap_alloc _ _ _ (by simp)]; exact heap_alloc_new w _, by have := heap_alloc_new (w.alloc (.cells a 38)) (.cells b 38); simpa using this, ((Below.refl _ _).alloc (Nat.le_refl _) _).alloc (by simp) _⟩)
      clear hA hB hU hD hca hcb r1 r2 hi hj
      go_enter Tryz.func63, Tryz.ntmps63
      go_upto_region 1 with (fail)
      go_cut [13, 14] from 23 (fun s13 s14 wc => ∃ B1 B2 : Nat, s13 = .pointer (some ⟨B1, 0, none⟩) ∧ s14 = .pointer (some ⟨B2, 0, none⟩) ∧ Hid (wc.heap[B1]? = some (.cells #[.int .i64 hd, .slice na nn nc, .slice ka kn kc, .bool op] 38 (0, 0))) ∧ Hid (wc.heap[B2]? = some (.cells #[.int .i64 5, .slice ma mn mc, .slice ja jn jc, .bool eq] 38 (0, 0))) ∧ Hid (Below w.heap.size w wc))
      case first =>
        go_region
        all_goals
          go_wp2
          go_meet
          case rel => first | exact ⟨w.heap.size, w.heap.size + 1, rfl, rfl, Lib.hid (HW1.out _ _).2.1, Lib.hid (HW1.out _ _).2.2.1, Lib.hid (HW1.out _ _).2.2.2.drew⟩ | exact ⟨w.heap.size + 1, w.heap.size, rfl, rfl, Lib.hid (HW1.out _ _).2.2.1, Lib.hid (HW1.out _ _).2.1, Lib.hid (HW1.out _ _).2.2.2.drew⟩
      obtain ⟨B1, B2, rfl, rfl, HY1, HY2, HBZ⟩ := hcut
      clear h0 h1 h2 h3 k0 k1 k2 k3 hga hgb
      have b0 : wc.cell? ⟨B1, 0, none⟩ = some (.int .i64 hd) := (by rw [cell_of_row _ _ 0 _ 38 _ HY1.out]; rfl)
      have b1 : wc.cell? ⟨B1, 1, none⟩ = some (.slice na nn nc) := (by rw [cell_of_row _ _ 1 _ 38 _ HY1.out]; rfl)
      have b2 : wc.cell? ⟨B1, 2, none⟩ = some (.slice ka kn kc) := (by rw [cell_of_row _ _ 2 _ 38 _ HY1.out]; rfl)
      have b3 : wc.cell? ⟨B1, 3, none⟩ = some (.bool op) := (by rw [cell_of_row _ _ 3 _ 38 _ HY1.out]; rfl)
      have d0 : wc.cell? ⟨B2, 0, none⟩ = some (.int .i64 5) := (by rw [cell_of_row _ _ 0 _ 38 _ HY2.out]; rfl)
      have d1 : wc.cell? ⟨B2, 1, none⟩ = some (.slice ma mn mc) := (by rw [cell_of_row _ _ 1 _ 38 _ HY2.out]; rfl)
      have d2 : wc.cell? ⟨B2, 2, none⟩ = some (.slice ja jn jc) := (by rw [cell_of_row _ _ 2 _ 38 _ HY2.out]; rfl)
      have d3 : wc.cell? ⟨B2, 3, none⟩ = some (.bool eq) := (by rw [cell_of_row _ _ 3 _ 38 _ HY2.out]; rfl)
      have HL1 : Hid (B1 < wc.heap.size) := Lib.hid (Array.getElem?_eq_some_iff.1 HY1.out).1
      have HL2 : Hid (B2 < wc.heap.size) := Lib.hid (Array.getElem?_eq_some_iff.1 HY2.out).1
      go_wp2
      go_ret
      exact ⟨rfl, HBZ.out⟩
set_option maxRecDepth 20000 in
set_option maxHeartbeats 4000000 in
theorem may_diff (w : World) (la lb : Option Addr) (ln lc lm ld : Nat) (A B : List Hd) (hA : HeadsIn w la ln A) (hB : HeadsIn w lb lm B) (hln : (ln : Int) ≤ 100000) (hlm : (lm : Int) ≤ 100000) (Gu cu Gd cd : Nat) (Ru Cu Rd Cd : Nat → Nat) (U D : Nat → Nat → Bool) (hU : TabR w Gu ln lm Ru Cu U) (hD : TabR w Gd lm ln Rd Cd D) (i j : Nat) (hd : Int) (na : Option Addr) (nn nc : Nat) (NS : List ByteArray) (ka : Option Addr) (kn kc : Nat) (KS : List Int) (op : Bool) (hi : A[i]? = some ⟨hd, na, nn, nc, NS, ka, kn, kc, KS, op⟩) (ed : Int) (ma : Option Addr) (mn mc : Nat) (MS : List ByteArray) (ja : Option Addr) (jn jc : Nat) (JS : List Int) (eq : Bool) (hj : B[j]? = some ⟨ed, ma, mn, mc, MS, ja, jn, jc, JS, eq⟩) (h6 : hd ≠ 6) (h5 : ed ≠ 5) (hne : hd ≠ ed) :
    Calls Tryz.prog 63 #[.slice la ln lc, .slice lb lm ld, .slice (some ⟨Gu, 0, none⟩) ln cu, .slice (some ⟨Gd, 0, none⟩) lm cd, .int .i64 (i : Int), .int .i64 (j : Int)] w (BoolPost w false) := by
  have e6 : (hd == 6) = false := by simpa using h6
  have e5 : (ed == 5) = false := by simpa using h5
  have en : (hd != ed) = true := by simpa using hne
  have en' : (hd == ed) = false := by simpa using hne
  clear h6 h5 hne
  have HAA := Lib.hid hA
  have HBB := Lib.hid hB
  have hil : i < ln := by rw [hA.1]; exact (List.getElem?_eq_some_iff.1 hi).1
  have hil2 : (i : Int) < ln := by omega
  have hjl : j < lm := by rw [hB.1]; exact (List.getElem?_eq_some_iff.1 hj).1
  have hjl2 : (j : Int) < lm := by omega
  have HUU := Lib.hid hU
  have HDD := Lib.hid hD
  obtain ⟨ga, oa, rfl, hga, hca⟩ := hA.2.resolve_left (by omega)
  obtain ⟨gb, ob, rfl, hgb, hcb⟩ := hB.2.resolve_left (by omega)
  have r1 := hca i _ hi
  have r2 := hcb j _ hj
  have HO1 := Lib.hid r1.ok
  have HO2 := Lib.hid r2.ok
  have h0 : w.cell? ⟨ga, oa + i * 4, none⟩ = some (.int .i64 hd) := r1.c0
  have h1 : w.cell? ⟨ga, oa + i * 4 + 1, none⟩ = some (.slice na nn nc) := r1.c1
  have h2 : w.cell? ⟨ga, oa + i * 4 + 2, none⟩ = some (.slice ka kn kc) := r1.c2
  have h3 : w.cell? ⟨ga, oa + i * 4 + 3, none⟩ = some (.bool op) := r1.c3
  have k0 : w.cell? ⟨gb, ob + j * 4, none⟩ = some (.int .i64 ed) := r2.c0
  have k1 : w.cell? ⟨gb, ob + j * 4 + 1, none⟩ = some (.slice ma mn mc) := r2.c1
  have k2 : w.cell? ⟨gb, ob + j * 4 + 2, none⟩ = some (.slice ja jn jc) := r2.c2
  have k3 : w.cell? ⟨gb, ob + j * 4 + 3, none⟩ = some (.bool eq) := r2.c3
  have HLA := Lib.hid hA.1
  have HLB := Lib.hid hB.1
  have HII := Lib.hid hi
  have HJJ := Lib.hid hj
  have HW1 : Hid (∀ a b, (w.alloc (.cells a 38)).heap[w.heap.size]? = some (.cells a 38 (0, 0)) ∧ ((w.alloc (.cells a 38)).alloc (.cells b 38)).heap[w.heap.size]? = some (.cells a 38 (0, 0)) ∧ ((w.alloc (.cells a 38)).alloc (.cells b 38)).heap[w.heap.size + 1]? = some (.cells b 38 (0, 0)) ∧ Below w.heap.size w ((w.alloc (.cells a 38)).alloc (.cells b 38))) := Lib.hid (fun a b => ⟨heap_alloc_new w _, by rw [Below.heap_alloc _ _ _ (by simp)]; exact heap_alloc_new w _, by have := heap_alloc_new (w.alloc (.cells a 38)) (.cells b 38); simpa using this, ((Below.refl _ _).alloc (Nat.le_refl _) _).alloc (by simp) _⟩)
  clear hA hB hU hD hca hcb r1 r2 hi hj
  go_enter Tryz.func63, Tryz.ntmps63
  go_upto_region 1 with (fail)
  go_cut [13, 14] from 23 (fun s13 s14 wc => ∃ B1 B2 : Nat, s13 = .pointer (some ⟨B1, 0, none⟩) ∧ s14 = .pointer (some ⟨B2, 0, none⟩) ∧ Hid (wc.heap[B1]? = some (.cells #[.int .i64 hd, .slice na nn nc, .slice ka kn kc, .bool op] 38 (0, 0))) ∧ Hid (wc.heap[B2]? = some (.cells #[.int .i64 ed, .slice ma mn mc, .slice ja jn jc, .bool eq] 38 (0, 0))) ∧ Hid (Below w.heap.size w wc))
  case first =>
    go_region
    all_goals
      go_wp2
      go_meet
      case rel => first | exact ⟨w.heap.size, w.heap.size + 1, rfl, rfl, Lib.hid (HW1.out _ _).2.1, Lib.hid (HW1.out _ _).2.2.1, Lib.hid (HW1.out _ _).2.2.2.drew⟩ | exact ⟨w.heap.size + 1, w.heap.size, rfl, rfl, Lib.hid (HW1.out _ _).2.2.1, Lib.hid (HW1.out _ _).2.1, Lib.hid (HW1.out _ _).2.2.2.drew⟩
  obtain ⟨B1, B2, rfl, rfl, HY1, HY2, HBZ⟩ := hcut
  clear h0 h1 h2 h3 k0 k1 k2 k3 hga hgb
  have b0 : wc.cell? ⟨B1, 0, none⟩ = some (.int .i64 hd) := (by rw [cell_of_row _ _ 0 _ 38 _ HY1.out]; rfl)
  have b1 : wc.cell? ⟨B1, 1, none⟩ = some (.slice na nn nc) := (by rw [cell_of_row _ _ 1 _ 38 _ HY1.out]; rfl)
  have b2 : wc.cell? ⟨B1, 2, none⟩ = some (.slice ka kn kc) := (by rw [cell_of_row _ _ 2 _ 38 _ HY1.out]; rfl)
  have b3 : wc.cell? ⟨B1, 3, none⟩ = some (.bool op) := (by rw [cell_of_row _ _ 3 _ 38 _ HY1.out]; rfl)
  have d0 : wc.cell? ⟨B2, 0, none⟩ = some (.int .i64 ed) := (by rw [cell_of_row _ _ 0 _ 38 _ HY2.out]; rfl)
  have d1 : wc.cell? ⟨B2, 1, none⟩ = some (.slice ma mn mc) := (by rw [cell_of_row _ _ 1 _ 38 _ HY2.out]; rfl)
  have d2 : wc.cell? ⟨B2, 2, none⟩ = some (.slice ja jn jc) := (by rw [cell_of_row _ _ 2 _ 38 _ HY2.out]; rfl)
  have d3 : wc.cell? ⟨B2, 3, none⟩ = some (.bool eq) := (by rw [cell_of_row _ _ 3 _ 38 _ HY2.out]; rfl)
  have HL1 : Hid (B1 < wc.heap.size) := Lib.hid (Array.getElem?_eq_some_iff.1 HY1.out).1
  have HL2 : Hid (B2 < wc.heap.size) := Lib.hid (Array.getElem?_eq_some_iff.1 HY2.out).1
  go_wp2
  go_ret
  exact ⟨rfl, HBZ.out⟩
set_option maxRecDepth 20000 in
set_option maxHeartbeats 4000000 in
theorem may_plain (w : World) (la lb : Option Addr) (ln lc lm ld : Nat) (A B : List Hd) (hA : HeadsIn w la ln A) (hB : HeadsIn w lb lm B) (hln : (ln : Int) ≤ 100000) (hlm : (lm : Int) ≤ 100000) (Gu cu Gd cd : Nat) (Ru Cu Rd Cd : Nat → Nat) (U D : Nat → Nat → Bool) (hU : TabR w Gu ln lm Ru Cu U) (hD : TabR w Gd lm ln Rd Cd D) (i j : Nat) (hd : Int) (na : Option Addr) (nn nc : Nat) (NS : List ByteArray) (ka : Option Addr) (kn kc : Nat) (KS : List Int) (op : Bool) (hi : A[i]? = some ⟨hd, na, nn, nc, NS, ka, kn, kc, KS, op⟩) (ed : Int) (ma : Option Addr) (mn mc : Nat) (MS : List ByteArray) (ja : Option Addr) (jn jc : Nat) (JS : List Int) (eq : Bool) (hj : B[j]? = some ⟨ed, ma, mn, mc, MS, ja, jn, jc, JS, eq⟩) (hne : hd = ed) (hk : hd = 0 ∨ hd = 1 ∨ hd = 2 ∨ hd = 3 ∨ hd = 4) :
    Calls Tryz.prog 63 #[.slice la ln lc, .slice lb lm ld, .slice (some ⟨Gu, 0, none⟩) ln cu, .slice (some ⟨Gd, 0, none⟩) lm cd, .int .i64 (i : Int), .int .i64 (j : Int)] w (BoolPost w true) := by
  subst hne
  rcases hk with rfl | rfl | rfl | rfl | rfl
  · have HAA := Lib.hid hA
    have HBB := Lib.hid hB
    have hil : i < ln := by rw [hA.1]; exact (List.getElem?_eq_some_iff.1 hi).1
    have hil2 : (i : Int) < ln := by omega
    have hjl : j < lm := by rw [hB.1]; exact (List.getElem?_eq_some_iff.1 hj).1
    have hjl2 : (j : Int) < lm := by omega
    have HUU := Lib.hid hU
    have HDD := Lib.hid hD
    obtain ⟨ga, oa, rfl, hga, hca⟩ := hA.2.resolve_left (by omega)
    obtain ⟨gb, ob, rfl, hgb, hcb⟩ := hB.2.resolve_left (by omega)
    have r1 := hca i _ hi
    have r2 := hcb j _ hj
    have HO1 := Lib.hid r1.ok
    have HO2 := Lib.hid r2.ok
    have h0 : w.cell? ⟨ga, oa + i * 4, none⟩ = some (.int .i64 0) := r1.c0
    have h1 : w.cell? ⟨ga, oa + i * 4 + 1, none⟩ = some (.slice na nn nc) := r1.c1
    have h2 : w.cell? ⟨ga, oa + i * 4 + 2, none⟩ = some (.slice ka kn kc) := r1.c2
    have h3 : w.cell? ⟨ga, oa + i * 4 + 3, none⟩ = some (.bool op) := r1.c3
    have k0 : w.cell? ⟨gb, ob + j * 4, none⟩ = some (.int .i64 0) := r2.c0
    have k1 : w.cell? ⟨gb, ob + j * 4 + 1, none⟩ = some (.slice ma mn mc) := r2.c1
    have k2 : w.cell? ⟨gb, ob + j * 4 + 2, none⟩ = some (.slice ja jn jc) := r2.c2
    have k3 : w.cell? ⟨gb, ob + j * 4 + 3, none⟩ = some (.bool eq) := r2.c3
    have HLA := Lib.hid hA.1
    have HLB := Lib.hid hB.1
    have HII := Lib.hid hi
    have HJJ := Lib.hid hj
    have HW1 : Hid (∀ a b, (w.alloc (.cells a 38)).heap[w.heap.size]? = some (.cells a 38 (0, 0)) ∧ ((w.alloc (.cells a 38)).alloc (.cells b 38)).heap[w.heap.size]? = some (.cells a 38 (0, 0)) ∧ ((w.alloc (.cells a 38)).alloc (.cells b 38)).heap[w.heap.size + 1]? = some (.cells b 38 (0, 0)) ∧ Below w.heap.size w ((w.alloc (.cells a 38)).alloc (.cells b 38))) := Lib.hid (fun a b => ⟨heap_alloc_new w _, by rw [Below.heap_alloc _ _ _ (by simp)]; exact heap_alloc_new w _, by have := heap_alloc_new (w.alloc (.cells a 38)) (.cells b 38); simpa using this, ((Below.refl _ _).alloc (Nat.le_refl _) _).alloc (by simp) _⟩)
    clear hA hB hU hD hca hcb r1 r2 hi hj
    go_enter Tryz.func63, Tryz.ntmps63
    go_upto_region 1 with (fail)
    go_cut [13, 14] from 23 (fun s13 s14 wc => ∃ B1 B2 : Nat, s13 = .pointer (some ⟨B1, 0, none⟩) ∧ s14 = .pointer (some ⟨B2, 0, none⟩) ∧ Hid (wc.heap[B1]? = some (.cells #[.int .i64 0, .slice na nn nc, .slice ka kn kc, .bool op] 38 (0, 0))) ∧ Hid (wc.heap[B2]? = some (.cells #[.int .i64 0, .slice ma mn mc, .slice ja jn jc, .bool eq] 38 (0, 0))) ∧ Hid (Below w.heap.size w wc))
    case first =>
      go_region
      all_goals
        go_wp2
        go_meet
        case rel => first | exact ⟨w.heap.size, w.heap.size + 1, rfl, rfl, Lib.hid (HW1.out _ _).2.1, Lib.hid (HW1.out _ _).2.2.1, Lib.hid (HW1.out _ _).2.2.2.drew⟩ | exact ⟨w.heap.size + 1, w.heap.size, rfl, rfl, Lib.hid (HW1.out _ _).2.2.1, Lib.hid (HW1.out _ _).2.1, Lib.hid (HW1.out _ _).2.2.2.drew⟩
    obtain ⟨B1, B2, rfl, rfl, HY1, HY2, HBZ⟩ := hcut
    clear h0 h1 h2 h3 k0 k1 k2 k3 hga hgb
    have b0 : wc.cell? ⟨B1, 0, none⟩ = some (.int .i64 0) := (by rw [cell_of_row _ _ 0 _ 38 _ HY1.out]; rfl)
    have b1 : wc.cell? ⟨B1, 1, none⟩ = some (.slice na nn nc) := (by rw [cell_of_row _ _ 1 _ 38 _ HY1.out]; rfl)
    have b2 : wc.cell? ⟨B1, 2, none⟩ = some (.slice ka kn kc) := (by rw [cell_of_row _ _ 2 _ 38 _ HY1.out]; rfl)
    have b3 : wc.cell? ⟨B1, 3, none⟩ = some (.bool op) := (by rw [cell_of_row _ _ 3 _ 38 _ HY1.out]; rfl)
    have d0 : wc.cell? ⟨B2, 0, none⟩ = some (.int .i64 0) := (by rw [cell_of_row _ _ 0 _ 38 _ HY2.out]; rfl)
    have d1 : wc.cell? ⟨B2, 1, none⟩ = some (.slice ma mn mc) := (by rw [cell_of_row _ _ 1 _ 38 _ HY2.out]; rfl)
    have d2 : wc.cell? ⟨B2, 2, none⟩ = some (.slice ja jn jc) := (by rw [cell_of_row _ _ 2 _ 38 _ HY2.out]; rfl)
    have d3 : wc.cell? ⟨B2, 3, none⟩ = some (.bool eq) := (by rw [cell_of_row _ _ 3 _ 38 _ HY2.out]; rfl)
    have HL1 : Hid (B1 < wc.heap.size) := Lib.hid (Array.getElem?_eq_some_iff.1 HY1.out).1
    have HL2 : Hid (B2 < wc.heap.size) := Lib.hid (Array.getElem?_eq_some_iff.1 HY2.out).1
    go_wp2
    go_ret
    exact ⟨rfl, HBZ.out⟩
  · have HAA := Lib.hid hA
    have HBB := Lib.hid hB
    have hil : i < ln := by rw [hA.1]; exact (List.getElem?_eq_some_iff.1 hi).1
    have hil2 : (i : Int) < ln := by omega
    have hjl : j < lm := by rw [hB.1]; exact (List.getElem?_eq_some_iff.1 hj).1
    have hjl2 : (j : Int) < lm := by omega
    have HUU := Lib.hid hU
    have HDD := Lib.hid hD
    obtain ⟨ga, oa, rfl, hga, hca⟩ := hA.2.resolve_left (by omega)
    obtain ⟨gb, ob, rfl, hgb, hcb⟩ := hB.2.resolve_left (by omega)
    have r1 := hca i _ hi
    have r2 := hcb j _ hj
    have HO1 := Lib.hid r1.ok
    have HO2 := Lib.hid r2.ok
    have h0 : w.cell? ⟨ga, oa + i * 4, none⟩ = some (.int .i64 1) := r1.c0
    have h1 : w.cell? ⟨ga, oa + i * 4 + 1, none⟩ = some (.slice na nn nc) := r1.c1
    have h2 : w.cell? ⟨ga, oa + i * 4 + 2, none⟩ = some (.slice ka kn kc) := r1.c2
    have h3 : w.cell? ⟨ga, oa + i * 4 + 3, none⟩ = some (.bool op) := r1.c3
    have k0 : w.cell? ⟨gb, ob + j * 4, none⟩ = some (.int .i64 1) := r2.c0
    have k1 : w.cell? ⟨gb, ob + j * 4 + 1, none⟩ = some (.slice ma mn mc) := r2.c1
    have k2 : w.cell? ⟨gb, ob + j * 4 + 2, none⟩ = some (.slice ja jn jc) := r2.c2
    have k3 : w.cell? ⟨gb, ob + j * 4 + 3, none⟩ = some (.bool eq) := r2.c3
    have HLA := Lib.hid hA.1
    have HLB := Lib.hid hB.1
    have HII := Lib.hid hi
    have HJJ := Lib.hid hj
    have HW1 : Hid (∀ a b, (w.alloc (.cells a 38)).heap[w.heap.size]? = some (.cells a 38 (0, 0)) ∧ ((w.alloc (.cells a 38)).alloc (.cells b 38)).heap[w.heap.size]? = some (.cells a 38 (0, 0)) ∧ ((w.alloc (.cells a 38)).alloc (.cells b 38)).heap[w.heap.size + 1]? = some (.cells b 38 (0, 0)) ∧ Below w.heap.size w ((w.alloc (.cells a 38)).alloc (.cells b 38))) := Lib.hid (fun a b => ⟨heap_alloc_new w _, by rw [Below.heap_alloc _ _ _ (by simp)]; exact heap_alloc_new w _, by have := heap_alloc_new (w.alloc (.cells a 38)) (.cells b 38); simpa using this, ((Below.refl _ _).alloc (Nat.le_refl _) _).alloc (by simp) _⟩)
    clear hA hB hU hD hca hcb r1 r2 hi hj
    go_enter Tryz.func63, Tryz.ntmps63
    go_upto_region 1 with (fail)
    go_cut [13, 14] from 23 (fun s13 s14 wc => ∃ B1 B2 : Nat, s13 = .pointer (some ⟨B1, 0, none⟩) ∧ s14 = .pointer (some ⟨B2, 0, none⟩) ∧ Hid (wc.heap[B1]? = some (.cells #[.int .i64 1, .slice na nn nc, .slice ka kn kc, .bool op] 38 (0, 0))) ∧ Hid (wc.heap[B2]? = some (.cells #[.int .i64 1, .slice ma mn mc, .slice ja jn jc, .bool eq] 38 (0, 0))) ∧ Hid (Below w.heap.size w wc))
    case first =>
      go_region
      all_goals
        go_wp2
        go_meet
        case rel => first | exact ⟨w.heap.size, w.heap.size + 1, rfl, rfl, Lib.hid (HW1.out _ _).2.1, Lib.hid (HW1.out _ _).2.2.1, Lib.hid (HW1.out _ _).2.2.2.drew⟩ | exact ⟨w.heap.size + 1, w.heap.size, rfl, rfl, Lib.hid (HW1.out _ _).2.2.1, Lib.hid (HW1.out _ _).2.1, Lib.hid (HW1.out _ _).2.2.2.drew⟩
    obtain ⟨B1, B2, rfl, rfl, HY1, HY2, HBZ⟩ := hcut
    clear h0 h1 h2 h3 k0 k1 k2 k3 hga hgb
    have b0 : wc.cell? ⟨B1, 0, none⟩ = some (.int .i64 1) := (by rw [cell_of_row _ _ 0 _ 38 _ HY1.out]; rfl)
    have b1 : wc.cell? ⟨B1, 1, none⟩ = some (.slice na nn nc) := (by rw [cell_of_row _ _ 1 _ 38 _ HY1.out]; rfl)
    have b2 : wc.cell? ⟨B1, 2, none⟩ = some (.slice ka kn kc) := (by rw [cell_of_row _ _ 2 _ 38 _ HY1.out]; rfl)
    have b3 : wc.cell? ⟨B1, 3, none⟩ = some (.bool op) := (by rw [cell_of_row _ _ 3 _ 38 _ HY1.out]; rfl)
    have d0 : wc.cell? ⟨B2, 0, none⟩ = some (.int .i64 1) := (by rw [cell_of_row _ _ 0 _ 38 _ HY2.out]; rfl)
    have d1 : wc.cell? ⟨B2, 1, none⟩ = some (.slice ma mn mc) := (by rw [cell_of_row _ _ 1 _ 38 _ HY2.out]; rfl)
    have d2 : wc.cell? ⟨B2, 2, none⟩ = some (.slice ja jn jc) := (by rw [cell_of_row _ _ 2 _ 38 _ HY2.out]; rfl)
    have d3 : wc.cell? ⟨B2, 3, none⟩ = some (.bool eq) := (by rw [cell_of_row _ _ 3 _ 38 _ HY2.out]; rfl)
    have HL1 : Hid (B1 < wc.heap.size) := Lib.hid (Array.getElem?_eq_some_iff.1 HY1.out).1
    have HL2 : Hid (B2 < wc.heap.size) := Lib.hid (Array.getElem?_eq_some_iff.1 HY2.out).1
    go_wp2
    go_ret
    exact ⟨rfl, HBZ.out⟩
  · have HAA := Lib.hid hA
    have HBB := Lib.hid hB
    have hil : i < ln := by rw [hA.1]; exact (List.getElem?_eq_some_iff.1 hi).1
    have hil2 : (i : Int) < ln := by omega
    have hjl : j < lm := by rw [hB.1]; exact (List.getElem?_eq_some_iff.1 hj).1
    have hjl2 : (j : Int) < lm := by omega
    have HUU := Lib.hid hU
    have HDD := Lib.hid hD
    obtain ⟨ga, oa, rfl, hga, hca⟩ := hA.2.resolve_left (by omega)
    obtain ⟨gb, ob, rfl, hgb, hcb⟩ := hB.2.resolve_left (by omega)
    have r1 := hca i _ hi
    have r2 := hcb j _ hj
    have HO1 := Lib.hid r1.ok
    have HO2 := Lib.hid r2.ok
    have h0 : w.cell? ⟨ga, oa + i * 4, none⟩ = some (.int .i64 2) := r1.c0
    have h1 : w.cell? ⟨ga, oa + i * 4 + 1, none⟩ = some (.slice na nn nc) := r1.c1
    have h2 : w.cell? ⟨ga, oa + i * 4 + 2, none⟩ = some (.slice ka kn kc) := r1.c2
    have h3 : w.cell? ⟨ga, oa + i * 4 + 3, none⟩ = some (.bool op) := r1.c3
    have k0 : w.cell? ⟨gb, ob + j * 4, none⟩ = some (.int .i64 2) := r2.c0
    have k1 : w.cell? ⟨gb, ob + j * 4 + 1, none⟩ = some (.slice ma mn mc) := r2.c1
    have k2 : w.cell? ⟨gb, ob + j * 4 + 2, none⟩ = some (.slice ja jn jc) := r2.c2
    have k3 : w.cell? ⟨gb, ob + j * 4 + 3, none⟩ = some (.bool eq) := r2.c3
    have HLA := Lib.hid hA.1
    have HLB := Lib.hid hB.1
    have HII := Lib.hid hi
    have HJJ := Lib.hid hj
    have HW1 : Hid (∀ a b, (w.alloc (.cells a 38)).heap[w.heap.size]? = some (.cells a 38 (0, 0)) ∧ ((w.alloc (.cells a 38)).alloc (.cells b 38)).heap[w.heap.size]? = some (.cells a 38 (0, 0)) ∧ ((w.alloc (.cells a 38)).alloc (.cells b 38)).heap[w.heap.size + 1]? = some (.cells b 38 (0, 0)) ∧ Below w.heap.size w ((w.alloc (.cells a 38)).alloc (.cells b 38))) := Lib.hid (fun a b => ⟨heap_alloc_new w _, by rw [Below.heap_alloc _ _ _ (by simp)]; exact heap_alloc_new w _, by have := heap_alloc_new (w.alloc (.cells a 38)) (.cells b 38); simpa using this, ((Below.refl _ _).alloc (Nat.le_refl _) _).alloc (by simp) _⟩)
    clear hA hB hU hD hca hcb r1 r2 hi hj
    go_enter Tryz.func63, Tryz.ntmps63
    go_upto_region 1 with (fail)
    go_cut [13, 14] from 23 (fun s13 s14 wc => ∃ B1 B2 : Nat, s13 = .pointer (some ⟨B1, 0, none⟩) ∧ s14 = .pointer (some ⟨B2, 0, none⟩) ∧ Hid (wc.heap[B1]? = some (.cells #[.int .i64 2, .slice na nn nc, .slice ka kn kc, .bool op] 38 (0, 0))) ∧ Hid (wc.heap[B2]? = some (.cells #[.int .i64 2, .slice ma mn mc, .slice ja jn jc, .bool eq] 38 (0, 0))) ∧ Hid (Below w.heap.size w wc))
    case first =>
      go_region
      all_goals
        go_wp2
        go_meet
        case rel => first | exact ⟨w.heap.size, w.heap.size + 1, rfl, rfl, Lib.hid (HW1.out _ _).2.1, Lib.hid (HW1.out _ _).2.2.1, Lib.hid (HW1.out _ _).2.2.2.drew⟩ | exact ⟨w.heap.size + 1, w.heap.size, rfl, rfl, Lib.hid (HW1.out _ _).2.2.1, Lib.hid (HW1.out _ _).2.1, Lib.hid (HW1.out _ _).2.2.2.drew⟩
    obtain ⟨B1, B2, rfl, rfl, HY1, HY2, HBZ⟩ := hcut
    clear h0 h1 h2 h3 k0 k1 k2 k3 hga hgb
    have b0 : wc.cell? ⟨B1, 0, none⟩ = some (.int .i64 2) := (by rw [cell_of_row _ _ 0 _ 38 _ HY1.out]; rfl)
    have b1 : wc.cell? ⟨B1, 1, none⟩ = some (.slice na nn nc) := (by rw [cell_of_row _ _ 1 _ 38 _ HY1.out]; rfl)
    have b2 : wc.cell? ⟨B1, 2, none⟩ = some (.slice ka kn kc) := (by rw [cell_of_row _ _ 2 _ 38 _ HY1.out]; rfl)
    have b3 : wc.cell? ⟨B1, 3, none⟩ = some (.bool op) := (by rw [cell_of_row _ _ 3 _ 38 _ HY1.out]; rfl)
    have d0 : wc.cell? ⟨B2, 0, none⟩ = some (.int .i64 2) := (by rw [cell_of_row _ _ 0 _ 38 _ HY2.out]; rfl)
    have d1 : wc.cell? ⟨B2, 1, none⟩ = some (.slice ma mn mc) := (by rw [cell_of_row _ _ 1 _ 38 _ HY2.out]; rfl)
    have d2 : wc.cell? ⟨B2, 2, none⟩ = some (.slice ja jn jc) := (by rw [cell_of_row _ _ 2 _ 38 _ HY2.out]; rfl)
    have d3 : wc.cell? ⟨B2, 3, none⟩ = some (.bool eq) := (by rw [cell_of_row _ _ 3 _ 38 _ HY2.out]; rfl)
    have HL1 : Hid (B1 < wc.heap.size) := Lib.hid (Array.getElem?_eq_some_iff.1 HY1.out).1
    have HL2 : Hid (B2 < wc.heap.size) := Lib.hid (Array.getElem?_eq_some_iff.1 HY2.out).1
    go_wp2
    go_ret
    exact ⟨rfl, HBZ.out⟩
  · have HAA := Lib.hid hA
    have HBB := Lib.hid hB
    have hil : i < ln := by rw [hA.1]; exact (List.getElem?_eq_some_iff.1 hi).1
    have hil2 : (i : Int) < ln := by omega
    have hjl : j < lm := by rw [hB.1]; exact (List.getElem?_eq_some_iff.1 hj).1
    have hjl2 : (j : Int) < lm := by omega
    have HUU := Lib.hid hU
    have HDD := Lib.hid hD
    obtain ⟨ga, oa, rfl, hga, hca⟩ := hA.2.resolve_left (by omega)
    obtain ⟨gb, ob, rfl, hgb, hcb⟩ := hB.2.resolve_left (by omega)
    have r1 := hca i _ hi
    have r2 := hcb j _ hj
    have HO1 := Lib.hid r1.ok
    have HO2 := Lib.hid r2.ok
    have h0 : w.cell? ⟨ga, oa + i * 4, none⟩ = some (.int .i64 3) := r1.c0
    have h1 : w.cell? ⟨ga, oa + i * 4 + 1, none⟩ = some (.slice na nn nc) := r1.c1
    have h2 : w.cell? ⟨ga, oa + i * 4 + 2, none⟩ = some (.slice ka kn kc) := r1.c2
    have h3 : w.cell? ⟨ga, oa + i * 4 + 3, none⟩ = some (.bool op) := r1.c3
    have k0 : w.cell? ⟨gb, ob + j * 4, none⟩ = some (.int .i64 3) := r2.c0
    have k1 : w.cell? ⟨gb, ob + j * 4 + 1, none⟩ = some (.slice ma mn mc) := r2.c1
    have k2 : w.cell? ⟨gb, ob + j * 4 + 2, none⟩ = some (.slice ja jn jc) := r2.c2
    have k3 : w.cell? ⟨gb, ob + j * 4 + 3, none⟩ = some (.bool eq) := r2.c3
    have HLA := Lib.hid hA.1
    have HLB := Lib.hid hB.1
    have HII := Lib.hid hi
    have HJJ := Lib.hid hj
    have HW1 : Hid (∀ a b, (w.alloc (.cells a 38)).heap[w.heap.size]? = some (.cells a 38 (0, 0)) ∧ ((w.alloc (.cells a 38)).alloc (.cells b 38)).heap[w.heap.size]? = some (.cells a 38 (0, 0)) ∧ ((w.alloc (.cells a 38)).alloc (.cells b 38)).heap[w.heap.size + 1]? = some (.cells b 38 (0, 0)) ∧ Below w.heap.size w ((w.alloc (.cells a 38)).alloc (.cells b 38))) := Lib.hid (fun a b => ⟨heap_alloc_new w _, by rw [Below.heap_alloc _ _ _ (by simp)]; exact heap_alloc_new w _, by have := heap_alloc_new (w.alloc (.cells a 38)) (.cells b 38); simpa using this, ((Below.refl _ _).alloc (Nat.le_refl _) _).alloc (by simp) _⟩)
    clear hA hB hU hD hca hcb r1 r2 hi hj
    go_enter Tryz.func63, Tryz.ntmps63
    go_upto_region 1 with (fail)
    go_cut [13, 14] from 23 (fun s13 s14 wc => ∃ B1 B2 : Nat, s13 = .pointer (some ⟨B1, 0, none⟩) ∧ s14 = .pointer (some ⟨B2, 0, none⟩) ∧ Hid (wc.heap[B1]? = some (.cells #[.int .i64 3, .slice na nn nc, .slice ka kn kc, .bool op] 38 (0, 0))) ∧ Hid (wc.heap[B2]? = some (.cells #[.int .i64 3, .slice ma mn mc, .slice ja jn jc, .bool eq] 38 (0, 0))) ∧ Hid (Below w.heap.size w wc))
    case first =>
      go_region
      all_goals
        go_wp2
        go_meet
        case rel => first | exact ⟨w.heap.size, w.heap.size + 1, rfl, rfl, Lib.hid (HW1.out _ _).2.1, Lib.hid (HW1.out _ _).2.2.1, Lib.hid (HW1.out _ _).2.2.2.drew⟩ | exact ⟨w.heap.size + 1, w.heap.size, rfl, rfl, Lib.hid (HW1.out _ _).2.2.1, Lib.hid (HW1.out _ _).2.1, Lib.hid (HW1.out _ _).2.2.2.drew⟩
    obtain ⟨B1, B2, rfl, rfl, HY1, HY2, HBZ⟩ := hcut
    clear h0 h1 h2 h3 k0 k1 k2 k3 hga hgb
    have b0 : wc.cell? ⟨B1, 0, none⟩ = some (.int .i64 3) := (by rw [cell_of_row _ _ 0 _ 38 _ HY1.out]; rfl)
    have b1 : wc.cell? ⟨B1, 1, none⟩ = some (.slice na nn nc) := (by rw [cell_of_row _ _ 1 _ 38 _ HY1.out]; rfl)
    have b2 : wc.cell? ⟨B1, 2, none⟩ = some (.slice ka kn kc) := (by rw [cell_of_row _ _ 2 _ 38 _ HY1.out]; rfl)
    have b3 : wc.cell? ⟨B1, 3, none⟩ = some (.bool op) := (by rw [cell_of_row _ _ 3 _ 38 _ HY1.out]; rfl)
    have d0 : wc.cell? ⟨B2, 0, none⟩ = some (.int .i64 3) := (by rw [cell_of_row _ _ 0 _ 38 _ HY2.out]; rfl)
    have d1 : wc.cell? ⟨B2, 1, none⟩ = some (.slice ma mn mc) := (by rw [cell_of_row _ _ 1 _ 38 _ HY2.out]; rfl)
    have d2 : wc.cell? ⟨B2, 2, none⟩ = some (.slice ja jn jc) := (by rw [cell_of_row _ _ 2 _ 38 _ HY2.out]; rfl)
    have d3 : wc.cell? ⟨B2, 3, none⟩ = some (.bool eq) := (by rw [cell_of_row _ _ 3 _ 38 _ HY2.out]; rfl)
    have HL1 : Hid (B1 < wc.heap.size) := Lib.hid (Array.getElem?_eq_some_iff.1 HY1.out).1
    have HL2 : Hid (B2 < wc.heap.size) := Lib.hid (Array.getElem?_eq_some_iff.1 HY2.out).1
    go_wp2
    go_ret
    exact ⟨rfl, HBZ.out⟩
  · have HAA := Lib.hid hA
    have HBB := Lib.hid hB
    have hil : i < ln := by rw [hA.1]; exact (List.getElem?_eq_some_iff.1 hi).1
    have hil2 : (i : Int) < ln := by omega
    have hjl : j < lm := by rw [hB.1]; exact (List.getElem?_eq_some_iff.1 hj).1
    have hjl2 : (j : Int) < lm := by omega
    have HUU := Lib.hid hU
    have HDD := Lib.hid hD
    obtain ⟨ga, oa, rfl, hga, hca⟩ := hA.2.resolve_left (by omega)
    obtain ⟨gb, ob, rfl, hgb, hcb⟩ := hB.2.resolve_left (by omega)
    have r1 := hca i _ hi
    have r2 := hcb j _ hj
    have HO1 := Lib.hid r1.ok
    have HO2 := Lib.hid r2.ok
    have h0 : w.cell? ⟨ga, oa + i * 4, none⟩ = some (.int .i64 4) := r1.c0
    have h1 : w.cell? ⟨ga, oa + i * 4 + 1, none⟩ = some (.slice na nn nc) := r1.c1
    have h2 : w.cell? ⟨ga, oa + i * 4 + 2, none⟩ = some (.slice ka kn kc) := r1.c2
    have h3 : w.cell? ⟨ga, oa + i * 4 + 3, none⟩ = some (.bool op) := r1.c3
    have k0 : w.cell? ⟨gb, ob + j * 4, none⟩ = some (.int .i64 4) := r2.c0
    have k1 : w.cell? ⟨gb, ob + j * 4 + 1, none⟩ = some (.slice ma mn mc) := r2.c1
    have k2 : w.cell? ⟨gb, ob + j * 4 + 2, none⟩ = some (.slice ja jn jc) := r2.c2
    have k3 : w.cell? ⟨gb, ob + j * 4 + 3, none⟩ = some (.bool eq) := r2.c3
    have HLA := Lib.hid hA.1
    have HLB := Lib.hid hB.1
    have HII := Lib.hid hi
    have HJJ := Lib.hid hj
    have HW1 : Hid (∀ a b, (w.alloc (.cells a 38)).heap[w.heap.size]? = some (.cells a 38 (0, 0)) ∧ ((w.alloc (.cells a 38)).alloc (.cells b 38)).heap[w.heap.size]? = some (.cells a 38 (0, 0)) ∧ ((w.alloc (.cells a 38)).alloc (.cells b 38)).heap[w.heap.size + 1]? = some (.cells b 38 (0, 0)) ∧ Below w.heap.size w ((w.alloc (.cells a 38)).alloc (.cells b 38))) := Lib.hid (fun a b => ⟨heap_alloc_new w _, by rw [Below.heap_alloc _ _ _ (by simp)]; exact heap_alloc_new w _, by have := heap_alloc_new (w.alloc (.cells a 38)) (.cells b 38); simpa using this, ((Below.refl _ _).alloc (Nat.le_refl _) _).alloc (by simp) _⟩)
    clear hA hB hU hD hca hcb r1 r2 hi hj
    go_enter Tryz.func63, Tryz.ntmps63
    go_upto_region 1 with (fail)
    go_cut [13, 14] from 23 (fun s13 s14 wc => ∃ B1 B2 : Nat, s13 = .pointer (some ⟨B1, 0, none⟩) ∧ s14 = .pointer (some ⟨B2, 0, none⟩) ∧ Hid (wc.heap[B1]? = some (.cells #[.int .i64 4, .slice na nn nc, .slice ka kn kc, .bool op] 38 (0, 0))) ∧ Hid (wc.heap[B2]? = some (.cells #[.int .i64 4, .slice ma mn mc, .slice ja jn jc, .bool eq] 38 (0, 0))) ∧ Hid (Below w.heap.size w wc))
    case first =>
      go_region
      all_goals
        go_wp2
        go_meet
        case rel => first | exact ⟨w.heap.size, w.heap.size + 1, rfl, rfl, Lib.hid (HW1.out _ _).2.1, Lib.hid (HW1.out _ _).2.2.1, Lib.hid (HW1.out _ _).2.2.2.drew⟩ | exact ⟨w.heap.size + 1, w.heap.size, rfl, rfl, Lib.hid (HW1.out _ _).2.2.1, Lib.hid (HW1.out _ _).2.1, Lib.hid (HW1.out _ _).2.2.2.drew⟩
    obtain ⟨B1, B2, rfl, rfl, HY1, HY2, HBZ⟩ := hcut
    clear h0 h1 h2 h3 k0 k1 k2 k3 hga hgb
    have b0 : wc.cell? ⟨B1, 0, none⟩ = some (.int .i64 4) := (by rw [cell_of_row _ _ 0 _ 38 _ HY1.out]; rfl)
    have b1 : wc.cell? ⟨B1, 1, none⟩ = some (.slice na nn nc) := (by rw [cell_of_row _ _ 1 _ 38 _ HY1.out]; rfl)
    have b2 : wc.cell? ⟨B1, 2, none⟩ = some (.slice ka kn kc) := (by rw [cell_of_row _ _ 2 _ 38 _ HY1.out]; rfl)
    have b3 : wc.cell? ⟨B1, 3, none⟩ = some (.bool op) := (by rw [cell_of_row _ _ 3 _ 38 _ HY1.out]; rfl)
    have d0 : wc.cell? ⟨B2, 0, none⟩ = some (.int .i64 4) := (by rw [cell_of_row _ _ 0 _ 38 _ HY2.out]; rfl)
    have d1 : wc.cell? ⟨B2, 1, none⟩ = some (.slice ma mn mc) := (by rw [cell_of_row _ _ 1 _ 38 _ HY2.out]; rfl)
    have d2 : wc.cell? ⟨B2, 2, none⟩ = some (.slice ja jn jc) := (by rw [cell_of_row _ _ 2 _ 38 _ HY2.out]; rfl)
    have d3 : wc.cell? ⟨B2, 3, none⟩ = some (.bool eq) := (by rw [cell_of_row _ _ 3 _ 38 _ HY2.out]; rfl)
    have HL1 : Hid (B1 < wc.heap.size) := Lib.hid (Array.getElem?_eq_some_iff.1 HY1.out).1
    have HL2 : Hid (B2 < wc.heap.size) := Lib.hid (Array.getElem?_eq_some_iff.1 HY2.out).1
    go_wp2
    go_ret
    exact ⟨rfl, HBZ.out⟩
set_option maxRecDepth 20000 in
set_option maxHeartbeats 4000000 in
theorem may_fun (w : World) (la lb : Option Addr) (ln lc lm ld : Nat) (A B : List Hd) (hA : HeadsIn w la ln A) (hB : HeadsIn w lb lm B) (hln : (ln : Int) ≤ 100000) (hlm : (lm : Int) ≤ 100000) (Gu cu Gd cd : Nat) (Ru Cu Rd Cd : Nat → Nat) (U D : Nat → Nat → Bool) (hU : TabR w Gu ln lm Ru Cu U) (hD : TabR w Gd lm ln Rd Cd D) (i j : Nat) (hd : Int) (na : Option Addr) (nn nc : Nat) (NS : List ByteArray) (ka : Option Addr) (kn kc : Nat) (KS : List Int) (op : Bool) (hi : A[i]? = some ⟨hd, na, nn, nc, NS, ka, kn, kc, KS, op⟩) (ed : Int) (ma : Option Addr) (mn mc : Nat) (MS : List ByteArray) (ja : Option Addr) (jn jc : Nat) (JS : List Int) (eq : Bool) (hj : B[j]? = some ⟨ed, ma, mn, mc, MS, ja, jn, jc, JS, eq⟩) (okA : OkHeads A) (okB : OkHeads B) (h7 : hd = 7) (e7 : ed = 7) :
    Calls Tryz.prog 63 #[.slice la ln lc, .slice lb lm ld, .slice (some ⟨Gu, 0, none⟩) ln cu, .slice (some ⟨Gd, 0, none⟩) lm cd, .int .i64 (i : Int), .int .i64 (j : Int)] w (BoolPost w (D (JS.getD 0 0).toNat (KS.getD 0 0).toNat && U (KS.getD 1 0).toNat (JS.getD 1 0).toNat)) := by
  subst h7 e7
  have q1 := head_kind (okA _ (List.mem_of_getElem? hi))
  have q2 := head_kind (okB _ (List.mem_of_getElem? hj))
  have n1 := (hA.ok hi).names.1
  have n2 := (hA.ok hi).kids.1
  have n3 := (hB.ok hj).names.1
  have n4 := (hB.ok hj).kids.1
  have nb1 := (hA.ok hi).nnb
  have nb2 := (hB.ok hj).nnb
  simp only at q1 q2 n1 n2 n3 n4 nb1 nb2
  have la1 := hA.1
  have lb1 := hB.1
  have l1 := (q1.2.2.2.2.1 (by first | rfl | trivial)).2
  have l2 := (q2.2.2.2.2.1 (by first | rfl | trivial)).2
  obtain ⟨x0, x1, rfl⟩ : ∃ x0 x1, KS = [x0, x1] := by
    match KS, l1 with
    | [a, b], _ => exact ⟨a, b, rfl⟩
  obtain ⟨y0, y1, rfl⟩ : ∃ y0 y1, JS = [y0, y1] := by
    match JS, l2 with
    | [a, b], _ => exact ⟨a, b, rfl⟩
  have rx0 := q1.2.2.1 x0 (by simp)
  have rx1 := q1.2.2.1 x1 (by simp)
  have ry0 := q2.2.2.1 y0 (by simp)
  have ry1 := q2.2.2.1 y1 (by simp)
  obtain ⟨a0, rfl⟩ : ∃ a : Nat, x0 = (a : Int) := ⟨x0.toNat, by omega⟩
  obtain ⟨a1, rfl⟩ : ∃ a : Nat, x1 = (a : Int) := ⟨x1.toNat, by omega⟩
  obtain ⟨c0, rfl⟩ : ∃ a : Nat, y0 = (a : Int) := ⟨y0.toNat, by omega⟩
  obtain ⟨c1, rfl⟩ : ∃ a : Nat, y1 = (a : Int) := ⟨y1.toNat, by omega⟩
  have ia0 : (a0 : Int) < ln := by omega
  have ia1 : (a1 : Int) < ln := by omega
  have ic0 : (c0 : Int) < lm := by omega
  have ic1 : (c1 : Int) < lm := by omega
  have hkn2 : (2 : Int) ≤ kn := by rw [n2]; simp
  have hjn2 : (2 : Int) ≤ jn := by rw [n4]; simp
  have hk0 : (0 : Int) < kn := by omega
  have hk1 : (1 : Int) < kn := by omega
  have hj0 : (0 : Int) < jn := by omega
  have hj1 : (1 : Int) < jn := by omega
  have hk0' : 0 < kn := by omega
  have hk1' : 1 < kn := by omega
  have hj0' : 0 < jn := by omega
  have hj1' : 1 < jn := by omega
  have HRES : Hid ((D (([(c0 : Int), (c1 : Int)] : List Int).getD 0 0).toNat (([(a0 : Int), (a1 : Int)] : List Int).getD 0 0).toNat && U (([(a0 : Int), (a1 : Int)] : List Int).getD 1 0).toNat (([(c0 : Int), (c1 : Int)] : List Int).getD 1 0).toNat) = (D c0 a0 && U a1 c1)) := Lib.hid rfl
  generalize (D (([(c0 : Int), (c1 : Int)] : List Int).getD 0 0).toNat (([(a0 : Int), (a1 : Int)] : List Int).getD 0 0).toNat && U (([(a0 : Int), (a1 : Int)] : List Int).getD 1 0).toNat (([(c0 : Int), (c1 : Int)] : List Int).getD 1 0).toNat) = RR at *
  clear q1 q2 n1 n2 n3 n4 nb1 nb2 la1 lb1 l1 l2 rx0 rx1 ry0 ry1 okA okB
  have HAA := Lib.hid hA
  have HBB := Lib.hid hB
  have hil : i < ln := by rw [hA.1]; exact (List.getElem?_eq_some_iff.1 hi).1
  have hil2 : (i : Int) < ln := by omega
  have hjl : j < lm := by rw [hB.1]; exact (List.getElem?_eq_some_iff.1 hj).1
  have hjl2 : (j : Int) < lm := by omega
  have HUU := Lib.hid hU
  have HDD := Lib.hid hD
  obtain ⟨ga, oa, rfl, hga, hca⟩ := hA.2.resolve_left (by omega)
  obtain ⟨gb, ob, rfl, hgb, hcb⟩ := hB.2.resolve_left (by omega)
  have r1 := hca i _ hi
  have r2 := hcb j _ hj
  have HO1 := Lib.hid r1.ok
  have HO2 := Lib.hid r2.ok
  have h0 : w.cell? ⟨ga, oa + i * 4, none⟩ = some (.int .i64 7) := r1.c0
  have h1 : w.cell? ⟨ga, oa + i * 4 + 1, none⟩ = some (.slice na nn nc) := r1.c1
  have h2 : w.cell? ⟨ga, oa + i * 4 + 2, none⟩ = some (.slice ka kn kc) := r1.c2
  have h3 : w.cell? ⟨ga, oa + i * 4 + 3, none⟩ = some (.bool op) := r1.c3
  have k0 : w.cell? ⟨gb, ob + j * 4, none⟩ = some (.int .i64 7) := r2.c0
  have k1 : w.cell? ⟨gb, ob + j * 4 + 1, none⟩ = some (.slice ma mn mc) := r2.c1
  have k2 : w.cell? ⟨gb, ob + j * 4 + 2, none⟩ = some (.slice ja jn jc) := r2.c2
  have k3 : w.cell? ⟨gb, ob + j * 4 + 3, none⟩ = some (.bool eq) := r2.c3
  have HLA := Lib.hid hA.1
  have HLB := Lib.hid hB.1
  have HII := Lib.hid hi
  have HJJ := Lib.hid hj
  have HW1 : Hid (∀ a b, (w.alloc (.cells a 38)).heap[w.heap.size]? = some (.cells a 38 (0, 0)) ∧ ((w.alloc (.cells a 38)).alloc (.cells b 38)).heap[w.heap.size]? = some (.cells a 38 (0, 0)) ∧ ((w.alloc (.cells a 38)).alloc (.cells b 38)).heap[w.heap.size + 1]? = some (.cells b 38 (0, 0)) ∧ Below w.heap.size w ((w.alloc (.cells a 38)).alloc (.cells b 38))) := Lib.hid (fun a b => ⟨heap_alloc_new w _, by rw [Below.heap_alloc _ _ _ (by simp)]; exact heap_alloc_new w _, by have := heap_alloc_new (w.alloc (.cells a 38)) (.cells b 38); simpa using this, ((Below.refl _ _).alloc (Nat.le_refl _) _).alloc (by simp) _⟩)
  clear hA hB hU hD hca hcb r1 r2 hi hj
  go_enter Tryz.func63, Tryz.ntmps63
  go_upto_region 1 with (fail)
  go_cut [13, 14] from 23 (fun s13 s14 wc => ∃ B1 B2 : Nat, s13 = .pointer (some ⟨B1, 0, none⟩) ∧ s14 = .pointer (some ⟨B2, 0, none⟩) ∧ Hid (wc.heap[B1]? = some (.cells #[.int .i64 7, .slice na nn nc, .slice ka kn kc, .bool op] 38 (0, 0))) ∧ Hid (wc.heap[B2]? = some (.cells #[.int .i64 7, .slice ma mn mc, .slice ja jn jc, .bool eq] 38 (0, 0))) ∧ Hid (Below w.heap.size w wc))
  case first =>
    go_region
    all_goals
      go_wp2
      go_meet
      case rel => first | exact ⟨w.heap.size, w.heap.size + 1, rfl, rfl, Lib.hid (HW1.out _ _).2.1, Lib.hid (HW1.out _ _).2.2.1, Lib.hid (HW1.out _ _).2.2.2.drew⟩ | exact ⟨w.heap.size + 1, w.heap.size, rfl, rfl, Lib.hid (HW1.out _ _).2.2.1, Lib.hid (HW1.out _ _).2.1, Lib.hid (HW1.out _ _).2.2.2.drew⟩
  obtain ⟨B1, B2, rfl, rfl, HY1, HY2, HBZ⟩ := hcut
  clear h0 h1 h2 h3 k0 k1 k2 k3 hga hgb
  have b0 : wc.cell? ⟨B1, 0, none⟩ = some (.int .i64 7) := (by rw [cell_of_row _ _ 0 _ 38 _ HY1.out]; rfl)
  have b1 : wc.cell? ⟨B1, 1, none⟩ = some (.slice na nn nc) := (by rw [cell_of_row _ _ 1 _ 38 _ HY1.out]; rfl)
  have b2 : wc.cell? ⟨B1, 2, none⟩ = some (.slice ka kn kc) := (by rw [cell_of_row _ _ 2 _ 38 _ HY1.out]; rfl)
  have b3 : wc.cell? ⟨B1, 3, none⟩ = some (.bool op) := (by rw [cell_of_row _ _ 3 _ 38 _ HY1.out]; rfl)
  have d0 : wc.cell? ⟨B2, 0, none⟩ = some (.int .i64 7) := (by rw [cell_of_row _ _ 0 _ 38 _ HY2.out]; rfl)
  have d1 : wc.cell? ⟨B2, 1, none⟩ = some (.slice ma mn mc) := (by rw [cell_of_row _ _ 1 _ 38 _ HY2.out]; rfl)
  have d2 : wc.cell? ⟨B2, 2, none⟩ = some (.slice ja jn jc) := (by rw [cell_of_row _ _ 2 _ 38 _ HY2.out]; rfl)
  have d3 : wc.cell? ⟨B2, 3, none⟩ = some (.bool eq) := (by rw [cell_of_row _ _ 3 _ 38 _ HY2.out]; rfl)
  have HL1 : Hid (B1 < wc.heap.size) := Lib.hid (Array.getElem?_eq_some_iff.1 HY1.out).1
  have HL2 : Hid (B2 < wc.heap.size) := Lib.hid (Array.getElem?_eq_some_iff.1 HY2.out).1
  have hnk := (HO1.out.on HBZ.out).kids
  have hnj := (HO2.out.on HBZ.out).kids
  obtain ⟨gk, ok, ek, hgk, hck⟩ := hnk.2.resolve_left (by (try simp only); omega)
  obtain ⟨gj, oj, ej, hgj, hcj⟩ := hnj.2.resolve_left (by (try simp only); omega)
  (try simp only at ek ej)
  have c1k := hck 0 _ rfl
  have c2k := hck 1 _ rfl
  have c1j := hcj 0 _ rfl
  have c2j := hcj 1 _ rfl
  rw [Nat.add_zero] at c1k c1j
  have hDw := HDD.out.on HBZ.out
  have hUw := HUU.out.on HBZ.out
  have t1 := hDw.row c0 (by omega)
  have t2 := hDw.cell c0 a0 (by omega) (by omega)
  have t3 := hUw.row a1 (by omega)
  have t4 := hUw.cell a1 c1 (by omega) (by omega)
  subst ek ej
  clear hnk hnj hck hcj hDw hUw hgk hgj
  have HR2 := Lib.hid HRES.out
  clear HRES
  generalize D c0 a0 = bd at *
  generalize U a1 c1 = bu at *
  generalize Rd c0 = r0 at *
  generalize Cd c0 = s0 at *
  generalize Ru a1 = r1 at *
  generalize Cu a1 = s1 at *
  cases bd
  all_goals
    go_wp2
    go_quiet (fail)
    go_wp2
    go_ret
    exact ⟨by rw [HR2.out]; rfl, below_drewN HBZ.out⟩
end Go.Proofs.YtoakfninndkgaaaGreatDoor
