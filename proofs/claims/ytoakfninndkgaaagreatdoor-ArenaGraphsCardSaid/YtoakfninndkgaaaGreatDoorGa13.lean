/- Walks: the law's own has. Both has of a value that was made: one plain answer. Plain: the classes of heads: numbers of keys, and when they stand. -/
import Derived.Test.YtoakfninndkgaaaGreatDoorGa12
set_option linter.unusedSimpArgs false
set_option linter.unusedVariables false
set_option linter.unusedVariables false
namespace Go.Proofs.YtoakfninndkgaaaGreatDoor
open Go.RowKit
set_option maxRecDepth 20000 in
set_option maxHeartbeats 4000000 in
theorem lhas_simple (w : World) (la : Option Addr) (ln lc : Nat) (HS : List Hd) (hH : HeadsIn w la ln HS) (hln : (ln : Int) ≤ 100000) (i : Nat) (hd : Int) (na : Option Addr) (nn nc : Nat) (NS : List ByteArray) (ka : Option Addr) (kn kc : Nat) (KS : List Int) (op : Bool) (hi : HS[i]? = some ⟨hd, na, nn, nc, NS, ka, kn, kc, KS, op⟩) (kd ki kb : Int) (kt : ByteArray) (kna : Option Addr) (knn knc : Nat) (kka : Option Addr) (kkn kkc : Nat) (kfp : Option Addr) (khv : Int) (h8 : hd = 8 → kd ≠ 4) (h9 : hd = 9 → kd ≠ 5) (hr : 0 ≤ hd ∧ hd ≤ 9) :
    Calls Tryz.prog 31 #[.agg #[.int .i64 kd, .int .i64 ki, .int .u64 kb, .string kt, .slice kna knn knc, .slice kka kkn kkc, .pointer kfp, .int .i64 khv], .slice la ln lc, .int .i64 (i : Int)] w (BoolPost w (leafB hd kd)) := by
  have H9 := Lib.hid h9
  have H8 := Lib.hid h8
  clear h8 h9
  have HL := Lib.hid hH.1
  have HH := Lib.hid hi
  have hil : i < ln := by rw [hH.1]; exact (List.getElem?_eq_some_iff.1 hi).1
  have hil2 : (i : Int) < ln := by omega
  obtain ⟨g, o, rfl, hg, hc⟩ := hH.2.resolve_left (by omega)
  have hin := hc i _ hi
  have HOK := Lib.hid hin.ok
  have HG := Lib.hid hg
  have hxb : (w.alloc (.cells #[.int .i64 kd, .int .i64 ki, .int .u64 kb, .string kt, .slice kna knn knc, .slice kka kkn kkc, .pointer kfp, .int .i64 khv] 70)).heap[w.heap.size]? = some (.cells #[.int .i64 kd, .int .i64 ki, .int .u64 kb, .string kt, .slice kna knn knc, .slice kka kkn kkc, .pointer kfp, .int .i64 khv] 70 (0, 0)) := heap_alloc_new w _
  have HXB := Lib.hid hxb
  have HBA : Hid (Below w.heap.size w (w.alloc (.cells #[.int .i64 kd, .int .i64 ki, .int .u64 kb, .string kt, .slice kna knn knc, .slice kka kkn kkc, .pointer kfp, .int .i64 khv] 70))) := Lib.hid ((Below.refl _ _).alloc (Nat.le_refl _) _)
  have h0 : (w.alloc (.cells #[.int .i64 kd, .int .i64 ki, .int .u64 kb, .string kt, .slice kna knn knc, .slice kka kkn kkc, .pointer kfp, .int .i64 khv] 70)).cell? ⟨g, o + i * 4, none⟩ = some (.int .i64 hd) := keepB HBA.out hg hin.c0
  have h1 : (w.alloc (.cells #[.int .i64 kd, .int .i64 ki, .int .u64 kb, .string kt, .slice kna knn knc, .slice kka kkn kkc, .pointer kfp, .int .i64 khv] 70)).cell? ⟨g, o + i * 4 + 1, none⟩ = some (.slice na nn nc) := keepB HBA.out hg hin.c1
  have h2 : (w.alloc (.cells #[.int .i64 kd, .int .i64 ki, .int .u64 kb, .string kt, .slice kna knn knc, .slice kka kkn kkc, .pointer kfp, .int .i64 khv] 70)).cell? ⟨g, o + i * 4 + 2, none⟩ = some (.slice ka kn kc) := keepB HBA.out hg hin.c2
  have h3 : (w.alloc (.cells #[.int .i64 kd, .int .i64 ki, .int .u64 kb, .string kt, .slice kna knn knc, .slice kka kkn kkc, .pointer kfp, .int .i64 khv] 70)).cell? ⟨g, o + i * 4 + 3, none⟩ = some (.bool op) := keepB HBA.out hg hin.c3
  clear hxb hc hg hin hi hH
  go_enter Tryz.func31, Tryz.ntmps31
  go_upto_region 1 with (fail)
  generalize (w.alloc (.cells #[.int .i64 kd, .int .i64 ki, .int .u64 kb, .string kt, .slice kna knn knc, .slice kka kkn kkc, .pointer kfp, .int .i64 khv] 70)) = w1 at *
  have HXL : Hid (w.heap.size < w1.heap.size) := Lib.hid (Array.getElem?_eq_some_iff.1 HXB.out).1
  have hy : (w1.alloc (.cells #[.int .i64 hd, .slice na nn nc, .slice ka kn kc, .bool op] 38)).heap[w1.heap.size]? = some (.cells #[.int .i64 hd, .slice na nn nc, .slice ka kn kc, .bool op] 38 (0, 0)) := heap_alloc_new w1 _
  have HY := Lib.hid hy
  have HBY : Hid (Below w1.heap.size w1 (w1.alloc (.cells #[.int .i64 hd, .slice na nn nc, .slice ka kn kc, .bool op] 38))) := Lib.hid ((Below.refl _ _).alloc (Nat.le_refl _) _)
  clear hy
  go_upto_region 2 with (fail)
  clear h0 h1 h2 h3
  generalize (w1.alloc (.cells #[.int .i64 hd, .slice na nn nc, .slice ka kn kc, .bool op] 38)) = w2 at *
  have HYL : Hid (w1.heap.size < w2.heap.size) := Lib.hid (Array.getElem?_eq_some_iff.1 HY.out).1
  have HXB2 := Lib.hid ((HBY.out.block _ HXL.out).trans HXB.out)
  have HBZ : Hid (Below w.heap.size w w2) := Lib.hid (HBA.out.trans (HBY.out.mono HBA.out.size))
  have b0 : w2.cell? ⟨w1.heap.size, 0, none⟩ = some (.int .i64 hd) := (by rw [cell_of_row _ _ 0 _ 38 _ HY.out]; rfl)
  have b1 : w2.cell? ⟨w1.heap.size, 1, none⟩ = some (.slice na nn nc) := (by rw [cell_of_row _ _ 1 _ 38 _ HY.out]; rfl)
  have b2 : w2.cell? ⟨w1.heap.size, 2, none⟩ = some (.slice ka kn kc) := (by rw [cell_of_row _ _ 2 _ 38 _ HY.out]; rfl)
  have b3 : w2.cell? ⟨w1.heap.size, 3, none⟩ = some (.bool op) := (by rw [cell_of_row _ _ 3 _ 38 _ HY.out]; rfl)
  have v0 : w2.cell? ⟨w.heap.size, 0, none⟩ = some (.int .i64 kd) := (by rw [cell_of_row _ _ 0 _ 70 _ HXB2.out]; rfl)
  have v1 : w2.cell? ⟨w.heap.size, 1, none⟩ = some (.int .i64 ki) := (by rw [cell_of_row _ _ 1 _ 70 _ HXB2.out]; rfl)
  have v2 : w2.cell? ⟨w.heap.size, 2, none⟩ = some (.int .u64 kb) := (by rw [cell_of_row _ _ 2 _ 70 _ HXB2.out]; rfl)
  have v3 : w2.cell? ⟨w.heap.size, 3, none⟩ = some (.string kt) := (by rw [cell_of_row _ _ 3 _ 70 _ HXB2.out]; rfl)
  have v4 : w2.cell? ⟨w.heap.size, 4, none⟩ = some (.slice kna knn knc) := (by rw [cell_of_row _ _ 4 _ 70 _ HXB2.out]; rfl)
  have v5 : w2.cell? ⟨w.heap.size, 5, none⟩ = some (.slice kka kkn kkc) := (by rw [cell_of_row _ _ 5 _ 70 _ HXB2.out]; rfl)
  have v6 : w2.cell? ⟨w.heap.size, 6, none⟩ = some (.pointer kfp) := (by rw [cell_of_row _ _ 6 _ 70 _ HXB2.out]; rfl)
  have v7 : w2.cell? ⟨w.heap.size, 7, none⟩ = some (.int .i64 khv) := (by rw [cell_of_row _ _ 7 _ 70 _ HXB2.out]; rfl)
  rcases (by omega : hd = 5 ∨ hd = 0 ∨ hd = 1 ∨ hd = 2 ∨ hd = 3 ∨ hd = 7 ∨ hd = 4 ∨ hd = 6 ∨ hd = 9 ∨ hd = 8) with rfl | rfl | rfl | rfl | rfl | rfl | rfl | rfl | rfl | rfl
  · go_wp2
    go_ret
    exact ⟨rfl, HBZ.out⟩
  · go_wp2
    go_ret
    exact ⟨rfl, HBZ.out⟩
  · go_wp2
    go_ret
    exact ⟨rfl, HBZ.out⟩
  · go_wp2
    go_ret
    exact ⟨rfl, HBZ.out⟩
  · go_wp2
    go_ret
    exact ⟨rfl, HBZ.out⟩
  · go_wp2
    go_ret
    exact ⟨rfl, HBZ.out⟩
  · go_wp2
    go_ret
    exact ⟨rfl, HBZ.out⟩
  · go_wp2
    go_ret
    exact ⟨rfl, HBZ.out⟩
  · have h5 : (kd == 5) = false := by simpa using H9.out rfl
    go_wp2
    go_ret
    exact ⟨rfl, HBZ.out⟩
  · have h5 : (kd == 4) = false := by simpa using H8.out rfl
    go_wp2
    go_ret
    exact ⟨rfl, HBZ.out⟩
set_option maxRecDepth 20000 in
set_option maxHeartbeats 4000000 in
theorem lhas_rec (w : World) (la : Option Addr) (ln lc : Nat) (HS : List Hd) (hH : HeadsIn w la ln HS) (hln : (ln : Int) ≤ 100000) (i : Nat) (hd : Int) (na : Option Addr) (nn nc : Nat) (NS : List ByteArray) (ka : Option Addr) (kn kc : Nat) (KS : List Int) (op : Bool) (hi : HS[i]? = some ⟨hd, na, nn, nc, NS, ka, kn, kc, KS, op⟩) (kd ki kb : Int) (kt : ByteArray) (kna : Option Addr) (knn knc : Nat) (kka : Option Addr) (kkn kkc : Nat) (kfp : Option Addr) (khv : Int) (K : Nat → Val.Kid) (gvn gvk : Nat) (NV : List ByteArray) (res : Nat → Nat → Bool) (h8 : hd = 8) (h4 : kd = 4) (hN' : nn = kn) (hm : knn = NV.length) (hmk : kkn = NV.length) (hm1 : knn ≤ 1000) (hvn : knn = 0 ∨ (kna = some ⟨gvn, 0, none⟩ ∧ gvn < w.heap.size)) (hvk : kkn = 0 ∨ (kka = some ⟨gvk, 0, none⟩ ∧ gvk < w.heap.size)) (hcn' : ∀ (p : Nat) s, NV[p]? = some s → w.cell? ⟨gvn, p, none⟩ = some (.string s)) (hck' : ∀ (p q : Nat) u, p < kkn → (K p).cells[q]? = some u → w.cell? ⟨gvk, p * 8 + q, none⟩ = some u)
    (hR : ∀ (p n : Nat) s k, NV[p]? = some s → NS[n]? = some s → KS[n]? = some k → ∀ w'', Below w.heap.size w w'' → Calls Tryz.prog 31 #[(K p).val, .slice la ln lc, .int .i64 k] w'' (BoolPost w'' (res p n))) :
    Calls Tryz.prog 31 #[.agg #[.int .i64 kd, .int .i64 ki, .int .u64 kb, .string kt, .slice kna knn knc, .slice kka kkn kkc, .pointer kfp, .int .i64 khv], .slice la ln lc, .int .i64 (i : Int)] w (BoolPost w ((List.range nn).all fun n => (List.range NV.length).any fun p => decide (NV[p]? = NS[n]?) && res p n)) := by
  obtain ⟨f, hf⟩ : ∃ f : Nat → Nat → Bool, f = fun n p => decide (NV[p]? = NS[n]?) && res p n := ⟨_, rfl⟩
  have HFE : Hid (∀ n p, f n p = (decide (NV[p]? = NS[n]?) && res p n)) := Lib.hid (fun n p => by rw [hf])
  have HRE : Hid (((List.range nn).all fun n => (List.range NV.length).any fun p => decide (NV[p]? = NS[n]?) && res p n) = (List.range nn).all fun n => (List.range NV.length).any (f n)) := Lib.hid (by rw [hf])
  generalize ((List.range nn).all fun n => (List.range NV.length).any fun p => decide (NV[p]? = NS[n]?) && res p n) = RR at *
  clear hf
  have HR := Lib.hid hR
  have HNK := Lib.hid hN'
  have HM := Lib.hid hm
  have HMK := Lib.hid hmk
  have HVN := Lib.hid hvn
  have HVK := Lib.hid hvk
  have HCN := Lib.hid hcn'
  have HCK := Lib.hid hck'
  have hm2 : (knn : Int) ≤ 1000 := by omega
  clear hR hN' hm hmk hvn hvk hcn' hck'
  subst h8 h4
  have HL := Lib.hid hH.1
  have HH := Lib.hid hi
  have hil : i < ln := by rw [hH.1]; exact (List.getElem?_eq_some_iff.1 hi).1
  have hil2 : (i : Int) < ln := by omega
  obtain ⟨g, o, rfl, hg, hc⟩ := hH.2.resolve_left (by omega)
  have hin := hc i _ hi
  have HOK := Lib.hid hin.ok
  have HG := Lib.hid hg
  have hxb : (w.alloc (.cells #[.int .i64 4, .int .i64 ki, .int .u64 kb, .string kt, .slice kna knn knc, .slice kka kkn kkc, .pointer kfp, .int .i64 khv] 70)).heap[w.heap.size]? = some (.cells #[.int .i64 4, .int .i64 ki, .int .u64 kb, .string kt, .slice kna knn knc, .slice kka kkn kkc, .pointer kfp, .int .i64 khv] 70 (0, 0)) := heap_alloc_new w _
  have HXB := Lib.hid hxb
  have HBA : Hid (Below w.heap.size w (w.alloc (.cells #[.int .i64 4, .int .i64 ki, .int .u64 kb, .string kt, .slice kna knn knc, .slice kka kkn kkc, .pointer kfp, .int .i64 khv] 70))) := Lib.hid ((Below.refl _ _).alloc (Nat.le_refl _) _)
  have h0 : (w.alloc (.cells #[.int .i64 4, .int .i64 ki, .int .u64 kb, .string kt, .slice kna knn knc, .slice kka kkn kkc, .pointer kfp, .int .i64 khv] 70)).cell? ⟨g, o + i * 4, none⟩ = some (.int .i64 8) := keepB HBA.out hg hin.c0
  have h1 : (w.alloc (.cells #[.int .i64 4, .int .i64 ki, .int .u64 kb, .string kt, .slice kna knn knc, .slice kka kkn kkc, .pointer kfp, .int .i64 khv] 70)).cell? ⟨g, o + i * 4 + 1, none⟩ = some (.slice na nn nc) := keepB HBA.out hg hin.c1
  have h2 : (w.alloc (.cells #[.int .i64 4, .int .i64 ki, .int .u64 kb, .string kt, .slice kna knn knc, .slice kka kkn kkc, .pointer kfp, .int .i64 khv] 70)).cell? ⟨g, o + i * 4 + 2, none⟩ = some (.slice ka kn kc) := keepB HBA.out hg hin.c2
  have h3 : (w.alloc (.cells #[.int .i64 4, .int .i64 ki, .int .u64 kb, .string kt, .slice kna knn knc, .slice kka kkn kkc, .pointer kfp, .int .i64 khv] 70)).cell? ⟨g, o + i * 4 + 3, none⟩ = some (.bool op) := keepB HBA.out hg hin.c3
  clear hxb hc hg hin hi hH
  go_enter Tryz.func31, Tryz.ntmps31
  go_upto_region 1 with (fail)
  generalize (w.alloc (.cells #[.int .i64 4, .int .i64 ki, .int .u64 kb, .string kt, .slice kna knn knc, .slice kka kkn kkc, .pointer kfp, .int .i64 khv] 70)) = w1 at *
  have HXL : Hid (w.heap.size < w1.heap.size) := Lib.hid (Array.getElem?_eq_some_iff.1 HXB.out).1
  have hy : (w1.alloc (.cells #[.int .i64 8, .slice na nn nc, .slice ka kn kc, .bool op] 38)).heap[w1.heap.size]? = some (.cells #[.int .i64 8, .slice na nn nc, .slice ka kn kc, .bool op] 38 (0, 0)) := heap_alloc_new w1 _
  have HY := Lib.hid hy
  have HBY : Hid (Below w1.heap.size w1 (w1.alloc (.cells #[.int .i64 8, .slice na nn nc, .slice ka kn kc, .bool op] 38))) := Lib.hid ((Below.refl _ _).alloc (Nat.le_refl _) _)
  clear hy
  go_upto_region 2 with (fail)
  clear h0 h1 h2 h3
  generalize (w1.alloc (.cells #[.int .i64 8, .slice na nn nc, .slice ka kn kc, .bool op] 38)) = w2 at *
  have HYL : Hid (w1.heap.size < w2.heap.size) := Lib.hid (Array.getElem?_eq_some_iff.1 HY.out).1
  have HXB2 := Lib.hid ((HBY.out.block _ HXL.out).trans HXB.out)
  have HBZ : Hid (Below w.heap.size w w2) := Lib.hid (HBA.out.trans (HBY.out.mono HBA.out.size))
  have b0 : w2.cell? ⟨w1.heap.size, 0, none⟩ = some (.int .i64 8) := (by rw [cell_of_row _ _ 0 _ 38 _ HY.out]; rfl)
  have b1 : w2.cell? ⟨w1.heap.size, 1, none⟩ = some (.slice na nn nc) := (by rw [cell_of_row _ _ 1 _ 38 _ HY.out]; rfl)
  have b2 : w2.cell? ⟨w1.heap.size, 2, none⟩ = some (.slice ka kn kc) := (by rw [cell_of_row _ _ 2 _ 38 _ HY.out]; rfl)
  have b3 : w2.cell? ⟨w1.heap.size, 3, none⟩ = some (.bool op) := (by rw [cell_of_row _ _ 3 _ 38 _ HY.out]; rfl)
  have v0 : w2.cell? ⟨w.heap.size, 0, none⟩ = some (.int .i64 4) := (by rw [cell_of_row _ _ 0 _ 70 _ HXB2.out]; rfl)
  have v1 : w2.cell? ⟨w.heap.size, 1, none⟩ = some (.int .i64 ki) := (by rw [cell_of_row _ _ 1 _ 70 _ HXB2.out]; rfl)
  have v2 : w2.cell? ⟨w.heap.size, 2, none⟩ = some (.int .u64 kb) := (by rw [cell_of_row _ _ 2 _ 70 _ HXB2.out]; rfl)
  have v3 : w2.cell? ⟨w.heap.size, 3, none⟩ = some (.string kt) := (by rw [cell_of_row _ _ 3 _ 70 _ HXB2.out]; rfl)
  have v4 : w2.cell? ⟨w.heap.size, 4, none⟩ = some (.slice kna knn knc) := (by rw [cell_of_row _ _ 4 _ 70 _ HXB2.out]; rfl)
  have v5 : w2.cell? ⟨w.heap.size, 5, none⟩ = some (.slice kka kkn kkc) := (by rw [cell_of_row _ _ 5 _ 70 _ HXB2.out]; rfl)
  have v6 : w2.cell? ⟨w.heap.size, 6, none⟩ = some (.pointer kfp) := (by rw [cell_of_row _ _ 6 _ 70 _ HXB2.out]; rfl)
  have v7 : w2.cell? ⟨w.heap.size, 7, none⟩ = some (.int .i64 khv) := (by rw [cell_of_row _ _ 7 _ 70 _ HXB2.out]; rfl)
  have HNM := Lib.hid (HOK.out.on HBZ.out).names
  have HKD := Lib.hid (HOK.out.on HBZ.out).kids
  have HNL := Lib.hid HOK.out.names.1
  have HKL := Lib.hid HOK.out.kids.1
  have hnb : (nn : Int) ≤ 100000 := (by have h9 := HOK.out.nnb; (try simp only at h9); omega)
  go_wp2
  go_loopw [51] (fun s51 wr => ∃ j : Nat, s51 = .int .i64 (j : Int) ∧ j ≤ nn ∧ Hid (Below w2.heap.size w2 wr) ∧ Hid (∀ n, n < j → ((List.range NV.length).any (f n)) = true)) (fun s51 _ => nn - (intOf s51).toNat)
  case atStart => exact ⟨0, rfl, Nat.zero_le _, Lib.hid (Below.refl _ _), Lib.hid (fun n hn => by omega)⟩
  case round =>
    obtain ⟨j, rfl, hj, HBR, HA⟩ := hrel
    obtain ⟨wo, rfl⟩ : ∃ wo : World, wo = wr := ⟨_, rfl⟩
    have hwj : IntKind.i64.wrap ((j : Int) + 1) = (j : Int) + 1 := by rw [IntKind.wrap_i64]; omega
    have HBQ : Hid (Below w.heap.size w wo) := Lib.hid (HBZ.out.trans (HBR.out.mono HBZ.out.size))
    have HYR := Lib.hid ((HBR.out.block _ HYL.out).trans HY.out)
    have HXR := Lib.hid ((HBR.out.block _ (Nat.lt_trans HXL.out HYL.out)).trans HXB2.out)
    have HSR := Lib.hid HBR.out.size
    have x4 : wo.cell? ⟨w.heap.size, 4, none⟩ = some (.slice kna knn knc) := (by rw [cell_of_row _ _ 4 _ 70 _ HXR.out]; rfl)
    have y1 : wo.cell? ⟨w1.heap.size, 1, none⟩ = some (.slice na nn nc) := (by rw [cell_of_row _ _ 1 _ 38 _ HYR.out]; rfl)
    by_cases hjn : j < nn
    · have hjn2 : (j : Int) < nn := by omega
      have hjn3 : (j : Int) < kn := by have := HNK.out; omega
      obtain ⟨s, hs⟩ : ∃ s, NS[j]? = some s := ⟨_, List.getElem?_eq_getElem (by have h9 := HNL.out; (try simp only at h9); rw [← h9]; exact hjn)⟩
      obtain ⟨k, hk⟩ : ∃ k, KS[j]? = some k := ⟨_, List.getElem?_eq_getElem (by have h9 := HKL.out; (try simp only at h9); rw [← h9, ← HNK.out]; exact hjn)⟩
      obtain ⟨gn, on, en, hgn, hcn⟩ := HNM.out.2.resolve_left (by (try simp only); omega)
      obtain ⟨gk, ok, ek, hgk, hck⟩ := HKD.out.2.resolve_left (by have := HNK.out; (try simp only); omega)
      (try simp only at en ek)
      have cs : wo.cell? ⟨gn, on + j, none⟩ = some (.string s) := keepB HBR.out hgn (hcn j s hs)
      have ck0 : wo.cell? ⟨gk, ok + j, none⟩ = some (.int .i64 k) := keepB HBR.out hgk (hck j k hk)
      have HCKO := Lib.hid ck0
      have HGK : Hid (gk < wo.heap.size) := Lib.hid (Nat.lt_of_lt_of_le hgk HBR.out.size)
      have HSJ := Lib.hid hs
      have HKJ := Lib.hid hk
      clear hs hk hcn hck hgn hgk ck0
      subst en ek
      go_wp2
      clear x4 y1 cs
      go_loopw [59, 10] (fun s59 s10 wr => ∃ (p : Nat) (b : Bool), s59 = .int .i64 (p : Int) ∧ s10 = .bool b ∧ p ≤ knn ∧ Hid (Below wo.heap.size wo wr) ∧ Hid (b = (List.range p).any (f j))) (fun s59 _ _ => knn - (intOf s59).toNat)
      case atStart => exact ⟨0, false, rfl, rfl, Nat.zero_le _, Lib.hid (Below.refl _ _), Lib.hid rfl⟩
      case round =>
        obtain ⟨p, b, rfl, rfl, hp, HBP, HB⟩ := hrel
        have hwp : IntKind.i64.wrap ((p : Int) + 1) = (p : Int) + 1 := by rw [IntKind.wrap_i64]; omega
        have HSP := Lib.hid HBP.out.size
        have HYP := Lib.hid ((HBP.out.block _ (Nat.lt_of_lt_of_le HYL.out HSR.out)).trans HYR.out)
        have HXP := Lib.hid ((HBP.out.block _ (Nat.lt_of_lt_of_le (Nat.lt_trans HXL.out HYL.out) HSR.out)).trans HXR.out)
        have HBWP : Hid (Below w.heap.size w wr) := Lib.hid (HBQ.out.trans (HBP.out.mono HBQ.out.size))
        have HB2P : Hid (Below w2.heap.size w2 wr) := Lib.hid (HBR.out.trans (HBP.out.mono HBR.out.size))
        have x0 : wr.cell? ⟨w.heap.size, 0, none⟩ = some (.int .i64 4) := (by rw [cell_of_row _ _ 0 _ 70 _ HXP.out]; rfl)
        have x1 : wr.cell? ⟨w.heap.size, 1, none⟩ = some (.int .i64 ki) := (by rw [cell_of_row _ _ 1 _ 70 _ HXP.out]; rfl)
        have x2 : wr.cell? ⟨w.heap.size, 2, none⟩ = some (.int .u64 kb) := (by rw [cell_of_row _ _ 2 _ 70 _ HXP.out]; rfl)
        have x3 : wr.cell? ⟨w.heap.size, 3, none⟩ = some (.string kt) := (by rw [cell_of_row _ _ 3 _ 70 _ HXP.out]; rfl)
        have x4 : wr.cell? ⟨w.heap.size, 4, none⟩ = some (.slice kna knn knc) := (by rw [cell_of_row _ _ 4 _ 70 _ HXP.out]; rfl)
        have x5 : wr.cell? ⟨w.heap.size, 5, none⟩ = some (.slice kka kkn kkc) := (by rw [cell_of_row _ _ 5 _ 70 _ HXP.out]; rfl)
        have x6 : wr.cell? ⟨w.heap.size, 6, none⟩ = some (.pointer kfp) := (by rw [cell_of_row _ _ 6 _ 70 _ HXP.out]; rfl)
        have x7 : wr.cell? ⟨w.heap.size, 7, none⟩ = some (.int .i64 khv) := (by rw [cell_of_row _ _ 7 _ 70 _ HXP.out]; rfl)
        have y2 : wr.cell? ⟨w1.heap.size, 2, none⟩ = some (.slice (some ⟨gk, ok, none⟩) kn kc) := (by rw [cell_of_row _ _ 2 _ 38 _ HYP.out]; rfl)
        have ck : wr.cell? ⟨gk, ok + j, none⟩ = some (.int .i64 k) := keepB HBP.out HGK.out HCKO.out
        by_cases hpn : p < knn
        · have hpn2 : (p : Int) < knn := by omega
          have hpn3 : (p : Int) < kkn := by have := HM.out; have := HMK.out; omega
          have hpn4 : p < kkn := by omega
          obtain ⟨t, ht⟩ : ∃ t, NV[p]? = some t := ⟨_, List.getElem?_eq_getElem (by rw [← HM.out]; exact hpn)⟩
          obtain ⟨ev, hgv⟩ := HVN.out.resolve_left (by omega)
          obtain ⟨evk, hgvk⟩ := HVK.out.resolve_left (by omega)
          have ct : wr.cell? ⟨gvn, p, none⟩ = some (.string t) := keepB HBWP.out hgv (HCN.out p t ht)
          have HCKP := Lib.hid (fun q u h => keepB HBWP.out hgvk (HCK.out p q u hpn4 h))
          have HGVK : Hid (gvk < wr.heap.size) := Lib.hid (Nat.lt_of_lt_of_le hgvk HBWP.out.size)
          have HRP := Lib.hid (fun h => HR.out p j s k (by rw [ht]; exact h) HSJ.out HKJ.out)
          have HTP := Lib.hid ht
          have HNX : Hid (((List.range (p + 1)).any (f j)) = (b || f j p)) := Lib.hid (by rw [List.range_succ, List.any_append, ← HB.out]; simp)
          clear ht hgv hgvk
          subst ev evk
          cases b with
          | true =>
            go_wp2
            go_quiet (fail)
            go_wp2
            go_roundw
            case rel => exact ⟨p + 1, true, by go_num, rfl, by omega, Lib.hid (below_drewN HBP.out), Lib.hid (by rw [HNX.out]; rfl)⟩
            case measure => simp [intOf]; omega
          | false =>
            by_cases he : t = s
            · have hts : (t.toList == s.toList) = true := by simp [he]
              have HRS : Hid (∃ r, res p j = r) := Lib.hid ⟨_, rfl⟩
              obtain ⟨r, hr⟩ := HRS.out
              have HFR : Hid (f j p = r) := Lib.hid (by rw [HFE.out, HTP.out, HSJ.out, he, hr]; simp)
              obtain ⟨K0, hK0⟩ : ∃ K0, K p = K0 := ⟨_, rfl⟩
              have HRQ := Lib.hid (HRP.out (by rw [he]))
              rw [hr, hK0] at HRQ
              rw [hK0] at HCKP
              clear hr hK0 he HRP
              obtain ⟨xkd, xki, xkb, xkt, xna, xnn, xnc, xka, xkn, xkc, xfp, xhv⟩ := K0
              have HRN : Hid (∀ w'', Below w.heap.size w w'' → Calls Tryz.prog 31 #[.agg #[.int .i64 xkd, .int .i64 xki, .int .u64 xkb, .string xkt, .slice xna xnn xnc, .slice xka xkn xkc, .pointer xfp, .int .i64 xhv], .slice (some ⟨g, o, none⟩) ln lc, .int .i64 k] w'' (BoolPost w'' r)) := Lib.hid HRQ.out
              clear HRQ
              have u0 : wr.cell? ⟨gvk, p * 8, none⟩ = some (.int .i64 xkd) := HCKP.out 0 _ rfl
              have u1 : wr.cell? ⟨gvk, p * 8 + 1, none⟩ = some (.int .i64 xki) := HCKP.out 1 _ rfl
              have u2 : wr.cell? ⟨gvk, p * 8 + 2, none⟩ = some (.int .u64 xkb) := HCKP.out 2 _ rfl
              have u3 : wr.cell? ⟨gvk, p * 8 + 3, none⟩ = some (.string xkt) := HCKP.out 3 _ rfl
              have u4 : wr.cell? ⟨gvk, p * 8 + 4, none⟩ = some (.slice xna xnn xnc) := HCKP.out 4 _ rfl
              have u5 : wr.cell? ⟨gvk, p * 8 + 5, none⟩ = some (.slice xka xkn xkc) := HCKP.out 5 _ rfl
              have u6 : wr.cell? ⟨gvk, p * 8 + 6, none⟩ = some (.pointer xfp) := HCKP.out 6 _ rfl
              have u7 : wr.cell? ⟨gvk, p * 8 + 7, none⟩ = some (.int .i64 xhv) := HCKP.out 7 _ rfl
              have HYG : Hid (w1.heap.size < wr.heap.size) := Lib.hid (Nat.lt_of_lt_of_le (Nat.lt_of_lt_of_le HYL.out HSR.out) HSP.out)
              have HXG : Hid (w.heap.size < wr.heap.size) := Lib.hid (Nat.lt_trans HXL.out HYG.out)
              have HKG : Hid (gk < wr.heap.size) := Lib.hid (Nat.lt_of_lt_of_le HGK.out HSP.out)
              go_upto_region 16 with (fail)
              go_region_held3 (fun w' => w'.cell? ⟨gvk, p * 8, none⟩ = some (.int .i64 xkd) ∧ w'.cell? ⟨gvk, p * 8 + 1, none⟩ = some (.int .i64 xki) ∧ w'.cell? ⟨gvk, p * 8 + 2, none⟩ = some (.int .u64 xkb) ∧ w'.cell? ⟨gvk, p * 8 + 3, none⟩ = some (.string xkt) ∧ w'.cell? ⟨gvk, p * 8 + 4, none⟩ = some (.slice xna xnn xnc) ∧ w'.cell? ⟨gvk, p * 8 + 5, none⟩ = some (.slice xka xkn xkc) ∧ w'.cell? ⟨gvk, p * 8 + 6, none⟩ = some (.pointer xfp) ∧ w'.cell? ⟨gvk, p * 8 + 7, none⟩ = some (.int .i64 xhv) ∧ w'.cell? ⟨w.heap.size, 5, none⟩ = some (.slice (some ⟨gvk, 0, none⟩) kkn kkc) ∧ w'.cell? ⟨w1.heap.size, 2, none⟩ = some (.slice (some ⟨gk, ok, none⟩) kn kc) ∧ w'.cell? ⟨gk, ok + j, none⟩ = some (.int .i64 k)) (first | exact ⟨u0, u1, u2, u3, u4, u5, u6, u7, x5, y2, ck⟩ | exact ⟨keepB HC5.out HGVK.out u0, keepB HC5.out HGVK.out u1, keepB HC5.out HGVK.out u2, keepB HC5.out HGVK.out u3, keepB HC5.out HGVK.out u4, keepB HC5.out HGVK.out u5, keepB HC5.out HGVK.out u6, keepB HC5.out HGVK.out u7, keepB HC5.out HXG.out x5, keepB HC5.out HYG.out y2, keepB HC5.out HKG.out ck⟩)
                ((go_at_call 31; (with_reducible refine (HRN.out _ (by exact HBWP.out.drew)).mono ?_); rintro e w7 ⟨rfl, hb7⟩; have HC5 := Lib.hid (show Below wr.heap.size wr w7 from (Below.refl _ _).drew.trans hb7); clear hb7))
              go_wp2
              go_roundw
              case rel => exact ⟨p + 1, r, by go_num, by simp, by omega, Lib.hid (HBP.out.trans (HC5.out.mono HBP.out.size)), Lib.hid (by rw [HNX.out, HFR.out]; rfl)⟩
              case measure => simp [intOf]; omega
            · have hts : (t.toList == s.toList) = false := by
                cases hh : (t.toList == s.toList) with
                | false => rfl
                | true => exact absurd (toList_inj (by simpa using hh)) he
              have HFR : Hid (f j p = false) := Lib.hid (by rw [HFE.out, HTP.out, HSJ.out]; simp [he])
              clear he
              go_wp2
              go_quiet (fail)
              go_wp2
              go_roundw
              case rel => exact ⟨p + 1, false, by go_num, rfl, by omega, Lib.hid (below_drewN HBP.out), Lib.hid (by rw [HNX.out, HFR.out]; rfl)⟩
              case measure => simp [intOf]; omega
        · have hpn2 : ¬ (p : Int) < knn := by omega
          obtain rfl : p = knn := by omega
          cases b with
          | true =>
            go_wp2
            go_roundw
            case rel => exact ⟨j + 1, by go_num, by omega, HB2P, Lib.hid (fun n hn => by
              by_cases he : n = j
              · subst he
                rw [← HM.out, ← HB.out]
              · exact HA.out n (by omega))⟩
            case measure => simp [intOf]; omega
          | false =>
            have HBAD : Hid (RR = false) := Lib.hid (by rw [HRE.out]; exact List.all_eq_false.2 ⟨j, List.mem_range.2 hjn, by rw [← HM.out, ← HB.out]; simp⟩)
            go_wp2
            go_ret
            exact ⟨by rw [HBAD.out]; rfl, HBWP.out⟩
    · have hjn2 : ¬ (j : Int) < nn := by omega
      have HALL : Hid (RR = true) := Lib.hid (by rw [HRE.out]; exact List.all_eq_true.2 (fun n hn => HA.out n (by have := List.mem_range.1 hn; omega)))
      go_wp2
      go_ret
      exact ⟨by rw [HALL.out]; rfl, HBQ.out⟩
set_option maxRecDepth 20000 in
set_option maxHeartbeats 4000000 in
theorem lhas_tag (w : World) (la : Option Addr) (ln lc : Nat) (HS : List Hd) (hH : HeadsIn w la ln HS) (hln : (ln : Int) ≤ 100000) (i : Nat) (hd : Int) (na : Option Addr) (nn nc : Nat) (NS : List ByteArray) (ka : Option Addr) (kn kc : Nat) (KS : List Int) (op : Bool) (hi : HS[i]? = some ⟨hd, na, nn, nc, NS, ka, kn, kc, KS, op⟩) (kd ki kb : Int) (kt : ByteArray) (kna : Option Addr) (knn knc : Nat) (kka : Option Addr) (kkn kkc : Nat) (kfp : Option Addr) (khv : Int) (K : Val.Kid) (gv : Nat) (res : Bool) (h9 : hd = 9) (h5 : kd = 5) (hN' : nn = kn) (hka : kka = some ⟨gv, 0, none⟩) (hkn : kkn = 1) (hkc : 1 ≤ kkc) (hgv : gv < w.heap.size) (hc' : ∀ (p : Nat) u, K.cells[p]? = some u → w.cell? ⟨gv, p, none⟩ = some u) (hpos : ∀ k ∈ KS, 0 ≤ k)
    (hR : 0 ≤ findK NS KS kt → ∀ w'', Below w.heap.size w w'' → Calls Tryz.prog 31 #[K.val, .slice la ln lc, .int .i64 (findK NS KS kt)] w'' (BoolPost w'' res)) :
    Calls Tryz.prog 31 #[.agg #[.int .i64 kd, .int .i64 ki, .int .u64 kb, .string kt, .slice kna knn knc, .slice kka kkn kkc, .pointer kfp, .int .i64 khv], .slice la ln lc, .int .i64 (i : Int)] w (BoolPost w (if findK NS KS kt < 0 then op else res)) := by
  have HRT : Hid (findK NS KS kt < 0 → (if findK NS KS kt < 0 then op else res) = op) := Lib.hid (fun e => if_pos e)
  have HRF : Hid (¬ findK NS KS kt < 0 → (if findK NS KS kt < 0 then op else res) = res) := Lib.hid (fun e => if_neg e)
  generalize (if findK NS KS kt < 0 then op else res) = RR at *
  have HR := Lib.hid hR
  have HNK := Lib.hid hN'
  have HPOS := Lib.hid hpos
  have HCC := Lib.hid hc'
  have HGV := Lib.hid hgv
  have hkc2 : (1 : Int) ≤ kkc := by omega
  clear hR hN' hpos hc' hgv
  subst h9 h5 hka hkn
  have HL := Lib.hid hH.1
  have HH := Lib.hid hi
  have hil : i < ln := by rw [hH.1]; exact (List.getElem?_eq_some_iff.1 hi).1
  have hil2 : (i : Int) < ln := by omega
  obtain ⟨g, o, rfl, hg, hc⟩ := hH.2.resolve_left (by omega)
  have hin := hc i _ hi
  have HOK := Lib.hid hin.ok
  have HG := Lib.hid hg
  have hxb : (w.alloc (.cells #[.int .i64 5, .int .i64 ki, .int .u64 kb, .string kt, .slice kna knn knc, .slice (some ⟨gv, 0, none⟩) 1 kkc, .pointer kfp, .int .i64 khv] 70)).heap[w.heap.size]? = some (.cells #[.int .i64 5, .int .i64 ki, .int .u64 kb, .string kt, .slice kna knn knc, .slice (some ⟨gv, 0, none⟩) 1 kkc, .pointer kfp, .int .i64 khv] 70 (0, 0)) := heap_alloc_new w _
  have HXB := Lib.hid hxb
  have HBA : Hid (Below w.heap.size w (w.alloc (.cells #[.int .i64 5, .int .i64 ki, .int .u64 kb, .string kt, .slice kna knn knc, .slice (some ⟨gv, 0, none⟩) 1 kkc, .pointer kfp, .int .i64 khv] 70))) := Lib.hid ((Below.refl _ _).alloc (Nat.le_refl _) _)
  have h0 : (w.alloc (.cells #[.int .i64 5, .int .i64 ki, .int .u64 kb, .string kt, .slice kna knn knc, .slice (some ⟨gv, 0, none⟩) 1 kkc, .pointer kfp, .int .i64 khv] 70)).cell? ⟨g, o + i * 4, none⟩ = some (.int .i64 9) := keepB HBA.out hg hin.c0
  have h1 : (w.alloc (.cells #[.int .i64 5, .int .i64 ki, .int .u64 kb, .string kt, .slice kna knn knc, .slice (some ⟨gv, 0, none⟩) 1 kkc, .pointer kfp, .int .i64 khv] 70)).cell? ⟨g, o + i * 4 + 1, none⟩ = some (.slice na nn nc) := keepB HBA.out hg hin.c1
  have h2 : (w.alloc (.cells #[.int .i64 5, .int .i64 ki, .int .u64 kb, .string kt, .slice kna knn knc, .slice (some ⟨gv, 0, none⟩) 1 kkc, .pointer kfp, .int .i64 khv] 70)).cell? ⟨g, o + i * 4 + 2, none⟩ = some (.slice ka kn kc) := keepB HBA.out hg hin.c2
  have h3 : (w.alloc (.cells #[.int .i64 5, .int .i64 ki, .int .u64 kb, .string kt, .slice kna knn knc, .slice (some ⟨gv, 0, none⟩) 1 kkc, .pointer kfp, .int .i64 khv] 70)).cell? ⟨g, o + i * 4 + 3, none⟩ = some (.bool op) := keepB HBA.out hg hin.c3
  clear hxb hc hg hin hi hH
  go_enter Tryz.func31, Tryz.ntmps31
  go_upto_region 1 with (fail)
  generalize (w.alloc (.cells #[.int .i64 5, .int .i64 ki, .int .u64 kb, .string kt, .slice kna knn knc, .slice (some ⟨gv, 0, none⟩) 1 kkc, .pointer kfp, .int .i64 khv] 70)) = w1 at *
  have HXL : Hid (w.heap.size < w1.heap.size) := Lib.hid (Array.getElem?_eq_some_iff.1 HXB.out).1
  have hy : (w1.alloc (.cells #[.int .i64 9, .slice na nn nc, .slice ka kn kc, .bool op] 38)).heap[w1.heap.size]? = some (.cells #[.int .i64 9, .slice na nn nc, .slice ka kn kc, .bool op] 38 (0, 0)) := heap_alloc_new w1 _
  have HY := Lib.hid hy
  have HBY : Hid (Below w1.heap.size w1 (w1.alloc (.cells #[.int .i64 9, .slice na nn nc, .slice ka kn kc, .bool op] 38))) := Lib.hid ((Below.refl _ _).alloc (Nat.le_refl _) _)
  clear hy
  go_upto_region 2 with (fail)
  clear h0 h1 h2 h3
  generalize (w1.alloc (.cells #[.int .i64 9, .slice na nn nc, .slice ka kn kc, .bool op] 38)) = w2 at *
  have HYL : Hid (w1.heap.size < w2.heap.size) := Lib.hid (Array.getElem?_eq_some_iff.1 HY.out).1
  have HXB2 := Lib.hid ((HBY.out.block _ HXL.out).trans HXB.out)
  have HBZ : Hid (Below w.heap.size w w2) := Lib.hid (HBA.out.trans (HBY.out.mono HBA.out.size))
  have b0 : w2.cell? ⟨w1.heap.size, 0, none⟩ = some (.int .i64 9) := (by rw [cell_of_row _ _ 0 _ 38 _ HY.out]; rfl)
  have b1 : w2.cell? ⟨w1.heap.size, 1, none⟩ = some (.slice na nn nc) := (by rw [cell_of_row _ _ 1 _ 38 _ HY.out]; rfl)
  have b2 : w2.cell? ⟨w1.heap.size, 2, none⟩ = some (.slice ka kn kc) := (by rw [cell_of_row _ _ 2 _ 38 _ HY.out]; rfl)
  have b3 : w2.cell? ⟨w1.heap.size, 3, none⟩ = some (.bool op) := (by rw [cell_of_row _ _ 3 _ 38 _ HY.out]; rfl)
  have v0 : w2.cell? ⟨w.heap.size, 0, none⟩ = some (.int .i64 5) := (by rw [cell_of_row _ _ 0 _ 70 _ HXB2.out]; rfl)
  have v1 : w2.cell? ⟨w.heap.size, 1, none⟩ = some (.int .i64 ki) := (by rw [cell_of_row _ _ 1 _ 70 _ HXB2.out]; rfl)
  have v2 : w2.cell? ⟨w.heap.size, 2, none⟩ = some (.int .u64 kb) := (by rw [cell_of_row _ _ 2 _ 70 _ HXB2.out]; rfl)
  have v3 : w2.cell? ⟨w.heap.size, 3, none⟩ = some (.string kt) := (by rw [cell_of_row _ _ 3 _ 70 _ HXB2.out]; rfl)
  have v4 : w2.cell? ⟨w.heap.size, 4, none⟩ = some (.slice kna knn knc) := (by rw [cell_of_row _ _ 4 _ 70 _ HXB2.out]; rfl)
  have v5 : w2.cell? ⟨w.heap.size, 5, none⟩ = some (.slice (some ⟨gv, 0, none⟩) 1 kkc) := (by rw [cell_of_row _ _ 5 _ 70 _ HXB2.out]; rfl)
  have v6 : w2.cell? ⟨w.heap.size, 6, none⟩ = some (.pointer kfp) := (by rw [cell_of_row _ _ 6 _ 70 _ HXB2.out]; rfl)
  have v7 : w2.cell? ⟨w.heap.size, 7, none⟩ = some (.int .i64 khv) := (by rw [cell_of_row _ _ 7 _ 70 _ HXB2.out]; rfl)
  have HNM := Lib.hid (HOK.out.on HBZ.out).names
  have HKD := Lib.hid (HOK.out.on HBZ.out).kids
  have HNL := Lib.hid HOK.out.names.1
  have HKL := Lib.hid HOK.out.kids.1
  have hnb : (nn : Int) ≤ 100000 := (by have h9 := HOK.out.nnb; (try simp only at h9); omega)
  obtain ⟨xkd, xki, xkb, xkt, xna, xnn, xnc, xka, xkn, xkc, xfp, xhv⟩ := K
  go_wp2
  go_loop [100] (fun s100 => ∃ j : Nat, s100 = .int .i64 (j : Int) ∧ j ≤ nn ∧ Hid (∀ q, q < j → NS[q]? ≠ some kt)) (fun s100 => nn - (intOf s100).toNat)
  case atStart => exact ⟨0, rfl, Nat.zero_le _, Lib.hid (fun q hq => by omega)⟩
  case round =>
    obtain ⟨j, rfl, hj, HQ⟩ := hrel
    have hwj : IntKind.i64.wrap ((j : Int) + 1) = (j : Int) + 1 := by rw [IntKind.wrap_i64]; omega
    by_cases hjn : j < nn
    · have hjn2 : (j : Int) < nn := by omega
      have hjn3 : (j : Int) < kn := by have := HNK.out; omega
      obtain ⟨s, hs⟩ : ∃ s, NS[j]? = some s := ⟨_, List.getElem?_eq_getElem (by have h9 := HNL.out; (try simp only at h9); rw [← h9]; exact hjn)⟩
      obtain ⟨k, hk⟩ : ∃ k, KS[j]? = some k := ⟨_, List.getElem?_eq_getElem (by have h9 := HKL.out; (try simp only at h9); rw [← h9, ← HNK.out]; exact hjn)⟩
      obtain ⟨gn, on, en, hgn, hcn⟩ := HNM.out.2.resolve_left (by (try simp only); omega)
      obtain ⟨gk, ok, ek, hgk, hck⟩ := HKD.out.2.resolve_left (by have := HNK.out; (try simp only); omega)
      (try simp only at en ek)
      have cs := hcn j s hs
      have ck := hck j k hk
      have HGK := Lib.hid hgk
      have HSJ := Lib.hid hs
      have HKJ := Lib.hid hk
      clear hs hk hcn hck hgn hgk
      subst en ek
      by_cases he : s = kt
      · have hts : (s.toList == kt.toList) = true := by simp [he]
        have hfk : findK NS KS kt = k := findK_at NS KS kt j k (by rw [HSJ.out, he]) HKJ.out HQ.out
        have hk0 : 0 ≤ k := HPOS.out k (List.mem_of_getElem? HKJ.out)
        have HRR : Hid (RR = res) := Lib.hid (HRF.out (by rw [hfk]; omega))
        have HRQ := Lib.hid (HR.out (by rw [hfk]; exact hk0))
        rw [hfk] at HRQ
        have HRN : Hid (∀ w'', Below w.heap.size w w'' → Calls Tryz.prog 31 #[.agg #[.int .i64 xkd, .int .i64 xki, .int .u64 xkb, .string xkt, .slice xna xnn xnc, .slice xka xkn xkc, .pointer xfp, .int .i64 xhv], .slice (some ⟨g, o, none⟩) ln lc, .int .i64 k] w'' (BoolPost w'' res)) := Lib.hid HRQ.out
        clear HRQ hfk he
        have HGV2 : Hid (gv < w2.heap.size) := Lib.hid (Nat.lt_of_lt_of_le HGV.out HBZ.out.size)
        have HXG : Hid (w.heap.size < w2.heap.size) := Lib.hid (Nat.lt_trans HXL.out HYL.out)
        have u0 : w2.cell? ⟨gv, 0, none⟩ = some (.int .i64 xkd) := keepB HBZ.out HGV.out (HCC.out 0 _ rfl)
        have u1 : w2.cell? ⟨gv, 1, none⟩ = some (.int .i64 xki) := keepB HBZ.out HGV.out (HCC.out 1 _ rfl)
        have u2 : w2.cell? ⟨gv, 2, none⟩ = some (.int .u64 xkb) := keepB HBZ.out HGV.out (HCC.out 2 _ rfl)
        have u3 : w2.cell? ⟨gv, 3, none⟩ = some (.string xkt) := keepB HBZ.out HGV.out (HCC.out 3 _ rfl)
        have u4 : w2.cell? ⟨gv, 4, none⟩ = some (.slice xna xnn xnc) := keepB HBZ.out HGV.out (HCC.out 4 _ rfl)
        have u5 : w2.cell? ⟨gv, 5, none⟩ = some (.slice xka xkn xkc) := keepB HBZ.out HGV.out (HCC.out 5 _ rfl)
        have u6 : w2.cell? ⟨gv, 6, none⟩ = some (.pointer xfp) := keepB HBZ.out HGV.out (HCC.out 6 _ rfl)
        have u7 : w2.cell? ⟨gv, 7, none⟩ = some (.int .i64 xhv) := keepB HBZ.out HGV.out (HCC.out 7 _ rfl)
        go_upto_region 27 with (fail)
        go_region_held3 (fun w' => w'.cell? ⟨gv, 0, none⟩ = some (.int .i64 xkd) ∧ w'.cell? ⟨gv, 1, none⟩ = some (.int .i64 xki) ∧ w'.cell? ⟨gv, 2, none⟩ = some (.int .u64 xkb) ∧ w'.cell? ⟨gv, 3, none⟩ = some (.string xkt) ∧ w'.cell? ⟨gv, 4, none⟩ = some (.slice xna xnn xnc) ∧ w'.cell? ⟨gv, 5, none⟩ = some (.slice xka xkn xkc) ∧ w'.cell? ⟨gv, 6, none⟩ = some (.pointer xfp) ∧ w'.cell? ⟨gv, 7, none⟩ = some (.int .i64 xhv) ∧ w'.cell? ⟨w.heap.size, 5, none⟩ = some (.slice (some ⟨gv, 0, none⟩) 1 kkc) ∧ w'.cell? ⟨w1.heap.size, 2, none⟩ = some (.slice (some ⟨gk, ok, none⟩) kn kc) ∧ w'.cell? ⟨gk, ok + j, none⟩ = some (.int .i64 k)) (first | exact ⟨u0, u1, u2, u3, u4, u5, u6, u7, v5, b2, ck⟩ | exact ⟨keepB HC5.out HGV2.out u0, keepB HC5.out HGV2.out u1, keepB HC5.out HGV2.out u2, keepB HC5.out HGV2.out u3, keepB HC5.out HGV2.out u4, keepB HC5.out HGV2.out u5, keepB HC5.out HGV2.out u6, keepB HC5.out HGV2.out u7, keepB HC5.out HXG.out v5, keepB HC5.out HYL.out b2, keepB HC5.out HGK.out ck⟩)
          ((go_at_call 31; (with_reducible refine (HRN.out _ (by exact HBZ.out.drew)).mono ?_); rintro e w7 ⟨rfl, hb7⟩; have HC5 := Lib.hid (show Below w2.heap.size w2 w7 from (Below.refl _ _).drew.trans hb7); clear hb7))
        go_wp2
        go_ret
        exact ⟨by rw [HRR.out]; rfl, HBZ.out.trans (HC5.out.mono HBZ.out.size)⟩
      · have hts : (s.toList == kt.toList) = false := by
          cases hh : (s.toList == kt.toList) with
          | false => rfl
          | true => exact absurd (toList_inj (by simpa using hh)) he
        have HE := Lib.hid he
        clear he
        go_wp2
        go_round
        case rel => exact ⟨j + 1, by go_num, by omega, Lib.hid (fun q hq e => by
          by_cases h9 : q = j
          · subst h9
            have := HSJ.out.symm.trans e
            cases this
            exact HE.out rfl
          · exact HQ.out q (by omega) e)⟩
        case measure => simp [intOf]; omega
    · have hjn2 : ¬ (j : Int) < nn := by omega
      have hno : ∀ q : Nat, NS[q]? ≠ some kt := fun q e => by
        have h8 := (List.getElem?_eq_some_iff.1 e).1
        have h9 := HNL.out
        (try simp only at h9)
        rw [← h9] at h8
        exact HQ.out q (by omega) e
      have HF : Hid (RR = op) := Lib.hid (HRT.out (by rw [findK_none NS KS kt hno]; decide))
      clear hno
      go_wp2
      go_ret
      exact ⟨by rw [HF.out]; rfl, HBZ.out⟩
end Go.Proofs.YtoakfninndkgaaaGreatDoor
set_option linter.unusedVariables false
namespace Go.Proofs.YtoakfninndkgaaaGreatDoor
open Go.RowKit
/-- all heads may be. -/
def OkHeads (HS : List Hd) : Prop := ∀ h ∈ HS, headB h.kd h.op HS.length h.NS h.KS = true
theorem OkHeads.of_graph {root : Int} {HS : List Hd} (h : graphB root HS = true) : OkHeads HS ∧ 0 ≤ root ∧ root < (HS.length : Int) := by
  unfold graphB at h
  simp only [Bool.and_eq_true, decide_eq_true_eq, List.all_eq_true] at h
  exact ⟨fun x hx => h.2 x hx, h.1.1.2, h.1.2⟩
theorem head_kind {h : Hd} {n : Int} (e : headB h.kd h.op n h.NS h.KS = true) : (0 ≤ h.kd ∧ h.kd ≤ 9) ∧ risesB h.NS = true ∧ (∀ k ∈ h.KS, 0 ≤ k ∧ k < n) ∧ (h.kd = 8 ∨ h.kd = 9 → h.NS.length = h.KS.length) ∧ (h.kd = 7 → h.NS.length = 0 ∧ h.KS.length = 2) ∧ (h.kd ≤ 6 → h.NS.length = 0 ∧ h.KS.length = 0) ∧ (h.op = true → h.kd = 9) := by
  unfold headB at e
  simp only [Bool.and_eq_true, bne_iff_ne, List.all_eq_true, decide_eq_true_eq] at e
  obtain ⟨⟨⟨e1, e2⟩, e3⟩, e4⟩ := e
  refine ⟨?_, e2, e3, ?_⟩
  all_goals
    unfold typB at e4
    by_cases h0 : h.op = true ∧ h.kd ≠ 9
    · rw [if_pos h0] at e4; cases e4
    rw [if_neg h0] at e4
    by_cases h7 : h.kd = 7
    · rw [if_pos h7] at e4
      simp only [Bool.and_eq_true, decide_eq_true_eq] at e4
      first | omega | exact ⟨fun h => by omega, fun _ => e4, fun h => by omega, fun ho => by
        by_cases h9 : h.kd = 9
        · exact h9
        · exact absurd ⟨ho, h9⟩ h0⟩
    rw [if_neg h7] at e4
    by_cases h8 : h.kd = 8
    · rw [if_pos h8] at e4
      simp only [Bool.and_eq_true, decide_eq_true_eq] at e4
      first | omega | exact ⟨fun _ => e4.1, fun h => by omega, fun h => by omega, fun ho => by
        by_cases h9 : h.kd = 9
        · exact h9
        · exact absurd ⟨ho, h9⟩ h0⟩
    rw [if_neg h8] at e4
    by_cases h9 : h.kd = 9
    · rw [if_pos h9] at e4
      simp only [Bool.and_eq_true, decide_eq_true_eq] at e4
      first | omega | exact ⟨fun _ => e4.1, fun h => by omega, fun h => by omega, fun _ => h9⟩
    rw [if_neg h9] at e4
    simp only [Bool.and_eq_true, decide_eq_true_eq] at e4
    first | omega | exact ⟨fun h => by omega, fun h => by omega, fun _ => ⟨e4.1.2, e4.2⟩, fun ho => absurd ⟨ho, h9⟩ h0⟩
theorem rises_uniq : ∀ (E : List Val.Ent), Val.Rises E → ∀ (i j : Nat) a b, E[i]? = some a → E[j]? = some b → a.1 = b.1 → i = j
  | [], _, i, j, a, b, h1, _, _ => by simp at h1
  | e :: E, hr, 0, 0, a, b, _, _, _ => rfl
  | e :: E, hr, 0, j + 1, a, b, h1, h2, h3 => by
    simp at h1 h2
    have := hr.1 b (List.mem_of_getElem? h2)
    rw [h1, h3] at this
    have h4 := bl_irrefl b.1
    unfold bl at h4
    unfold Val.bl at this
    rw [h4] at this; cases this
  | e :: E, hr, i + 1, 0, a, b, h1, h2, h3 => by
    simp at h1 h2
    have := hr.1 a (List.mem_of_getElem? h1)
    rw [h2, ← h3] at this
    have h4 := bl_irrefl a.1
    unfold bl at h4
    unfold Val.bl at this
    rw [h4] at this; cases this
  | e :: E, hr, i + 1, j + 1, a, b, h1, h2, h3 => by
    rw [rises_uniq E hr.2 i j a b (by simpa using h1) (by simpa using h2) h3]
theorem names_at (E : List Val.Ent) (j : Nat) (s : ByteArray) : (Val.names E)[j]? = some s ↔ ∃ k, E[j]? = some (s, k) := by
  unfold Val.names
  rw [List.getElem?_map]
  cases E[j]? with
  | none => simp
  | some e => obtain ⟨a, b⟩ := e; simp
theorem any_name (E : List Val.Ent) (hr : Val.Rises E) (s : ByteArray) (f : Nat → Bool) : ((List.range (Val.names E).length).any fun j => decide ((Val.names E)[j]? = some s) && f j) = ((Val.getE E s).isSome && f (Val.lowP E s)) := by
  cases hg : Val.getE E s with
  | none =>
    simp only [Option.isSome_none, Bool.false_and]
    refine List.any_eq_false.2 (fun j hj => ?_)
    have : ¬ (Val.names E)[j]? = some s := fun e => by
      obtain ⟨k, hk⟩ := (names_at E j s).1 e
      have := Val.getE_at E hr j _ hk
      rw [hg] at this
      cases this
    simp [this]
  | some kk =>
    have hp := Val.get_at E s hr kk hg
    simp only [Option.isSome_some, Bool.true_and]
    cases hf : f (Val.lowP E s) with
    | true =>
      refine List.any_eq_true.2 ⟨Val.lowP E s, List.mem_range.2 ?_, ?_⟩
      · have := (List.getElem?_eq_some_iff.1 hp).1
        simpa [Val.names] using this
      · have := (names_at E _ s).2 ⟨kk, hp⟩
        simp [this, hf]
    | false =>
      refine List.any_eq_false.2 (fun j hj => ?_)
      by_cases he : (Val.names E)[j]? = some s
      · obtain ⟨k, hk⟩ := (names_at E j s).1 he
        have := rises_uniq E hr _ _ _ _ hk hp rfl
        rw [this, hf]
        simp
      · simp [he]
theorem all_congr {l : List Nat} {f g : Nat → Bool} (h : ∀ n ∈ l, f n = g n) : l.all f = l.all g := by
  induction l with
  | nil => rfl
  | cons x l ih =>
    rw [List.all_cons, List.all_cons, h x (List.mem_cons_self ..), ih (fun n hn => h n (List.mem_cons_of_mem _ hn))]
theorem row_at {cur : Array Value} {m k : Nat} {xs : List Value} {u : Value} (h : cur.toList.take m = xs) (hk : xs[k]? = some u) : cur[k]? = some u := Val.row_at h hk
set_option maxRecDepth 20000 in
set_option maxHeartbeats 2000000 in
theorem field_not (w : World) (kd ki kb : Int) (kt : ByteArray) (kna : Option Addr) (knn knc : Nat) (kka : Option Addr) (kkn kkc : Nat) (kfp : Option Addr) (khv : Int) (x : ByteArray) (h4 : kd ≠ 4) (hz : kna = none ∧ knn = 0 ∧ knc = 0) :
    Calls Tryz.prog 60 #[.agg #[.int .i64 kd, .int .i64 ki, .int .u64 kb, .string kt, .slice kna knn knc, .slice kka kkn kkc, .pointer kfp, .int .i64 khv], .string x] w (FieldPost w none) := by
  obtain ⟨rfl, rfl, rfl⟩ := hz
  have h4' : (kd == 4) = false := by simpa using h4
  have h4'' : (kd != 4) = true := by simpa using h4
  clear h4
  have hxb : (w.alloc (.cells #[.int .i64 kd, .int .i64 ki, .int .u64 kb, .string kt, .slice none 0 0, .slice kka kkn kkc, .pointer kfp, .int .i64 khv] 70)).heap[w.heap.size]? = some (.cells #[.int .i64 kd, .int .i64 ki, .int .u64 kb, .string kt, .slice none 0 0, .slice kka kkn kkc, .pointer kfp, .int .i64 khv] 70 (0, 0)) := heap_alloc_new w _
  have HR : Hid (∀ cs, ((w.alloc (.cells #[.int .i64 kd, .int .i64 ki, .int .u64 kb, .string kt, .slice none 0 0, .slice kka kkn kkc, .pointer kfp, .int .i64 khv] 70)).alloc (.cells cs 70)).heap[w.heap.size + 1]? = some (.cells cs 70 (0, 0))) := Lib.hid fun cs => by
    have := heap_alloc_new (w.alloc (.cells #[.int .i64 kd, .int .i64 ki, .int .u64 kb, .string kt, .slice none 0 0, .slice kka kkn kkc, .pointer kfp, .int .i64 khv] 70)) (.cells cs 70)
    simpa using this
  have HBL : Hid (∀ cs, Below w.heap.size w ((w.alloc (.cells #[.int .i64 kd, .int .i64 ki, .int .u64 kb, .string kt, .slice none 0 0, .slice kka kkn kkc, .pointer kfp, .int .i64 khv] 70)).alloc (.cells cs 70))) := Lib.hid fun cs => ((Below.refl _ _).alloc (Nat.le_refl _) _).alloc (by simp) _
  clear hxb
  go_enter Tryz.func60, Tryz.ntmps60
  go_wp2_with (go_at_call 65; refine (Val.bs_nil _ _).mono ?_; rintro e w' ⟨rfl, rfl⟩)
  (try simp only [Exit.inBlock, Exit.then])
  refine bodyPost_ret (v := .tuple #[.agg #[.int .i64 0, .int .i64 0, .int .u64 0, .string ⟨#[]⟩, .slice none 0 0, .slice none 0 0, .pointer none, .int .i64 0], .bool false]) ?_ rfl ?_
  · refine Val.results_28' (fn := Tryz.f60) (p := 4) (u := 5) rfl _ _ (w.heap.size + 1) #[.int .i64 0, .int .i64 0, .int .u64 0, .string ⟨#[]⟩, .slice none 0 0, .slice none 0 0, .pointer none, .int .i64 0] ?_ ?_ rfl
    · rfl
    · exact HR.out _
  · exact ⟨rfl, HBL.out _⟩
def BothAt (w' : World) (k : Val.Kid) (la : Option Addr) (ln lc : Nat) (i : Int) (b : Bool) : Prop :=
  Calls Tryz.prog 51 #[k.val, .slice la ln lc, .int .i64 i] w' (BoolPost w' b) ∧ Calls Tryz.prog 31 #[k.val, .slice la ln lc, .int .i64 i] w' (BoolPost w' b)
theorem HeadsIn.on {w w' : World} {la : Option Addr} {ln : Nat} {HS : List Hd} (h : HeadsIn w la ln HS) (hb : Below w.heap.size w w') : HeadsIn w' la ln HS := by
  refine ⟨h.1, ?_⟩
  rcases h.2 with h0 | ⟨g, o, e, hg, hc⟩
  · exact Or.inl h0
  · refine Or.inr ⟨g, o, e, Nat.lt_of_lt_of_le hg hb.size, fun i x hx => ?_⟩
    have r := hc i x hx
    exact ⟨keepB hb hg r.c0, keepB hb hg r.c1, keepB hb hg r.c2, keepB hb hg r.c3, r.ok.on hb⟩
theorem nn_kn {w : World} {h : Hd} (hok : HdOk w h) (hl : h.NS.length = h.KS.length) : h.nn = h.kn := by rw [hok.names.1, hok.kids.1, hl]
theorem HeadsIn.ok {w : World} {la : Option Addr} {ln : Nat} {HS : List Hd} (hH : HeadsIn w la ln HS) {j : Nat} {h : Hd} (hj : HS[j]? = some h) : HdOk w h := by
  obtain ⟨g, o, e, hg, hc⟩ := hH.2.resolve_left (by rw [hH.1]; have := (List.getElem?_eq_some_iff.1 hj).1; omega)
  exact (hc j _ hj).ok
theorem vrec_not (w : World) (la : Option Addr) (ln lc : Nat) (HS : List Hd) (hH : HeadsIn w la ln HS) (hln : (ln : Int) ≤ 100000) (j : Nat) (h : Hd) (hh : HS[j]? = some h) (h8 : h.kd = 8) (hl : h.NS.length = h.KS.length) (k : Val.Kid) (h4 : k.kd ≠ 4) (hz : k.na = none ∧ k.nn = 0 ∧ k.nc = 0) :
    Calls Tryz.prog 51 #[k.val, .slice la ln lc, .int .i64 (j : Int)] w (BoolPost w false) := by
  have hnk := nn_kn (hH.ok hh) hl
  obtain ⟨hd, na, nn, nc, NS, ka, kn, kc, KS, op⟩ := h
  obtain ⟨kd, ki, kb, kt, kna, knn, knc, kka, kkn, kkc, kfp, khv⟩ := k
  simp only at h4 h8 hnk
  have := vhas_rec w la ln lc HS hH hln j hd na nn nc NS ka kn kc KS op hh kd ki kb kt kna knn knc kka kkn kkc kfp khv (fun _ => none) (fun _ => false) h8 hnk (fun n s _ w'' _ => field_not w'' kd ki kb kt kna knn knc kka kkn kkc kfp khv s h4 hz) (fun n kk k h => by cases h)
  have h2 : (if ((List.range nn).all fun n => ((none : Option Val.Kid)).isSome && false) = true then kd == 4 else false) = false := by
    split
    · simpa using h4
    · rfl
  rw [h2] at this
  exact this
theorem if44 (b : Bool) : (if b = true then (4 : Int) == 4 else false) = b := by cases b <;> rfl
theorem leaf8 (kk : Int) : leafB 8 kk = false := by unfold leafB; simp
theorem leaf9 (kk : Int) : leafB 9 kk = false := by unfold leafB; simp
theorem own_cells {w : World} {base : Nat} {e : TypeId} {size n : Nat} {a : Option Addr} {c : Nat} {xs : List Value} (h : w.ownsRow base e size (.slice a n c) n xs) : n = 0 ∨ ∃ g cur, a = some ⟨g, 0, none⟩ ∧ g < w.heap.size ∧ w.heap[g]? = some (.cells cur e (0, 0)) ∧ cur.toList.take (n * size) = xs := by
  rcases h.2 with ⟨-, h0⟩ | ⟨g, cap, cur, e1, e2, e3, e4, e5, e6, e7⟩
  · exact Or.inl h0
  · cases e1
    exact Or.inr ⟨g, cur, rfl, (Array.getElem?_eq_some_iff.1 e3).1, e3, e7⟩
theorem both_any (w : World) (F : Nat → Prop) (la : Option Addr) (ln lc : Nat) (HS : List Hd) (hH : HeadsIn w la ln HS) (hln : (ln : Int) ≤ 100000) (hok : OkHeads HS) (hF : ∀ b, F b → b < w.heap.size) {k : Val.Kid} {v : Val.V} (hv : Val.VS w F k v) :
    ∀ w', Below w.heap.size w w' → ∀ i : Int, 0 ≤ i → i < (ln : Int) → BothAt w' k la ln lc i (hasB HS v i) := by
  induction hv with
  | leaf k hz hs h4 h5 =>
    intro w' hb i hi0 hil
    obtain ⟨j, rfl⟩ : ∃ j : Nat, i = (j : Int) := ⟨i.toNat, by omega⟩
    obtain ⟨h, hh⟩ : ∃ h, HS[j]? = some h := ⟨_, List.getElem?_eq_getElem (by rw [← hH.1]; omega)⟩
    have hk := head_kind (hok h (List.mem_of_getElem? hh))
    have he : hasB HS (.leaf k.kd k.kt) (j : Int) = leafB h.kd k.kd := by
      unfold hasB
      rw [Int.toNat_natCast, hh]
    rw [he]
    obtain ⟨hd, na, nn, nc, NS, ka, kn, kc, KS, op⟩ := h
    obtain ⟨kd, ki, kb, kt, kna, knn, knc, kka, kkn, kkc, kfp, khv⟩ := k
    simp only at h4 h5
    have hHw := hH.on hb
    by_cases h8 : hd = 8
    · subst h8
      rw [leaf8]
      refine ⟨vrec_not w' la ln lc HS hHw hln j _ hh rfl (hk.2.2.2.1 (Or.inl rfl)) ⟨kd, ki, kb, kt, kna, knn, knc, kka, kkn, kkc, kfp, khv⟩ h4 hz, ?_⟩
      rw [← leaf8 kd]
      exact lhas_simple w' la ln lc HS hHw hln j 8 na nn nc NS ka kn kc KS op hh kd ki kb kt kna knn knc kka kkn kkc kfp khv (fun _ => h4) (fun h => by omega) (by omega)
    · exact ⟨vhas_simple w' la ln lc HS hHw hln j hd na nn nc NS ka kn kc KS op hh kd ki kb kt kna knn knc kka kkn kkc kfp khv h8 (fun _ => h5) hk.1, lhas_simple w' la ln lc HS hHw hln j hd na nn nc NS ka kn kc KS op hh kd ki kb kt kna knn knc kka kkn kkc kfp khv (fun h => absurd h h8) (fun _ => h5) hk.1⟩
  | tag k g K v hz hs h5 ha hg hn hnc hc hv ih =>
    intro w' hb i hi0 hil
    obtain ⟨j, rfl⟩ : ∃ j : Nat, i = (j : Int) := ⟨i.toNat, by omega⟩
    obtain ⟨h, hh⟩ : ∃ h, HS[j]? = some h := ⟨_, List.getElem?_eq_getElem (by rw [← hH.1]; omega)⟩
    have hk := head_kind (hok h (List.mem_of_getElem? hh))
    have he : hasB HS (.tag k.kt v) (j : Int) = if h.kd = 9 then (if findK h.NS h.KS k.kt < 0 then h.op else hasB HS v (findK h.NS h.KS k.kt)) else leafB h.kd 5 := by
      rw [hasB, Int.toNat_natCast, hh]
    rw [he]
    have hHw := hH.on hb
    have hnk := fun e => nn_kn (hHw.ok hh) (hk.2.2.2.1 e)
    have hln2 := hH.1
    by_cases h8 : h.kd = 8
    · rw [if_neg (by rw [h8]; decide), h8, leaf8]
      refine ⟨vrec_not w' la ln lc HS hHw hln j h hh h8 (hk.2.2.2.1 (Or.inl h8)) k (by rw [h5]; decide) hz, ?_⟩
      obtain ⟨hd, na, nn, nc, NS, ka, kn, kc, KS, op⟩ := h
      obtain ⟨kd, ki, kb, kt, kna, knn, knc, kka, kkn, kkc, kfp, khv⟩ := k
      simp only at h5 h8
      have := lhas_simple w' la ln lc HS hHw hln j hd na nn nc NS ka kn kc KS op hh kd ki kb kt kna knn knc kka kkn kkc kfp khv (fun _ => by omega) (fun h => by omega) (by omega)
      rw [h8, leaf8] at this
      exact this
    · by_cases h9 : h.kd = 9
      · rw [if_pos h9]
        obtain ⟨hd, na, nn, nc, NS, ka, kn, kc, KS, op⟩ := h
        obtain ⟨kd, ki, kb, kt, kna, knn, knc, kka, kkn, kkc, kfp, khv⟩ := k
        simp only at h5 h9 ha hn hnc hnk hk ⊢
        have hcw : ∀ (p : Nat) u, K.cells[p]? = some u → w'.cell? ⟨g, p, none⟩ = some u := fun p u hu => keepB hb (hF g hg) (hc p u hu)
        have hgw : g < w'.heap.size := Nat.lt_of_lt_of_le (hF g hg) hb.size
        have hin : 0 ≤ findK NS KS kt → findK NS KS kt < (ln : Int) := fun h0 => by
          rcases findK_cases NS KS kt (hk.2.2.2.1 (Or.inr h9)) with ⟨h1, _⟩ | ⟨p, k, _, h2, h3, _⟩
          · omega
          · rw [h3, hln2]
            exact (hk.2.2.1 k (List.mem_of_getElem? h2)).2
        exact ⟨vhas_tag w' la ln lc HS hHw hln j hd na nn nc NS ka kn kc KS op hh kd ki kb kt kna knn knc kka kkn kkc kfp khv K g (hasB HS v (findK NS KS kt)) h9 h5 (hnk (Or.inr h9)) hk.2.1 ha hn hnc hgw hcw (fun h0 w'' hb'' => (ih w'' (hb.trans (hb''.mono hb.size)) _ h0 (hin h0)).1),
          lhas_tag w' la ln lc HS hHw hln j hd na nn nc NS ka kn kc KS op hh kd ki kb kt kna knn knc kka kkn kkc kfp khv K g (hasB HS v (findK NS KS kt)) h9 h5 (hnk (Or.inr h9)) ha hn hnc hgw hcw (fun k hk' => (hk.2.2.1 k hk').1) (fun h0 w'' hb'' => (ih w'' (hb.trans (hb''.mono hb.size)) _ h0 (hin h0)).2)⟩
      · rw [if_neg h9]
        obtain ⟨hd, na, nn, nc, NS, ka, kn, kc, KS, op⟩ := h
        obtain ⟨kd, ki, kb, kt, kna, knn, knc, kka, kkn, kkc, kfp, khv⟩ := k
        simp only at h5 h9 h8 hk
        subst h5
        exact ⟨vhas_simple w' la ln lc HS hHw hln j hd na nn nc NS ka kn kc KS op hh 5 ki kb kt kna knn knc kka kkn kkc kfp khv h8 (fun h => absurd h h9) hk.1, lhas_simple w' la ln lc HS hHw hln j hd na nn nc NS ka kn kc KS op hh 5 ki kb kt kna knn knc kka kkn kkc kfp khv (fun h => absurd h h8) (fun h => absurd h h9) hk.1⟩
  | record k base E v hs h4 hn hk' hl hR hN hK hv ih =>
    intro w' hb i hi0 hil
    obtain ⟨j, rfl⟩ : ∃ j : Nat, i = (j : Int) := ⟨i.toNat, by omega⟩
    obtain ⟨h, hh⟩ : ∃ h, HS[j]? = some h := ⟨_, List.getElem?_eq_getElem (by rw [← hH.1]; omega)⟩
    have hk := head_kind (hok h (List.mem_of_getElem? hh))
    have he : hasB HS (.record (Val.names E) v) (j : Int) = if h.kd = 8 then (List.range h.NS.length).all (fun n => (List.range (Val.names E).length).any (fun j => decide ((Val.names E)[j]? = h.NS[n]?) && hasB HS (v j) (h.KS.getD n 0))) else leafB h.kd 4 := by
      rw [hasB, Int.toNat_natCast, hh]
    rw [he]
    have hHw := hH.on hb
    have hokw := hHw.ok hh
    have hnk := fun e => nn_kn hokw (hk.2.2.2.1 e)
    have hln2 := hH.1
    have hnl : (Val.names E).length = E.length := by simp [Val.names]
    by_cases h8 : h.kd = 8
    · rw [if_pos h8]
      have hNS := hokw.names.1
      have hlen := hk.2.2.2.1 (Or.inl h8)
      have hRw : Val.RecOf w' base k.na k.nc k.ka k.kc E := hR.on (fun b hb' => hb.block b hb')
      obtain ⟨hd, na, nn, nc, NS, ka, kn, kc, KS, op⟩ := h
      obtain ⟨kd, ki, kb, kt, kna, knn, knc, kka, kkn, kkc, kfp, khv⟩ := k
      simp only at h4 h8 hn hk' hnk hk hNS hlen hRw ⊢
      have hkin : ∀ (n : Nat) k, KS[n]? = some k → 0 ≤ k ∧ k < (ln : Int) := fun n k h => by
        have := hk.2.2.1 k (List.mem_of_getElem? h)
        rw [hln2]; exact this
      constructor
      · have := vhas_rec w' la ln lc HS hHw hln j hd na nn nc NS ka kn kc KS op hh kd ki kb kt kna knn knc kka kkn kkc kfp khv (fun n => match NS[n]? with | some s => Val.getE E s | none => none) (fun n => match NS[n]? with | some s => hasB HS (v (Val.lowP E s)) (KS.getD n 0) | none => false) h8 (hnk (Or.inl h8)) (fun n s hs w'' hb'' => by
          simp only [hs]
          have hRw2 : Val.RecOf w'' base kna knc kka kkc E := hRw.on (fun b hb' => hb''.block b hb')
          cases hg : Val.getE E s with
          | none =>
            rw [h4]
            exact Val.field_miss w'' base ki kb khv kt kfp kna kka knc kkc E.length E s rfl hl hRw2 hg |> fun x => by rw [hn, hk']; exact x
          | some kk =>
            rw [h4]
            exact Val.field_hit w'' base ki kb khv kt kfp kna kka knc kkc E.length E s kk rfl hl hRw2 hg |> fun x => by rw [hn, hk']; exact x) (fun n kk k hf hk2 w'' hb'' => by
          cases hs : NS[n]? with
          | none => simp only [hs] at hf; cases hf
          | some s =>
            simp only [hs] at hf ⊢
            have hp := Val.get_at E s hR.rises kk hf
            have hin := hkin n k hk2
            have hgd : KS.getD n 0 = k := by rw [List.getD_eq_getElem?_getD, hk2]; rfl
            rw [hgd]
            exact (ih _ _ hp w'' (hb.trans (hb''.mono hb.size)) k hin.1 hin.2).1)
        rw [h4] at this
        have h2 : (if ((List.range nn).all fun n => (match NS[n]? with | some s => Val.getE E s | none => none).isSome && (match NS[n]? with | some s => hasB HS (v (Val.lowP E s)) (KS.getD n 0) | none => false)) = true then (4 : Int) == 4 else false) = (List.range NS.length).all (fun n => (List.range (Val.names E).length).any (fun j => decide ((Val.names E)[j]? = NS[n]?) && hasB HS (v j) (KS.getD n 0))) := by
          rw [if44, hNS]
          refine all_congr (fun n hn' => ?_)
          obtain ⟨s, hs⟩ : ∃ s, NS[n]? = some s := ⟨_, List.getElem?_eq_getElem (List.mem_range.1 hn')⟩
          rw [hs]
          exact (any_name E hR.rises s (fun j => hasB HS (v j) (KS.getD n 0))).symm
        rw [h2] at this
        rw [h4]
        exact this
      · have hvn := own_cells (show w'.ownsRow base 9 1 (.slice kna E.length knc) E.length ((Val.names E).map Value.string) from hRw.nm)
        have hvk := own_cells (show w'.ownsRow base 70 8 (.slice kka E.length kkc) E.length (Val.cells E) from hRw.kd)
        obtain ⟨gn, hvn1, hvn2⟩ : ∃ gn, (E.length = 0 ∨ (kna = some ⟨gn, 0, none⟩ ∧ gn < w'.heap.size)) ∧ ∀ (p : Nat) s, (Val.names E)[p]? = some s → w'.cell? ⟨gn, p, none⟩ = some (.string s) := by
          rcases hvn with h0 | ⟨g, cur, e1, e2, e3, e4⟩
          · exact ⟨0, Or.inl h0, fun p s h => by
              have := (List.getElem?_eq_some_iff.1 h).1
              omega⟩
          · exact ⟨g, Or.inr ⟨e1, e2⟩, fun p s h => by
              rw [cell_of_row _ _ p _ 9 _ e3]
              exact row_at e4 (by rw [List.getElem?_map, h]; rfl)⟩
        obtain ⟨gk, hvk1, hvk2⟩ : ∃ gk, (E.length = 0 ∨ (kka = some ⟨gk, 0, none⟩ ∧ gk < w'.heap.size)) ∧ ∀ (p q : Nat) u, p < E.length → ((E[p]?.map (·.2)).getD kid0).cells[q]? = some u → w'.cell? ⟨gk, p * 8 + q, none⟩ = some u := by
          rcases hvk with h0 | ⟨g, cur, e1, e2, e3, e4⟩
          · exact ⟨0, Or.inl h0, fun p q u h => by omega⟩
          · exact ⟨g, Or.inr ⟨e1, e2⟩, fun p q u hp h => by
              rw [cell_of_row _ _ (p * 8 + q) _ 70 _ e3]
              rw [List.getElem?_eq_getElem hp] at h
              exact row_at e4 (Val.cellE E p E[p] q u (List.getElem?_eq_getElem hp) h)⟩
        have := lhas_rec w' la ln lc HS hHw hln j hd na nn nc NS ka kn kc KS op hh kd ki kb kt kna knn knc kka kkn kkc kfp khv (fun p => (E[p]?.map (·.2)).getD kid0) gn gk (Val.names E) (fun p n => hasB HS (v p) (KS.getD n 0)) h8 h4 (hnk (Or.inl h8)) (by rw [hn, hnl]) (by rw [hk', hnl]) (by rw [hn]; exact hl) (by rw [hn]; exact hvn1) (by rw [hk']; exact hvk1) hvn2 (fun p q u h1 h2 => hvk2 p q u (by rw [← hk']; exact h1) h2) (fun p n s k h1 h2 h3 w'' hb'' => by
          obtain ⟨kk, hkk⟩ := (names_at E p s).1 h1
          have hin := hkin n k h3
          have hgd : KS.getD n 0 = k := by rw [List.getD_eq_getElem?_getD, h3]; rfl
          rw [hgd, hkk]
          exact (ih p _ hkk w'' (hb.trans (hb''.mono hb.size)) k hin.1 hin.2).2)
        rw [hNS] at this
        exact this
    · rw [if_neg h8]
      obtain ⟨hd, na, nn, nc, NS, ka, kn, kc, KS, op⟩ := h
      obtain ⟨kd, ki, kb, kt, kna, knn, knc, kka, kkn, kkc, kfp, khv⟩ := k
      simp only at h4 h8 hk
      subst h4
      exact ⟨vhas_simple w' la ln lc HS hHw hln j hd na nn nc NS ka kn kc KS op hh 4 ki kb kt kna knn knc kka kkn kkc kfp khv h8 (fun _ => by decide) hk.1, lhas_simple w' la ln lc HS hHw hln j hd na nn nc NS ka kn kc KS op hh 4 ki kb kt kna knn knc kka kkn kkc kfp khv (fun h => absurd h h8) (fun _ => by decide) hk.1⟩
end Go.Proofs.YtoakfninndkgaaaGreatDoor
set_option linter.unusedVariables false
namespace Go.Proofs.YtoakfninndkgaaaGreatDoor
open Go.RowKit
theorem split32 (d : UInt8) : ∀ (a b x y : List UInt8), (∀ c ∈ a, c ≠ d) → (∀ c ∈ b, c ≠ d) → (x = [] ∨ x.head? = some d) → (y = [] ∨ y.head? = some d) → a ++ x = b ++ y → a = b ∧ x = y
  | [], [], x, y, _, _, _, _, h => ⟨rfl, by simpa using h⟩
  | [], c :: b, x, y, _, hb, hx, _, h => by
    rcases hx with rfl | hx
    · simp at h
    · rw [List.nil_append] at h
      rw [h] at hx
      simp at hx
      exact absurd hx (hb c (by simp))
  | c :: a, [], x, y, ha, _, _, hy, h => by
    rcases hy with rfl | hy
    · simp at h
    · rw [List.nil_append] at h
      rw [← h] at hy
      simp at hy
      exact absurd hy (ha c (by simp))
  | c :: a, c' :: b, x, y, ha, hb, hx, hy, h => by
    simp only [List.cons_append, List.cons.injEq] at h
    obtain ⟨h1, h2⟩ := split32 d a b x y (fun e he => ha e (by simp [he])) (fun e he => hb e (by simp [he])) hx hy h.2
    exact ⟨by rw [h.1, h1], h2⟩
/-- a head's key: its sign, and numbers. -/
def keyB (sg : ByteArray) (cs : List Nat) : ByteArray := cs.foldl (fun acc c => acc ++ ((⟨#[32]⟩ : ByteArray) ++ itoaB c)) sg
def numL (cs : List Nat) : List UInt8 := cs.flatMap fun c => 32 :: decL c
theorem keyB_list : ∀ (cs : List Nat) (sg : ByteArray), (∀ c ∈ cs, c < 100) → (keyB sg cs).data.toList = sg.data.toList ++ numL cs
  | [], sg, _ => by simp [keyB, numL]
  | c :: cs, sg, h => by
    have := keyB_list cs (sg ++ ((⟨#[32]⟩ : ByteArray) ++ itoaB c)) (fun x hx => h x (by simp [hx]))
    unfold keyB at *
    rw [List.foldl_cons, this, ByteArray.data_append, ByteArray.data_append, Array.toList_append, Array.toList_append, itoa_dec c (h c (by simp))]
    simp [numL]
theorem num_inj : ∀ (a b : List Nat), (∀ c ∈ a, c < 100) → (∀ c ∈ b, c < 100) → numL a = numL b → a = b
  | [], [], _, _, _ => rfl
  | [], c :: b, _, _, h => by simp [numL] at h
  | c :: a, [], _, _, h => by simp [numL] at h
  | c :: a, d :: b, ha, hb, h => by
    have e : ∀ (c : Nat) (a : List Nat), numL (c :: a) = 32 :: (decL c ++ numL a) := fun c a => by simp [numL]
    have hd : ∀ a : List Nat, numL a = [] ∨ (numL a).head? = some 32 := fun a => by
      cases a with
      | nil => exact Or.inl rfl
      | cons c a => rw [e]; exact Or.inr rfl
    rw [e, e] at h
    simp only [List.cons.injEq, true_and] at h
    obtain ⟨h1, h2⟩ := split32 32 _ _ _ _ (dec_plain (ha c (by simp))) (dec_plain (hb d (by simp))) (hd a) (hd b) h
    rw [dec_inj (ha c (by simp)) (hb d (by simp)) h1, num_inj a b (fun x hx => ha x (by simp [hx])) (fun x hx => hb x (by simp [hx])) h2]
theorem key_inj {s t : ByteArray} {a b : List Nat} (hs : ∀ c ∈ s.data.toList, c ≠ 32) (ht : ∀ c ∈ t.data.toList, c ≠ 32) (ha : ∀ c ∈ a, c < 100) (hb : ∀ c ∈ b, c < 100) (h : keyB s a = keyB t b) : s = t ∧ a = b := by
  have h1 := congrArg (fun x : ByteArray => x.data.toList) h
  simp only [keyB_list a s ha, keyB_list b t hb] at h1
  have hd : ∀ a : List Nat, numL a = [] ∨ (numL a).head? = some 32 := fun a => by
    cases a with
    | nil => exact Or.inl rfl
    | cons c a => exact Or.inr (by simp [numL])
  obtain ⟨h2, h3⟩ := split32 32 _ _ _ _ hs ht (hd a) (hd b) h1
  exact ⟨ByteArray.ext (Array.toList_inj.1 h2), num_inj a b ha hb h3⟩
/-- a sign's bytes. -/
def namesL (NS : List ByteArray) : List UInt8 := NS.flatMap fun s => s.data.toList ++ [58]
theorem sign_list (kd : Int) (op : Bool) (NS : List ByteArray) : (signB kd op NS).data.toList = (signHead kd op).data.toList ++ namesL NS := by
  unfold signB
  have : ∀ (NS : List ByteArray) (a : ByteArray), (NS.foldl (fun acc s => acc ++ nmB s) a).data.toList = a.data.toList ++ namesL NS := by
    intro NS
    induction NS with
    | nil => intro a; simp [namesL]
    | cons s l ih =>
      intro a
      rw [List.foldl_cons, ih]
      unfold nmB
      rw [ByteArray.data_append, ByteArray.data_append, Array.toList_append, Array.toList_append]
      simp [namesL]
  exact this NS _
theorem tag_bytes (l : List UInt8) (h : tagL l = true) : ∀ c ∈ l, c ≠ 58 ∧ c ≠ 32 := by
  have hin : ∀ c, inB c = true → c ≠ 58 ∧ c ≠ 32 := fun c hc => by
    constructor <;> intro e <;> subst e <;> revert hc <;> decide
  cases l with
  | nil => simp [tagL] at h
  | cons c l =>
    simp only [tagL, Bool.and_eq_true, List.all_eq_true] at h
    intro x hx
    rcases List.mem_cons.1 hx with rfl | hx
    · exact hin x (by simp [inB, h.1])
    · exact hin x (h.2 x hx)
theorem names_inj : ∀ (A B : List ByteArray), (∀ s ∈ A, ∀ c ∈ s.data.toList, c ≠ 58) → (∀ s ∈ B, ∀ c ∈ s.data.toList, c ≠ 58) → namesL A = namesL B → A = B
  | [], [], _, _, _ => rfl
  | [], s :: B, _, _, h => by simp [namesL] at h
  | s :: A, [], _, _, h => by simp [namesL] at h
  | s :: A, t :: B, ha, hb, h => by
    have e : ∀ (s : ByteArray) (a : List ByteArray), namesL (s :: a) = s.data.toList ++ (58 :: namesL a) := fun s a => by simp [namesL]
    rw [e, e] at h
    obtain ⟨h1, h2⟩ := split32 58 _ _ _ _ (ha s (by simp)) (hb t (by simp)) (Or.inr rfl) (Or.inr rfl) h
    simp only [List.cons.injEq, true_and] at h2
    rw [ByteArray.ext (Array.toList_inj.1 h1), names_inj A B (fun x hx => ha x (by simp [hx])) (fun x hx => hb x (by simp [hx])) h2]
theorem head_names {h : Hd} {n : Int} (e : headB h.kd h.op n h.NS h.KS = true) : ∀ s ∈ h.NS, tagL s.data.toList = true := by
  intro s hs
  have hk := head_kind e
  unfold headB at e
  simp only [Bool.and_eq_true, bne_iff_ne] at e
  have e4 := e.2
  unfold typB at e4
  by_cases h0 : h.op = true ∧ h.kd ≠ 9
  · rw [if_pos h0] at e4; cases e4
  rw [if_neg h0] at e4
  by_cases h7 : h.kd = 7
  · have := (hk.2.2.2.2.1 h7).1
    rw [List.eq_nil_of_length_eq_zero this] at hs; cases hs
  rw [if_neg h7] at e4
  by_cases h8 : h.kd = 8
  · rw [if_pos h8] at e4
    simp only [Bool.and_eq_true, List.all_eq_true] at e4
    have := e4.2 s hs
    unfold nameL at this
    simp only [Bool.and_eq_true] at this
    exact this.1
  rw [if_neg h8] at e4
  by_cases h9 : h.kd = 9
  · rw [if_pos h9] at e4
    simp only [Bool.and_eq_true, List.all_eq_true] at e4
    exact e4.2 s hs
  · have := (hk.2.2.2.2.2.1 (by omega)).1
    rw [List.eq_nil_of_length_eq_zero this] at hs; cases hs
theorem sign_inj {h k : Hd} {n m : Int} (e : headB h.kd h.op n h.NS h.KS = true) (f : headB k.kd k.op m k.NS k.KS = true) (hs : signB h.kd h.op h.NS = signB k.kd k.op k.NS) : h.kd = k.kd ∧ h.op = k.op ∧ h.NS = k.NS := by
  have h1 := congrArg (fun x : ByteArray => x.data.toList) hs
  simp only [sign_list] at h1
  have hk := head_kind e
  have hk2 := head_kind f
  have hd : ∀ (kd : Int) (op : Bool), ∃ c, (signHead kd op).data.toList = [c] ∧ c = (if op then 93 else kindL.getD kd.toNat 0) := fun kd op => by
    unfold signHead
    cases op
    · exact ⟨_, rfl, rfl⟩
    · exact ⟨_, rfl, rfl⟩
  obtain ⟨c, e1, e2⟩ := hd h.kd h.op
  obtain ⟨d, f1, f2⟩ := hd k.kd k.op
  rw [e1, f1] at h1
  simp only [List.cons_append, List.nil_append, List.cons.injEq] at h1
  have hn := names_inj _ _ (fun s hs c hc => (tag_bytes _ (head_names e s hs) c hc).1) (fun s hs c hc => (tag_bytes _ (head_names f s hs) c hc).1) h1.2
  have hcd := h1.1
  rw [e2, f2] at hcd
  obtain ⟨a, ha⟩ : ∃ a : Nat, h.kd = (a : Int) := ⟨h.kd.toNat, by omega⟩
  obtain ⟨b, hb⟩ : ∃ b : Nat, k.kd = (b : Int) := ⟨k.kd.toNat, by omega⟩
  have hop1 := hk.2.2.2.2.2.2
  have hop2 := hk2.2.2.2.2.2.2
  rw [ha] at hcd hop1 hk
  rw [hb] at hcd hop2 hk2
  have hall : ((List.range 10).all fun a => (List.range 10).all fun b => [true, false].all fun o => [true, false].all fun p => !((!o || a == 9) && (!p || b == 9) && ((if o then (93 : UInt8) else kindL.getD a 0) == (if p then (93 : UInt8) else kindL.getD b 0))) || (a == b && o == p)) = true := by decide +kernel
  have ho : ∀ o : Bool, o ∈ [true, false] := by intro o; cases o <;> simp
  have h9 := List.all_eq_true.1 (List.all_eq_true.1 (List.all_eq_true.1 (List.all_eq_true.1 hall a (List.mem_range.2 (by omega))) b (List.mem_range.2 (by omega))) h.op (ho _)) k.op (ho _)
  have g1 : (!h.op || a == 9) = true := by
    cases ho1 : h.op
    · rfl
    · have := hop1 ho1; simp; omega
  have g2 : (!k.op || b == 9) = true := by
    cases ho1 : k.op
    · rfl
    · have := hop2 ho1; simp; omega
  rw [g1, g2] at h9
  simp only [Int.toNat_natCast] at hcd
  rw [hcd] at h9
  simp at h9
  exact ⟨by rw [ha, hb, h9.1], h9.2, hn⟩
theorem sign_plain {h : Hd} {n : Int} (e : headB h.kd h.op n h.NS h.KS = true) : ∀ c ∈ (signB h.kd h.op h.NS).data.toList, c ≠ 32 := by
  rw [sign_list]
  intro c hc
  rcases List.mem_append.1 hc with hc | hc
  · have hk := head_kind e
    obtain ⟨a, ha⟩ : ∃ a : Nat, h.kd = (a : Int) := ⟨h.kd.toNat, by omega⟩
    have hall : ((List.range 10).all fun a => kindL.getD a 0 != 32) = true := by decide +kernel
    have := List.all_eq_true.1 hall a (List.mem_range.2 (by omega))
    unfold signHead at hc
    rw [ha, Int.toNat_natCast] at hc
    cases hop : h.op
    · rw [hop] at hc
      simp at hc
      rw [hc]
      simpa using this
    · rw [hop] at hc
      simp at hc
      rw [hc]; decide
  · unfold namesL at hc
    simp only [List.mem_flatMap] at hc
    obtain ⟨s, hs, hc⟩ := hc
    rcases List.mem_append.1 hc with hc | hc
    · exact (tag_bytes _ (head_names e s hs) c hc).2
    · simp at hc; rw [hc]; decide
end Go.Proofs.YtoakfninndkgaaaGreatDoor
