/- Walks: the law's own has. -/
import Derived.Test.YtoakfninndkgaaaGreatDoorNz
set_option linter.unusedVariables false
namespace Go.Proofs.YtoakfninndkgaaaGreatDoor
open Go.RowKit
set_option maxRecDepth 20000 in
set_option maxHeartbeats 4000000 in
theorem lhas_simple (w : World) (la : Option Addr) (ln lc : Nat) (HS : List Hd) (hH : HeadsIn w la ln HS) (hln : (ln : Int) ≤ 100000) (i : Nat) (hd : Int) (na : Option Addr) (nn nc : Nat) (NS : List ByteArray) (ka : Option Addr) (kn kc : Nat) (KS : List Int) (op : Bool) (hi : HS[i]? = some ⟨hd, na, nn, nc, NS, ka, kn, kc, KS, op⟩) (kd ki kb : Int) (kt : ByteArray) (kna : Option Addr) (knn knc : Nat) (kka : Option Addr) (kkn kkc : Nat) (kfp : Option Addr) (khv : Int) (h8 : hd = 8 → kd ≠ 4) (h9 : hd = 9 → kd ≠ 5) (hr : 0 ≤ hd ∧ hd ≤ 9) :
    Calls Tryz.prog 31 #[.agg #[.int .i64 kd, .int .i64 ki, .int .u64 kb, .string kt, .slice kna knn knc, .slice kka kkn kkc, .pointer kfp, .int .i64 khv], .slice la ln lc, .int .i64 (i : Int)] w (BoolPost w (leafB hd kd)) := by
  have H9 := Lib.hid h9
  have H8 := Lib.hid h8
  clear h8 h9
  have HL := Lib.hid hH.1
  have HH := Lib.hid hi
  have hil : i < ln := by rw [hH.1]; exact (List.getElem?_eq_some_iff.1 hi).1
  have hil2 : (i : Int) < ln := by omega
  obtain ⟨g, o, rfl, hg, hc⟩ := hH.2.resolve_left (by omega)
  have hin := hc i _ hi
  have HOK := Lib.hid hin.ok
  have HG := Lib.hid hg
  have hxb : (w.alloc (.cells #[.int .i64 kd, .int .i64 ki, .int .u64 kb, .string kt, .slice kna knn knc, .slice kka kkn kkc, .pointer kfp, .int .i64 khv] 70)).heap[w.heap.size]? = some (.cells #[.int .i64 kd, .int .i64 ki, .int .u64 kb, .string kt, .slice kna knn knc, .slice kka kkn kkc, .pointer kfp, .int .i64 khv] 70 (0, 0)) := heap_alloc_new w _
  have HXB := Lib.hid hxb
  have HBA : Hid (Below w.heap.size w (w.alloc (.cells #[.int .i64 kd, .int .i64 ki, .int .u64 kb, .string kt, .slice kna knn knc, .slice kka kkn kkc, .pointer kfp, .int .i64 khv] 70))) := Lib.hid ((Below.refl _ _).alloc (Nat.le_refl _) _)
  have h0 : (w.alloc (.cells #[.int .i64 kd, .int .i64 ki, .int .u64 kb, .string kt, .slice kna knn knc, .slice kka kkn kkc, .pointer kfp, .int .i64 khv] 70)).cell? ⟨g, o + i * 4, none⟩ = some (.int .i64 hd) := keepB HBA.out hg hin.c0
  have h1 : (w.alloc (.cells #[.int .i64 kd, .int .i64 ki, .int .u64 kb, .string kt, .slice kna knn knc, .slice kka kkn kkc, .pointer kfp, .int .i64 khv] 70)).cell? ⟨g, o + i * 4 + 1, none⟩ = some (.slice na nn nc) := keepB HBA.out hg hin.c1
  have h2 : (w.alloc (.cells #[.int .i64 kd, .int .i64 ki, .int .u64 kb, .string kt, .slice kna knn knc, .slice kka kkn kkc, .pointer kfp, .int .i64 khv] 70)).cell? ⟨g, o + i * 4 + 2, none⟩ = some (.slice ka kn kc) := keepB HBA.out hg hin.c2
  have h3 : (w.alloc (.cells #[.int .i64 kd, .int .i64 ki, .int .u64 kb, .string kt, .slice kna knn knc, .slice kka kkn kkc, .pointer kfp, .int .i64 khv] 70)).cell? ⟨g, o + i * 4 + 3, none⟩ = some (.bool op) := keepB HBA.out hg hin.c3
  clear hxb hc hg hin hi hH
  go_enter Tryz.func31, Tryz.ntmps31
  go_upto_region 1 with (fail)
  generalize (w.alloc (.cells #[.int .i64 kd, .int .i64 ki, .int .u64 kb, .string kt, .slice kna knn knc, .slice kka kkn kkc, .pointer kfp, .int .i64 khv] 70)) = w1 at *
  have HXL : Hid (w.heap.size < w1.heap.size) := Lib.hid (Array.getElem?_eq_some_iff.1 HXB.out).1
  have hy : (w1.alloc (.cells #[.int .i64 hd, .slice na nn nc, .slice ka kn kc, .bool op] 38)).heap[w1.heap.size]? = some (.cells #[.int .i64 hd, .slice na nn nc, .slice ka kn kc, .bool op] 38 (0, 0)) := heap_alloc_new w1 _
  have HY := Lib.hid hy
  have HBY : Hid (Below w1.heap.size w1 (w1.alloc (.cells #[.int .i64 hd, .slice na nn nc, .slice ka kn kc, .bool op] 38))) := Lib.hid ((Below.refl _ _).alloc (Nat.le_refl _) _)
  clear hy
  go_upto_region 2 with (fail)
  clear h0 h1 h2 h3
  generalize (w1.alloc (.cells #[.int .i64 hd, .slice na nn nc, .slice ka kn kc, .bool op] 38)) = w2 at *
  have HYL : Hid (w1.heap.size < w2.heap.size) := Lib.hid (Array.getElem?_eq_some_iff.1 HY.out).1
  have HXB2 := Lib.hid ((HBY.out.block _ HXL.out).trans HXB.out)
  have HBZ : Hid (Below w.heap.size w w2) := Lib.hid (HBA.out.trans (HBY.out.mono HBA.out.size))
  have b0 : w2.cell? ⟨w1.heap.size, 0, none⟩ = some (.int .i64 hd) := (by rw [cell_of_row _ _ 0 _ 38 _ HY.out]; rfl)
  have b1 : w2.cell? ⟨w1.heap.size, 1, none⟩ = some (.slice na nn nc) := (by rw [cell_of_row _ _ 1 _ 38 _ HY.out]; rfl)
  have b2 : w2.cell? ⟨w1.heap.size, 2, none⟩ = some (.slice ka kn kc) := (by rw [cell_of_row _ _ 2 _ 38 _ HY.out]; rfl)
  have b3 : w2.cell? ⟨w1.heap.size, 3, none⟩ = some (.bool op) := (by rw [cell_of_row _ _ 3 _ 38 _ HY.out]; rfl)
  have v0 : w2.cell? ⟨w.heap.size, 0, none⟩ = some (.int .i64 kd) := (by rw [cell_of_row _ _ 0 _ 70 _ HXB2.out]; rfl)
  have v1 : w2.cell? ⟨w.heap.size, 1, none⟩ = some (.int .i64 ki) := (by rw [cell_of_row _ _ 1 _ 70 _ HXB2.out]; rfl)
  have v2 : w2.cell? ⟨w.heap.size, 2, none⟩ = some (.int .u64 kb) := (by rw [cell_of_row _ _ 2 _ 70 _ HXB2.out]; rfl)
  have v3 : w2.cell? ⟨w.heap.size, 3, none⟩ = some (.string kt) := (by rw [cell_of_row _ _ 3 _ 70 _ HXB2.out]; rfl)
  have v4 : w2.cell? ⟨w.heap.size, 4, none⟩ = some (.slice kna knn knc) := (by rw [cell_of_row _ _ 4 _ 70 _ HXB2.out]; rfl)
  have v5 : w2.cell? ⟨w.heap.size, 5, none⟩ = some (.slice kka kkn kkc) := (by rw [cell_of_row _ _ 5 _ 70 _ HXB2.out]; rfl)
  have v6 : w2.cell? ⟨w.heap.size, 6, none⟩ = some (.pointer kfp) := (by rw [cell_of_row _ _ 6 _ 70 _ HXB2.out]; rfl)
  have v7 : w2.cell? ⟨w.heap.size, 7, none⟩ = some (.int .i64 khv) := (by rw [cell_of_row _ _ 7 _ 70 _ HXB2.out]; rfl)
  rcases (by omega : hd = 5 ∨ hd = 0 ∨ hd = 1 ∨ hd = 2 ∨ hd = 3 ∨ hd = 7 ∨ hd = 4 ∨ hd = 6 ∨ hd = 9 ∨ hd = 8) with rfl | rfl | rfl | rfl | rfl | rfl | rfl | rfl | rfl | rfl
  · go_wp2
    go_ret
    exact ⟨rfl, HBZ.out⟩
  · go_wp2
    go_ret
    exact ⟨rfl, HBZ.out⟩
  · go_wp2
    go_ret
    exact ⟨rfl, HBZ.out⟩
  · go_wp2
    go_ret
    exact ⟨rfl, HBZ.out⟩
  · go_wp2
    go_ret
    exact ⟨rfl, HBZ.out⟩
  · go_wp2
    go_ret
    exact ⟨rfl, HBZ.out⟩
  · go_wp2
    go_ret
    exact ⟨rfl, HBZ.out⟩
  · go_wp2
    go_ret
    exact ⟨rfl, HBZ.out⟩
  · have h5 : (kd == 5) = false := by simpa using H9.out rfl
    go_wp2
    go_ret
    exact ⟨rfl, HBZ.out⟩
  · have h5 : (kd == 4) = false := by simpa using H8.out rfl
    go_wp2
    go_ret
    exact ⟨rfl, HBZ.out⟩
set_option maxRecDepth 20000 in
set_option maxHeartbeats 4000000 in
theorem lhas_rec (w : World) (la : Option Addr) (ln lc : Nat) (HS : List Hd) (hH : HeadsIn w la ln HS) (hln : (ln : Int) ≤ 100000) (i : Nat) (hd : Int) (na : Option Addr) (nn nc : Nat) (NS : List ByteArray) (ka : Option Addr) (kn kc : Nat) (KS : List Int) (op : Bool) (hi : HS[i]? = some ⟨hd, na, nn, nc, NS, ka, kn, kc, KS, op⟩) (kd ki kb : Int) (kt : ByteArray) (kna : Option Addr) (knn knc : Nat) (kka : Option Addr) (kkn kkc : Nat) (kfp : Option Addr) (khv : Int) (K : Nat → Val.Kid) (gvn gvk : Nat) (NV : List ByteArray) (res : Nat → Nat → Bool) (h8 : hd = 8) (h4 : kd = 4) (hN' : nn = kn) (hm : knn = NV.length) (hmk : kkn = NV.length) (hm1 : knn ≤ 1000) (hvn : knn = 0 ∨ (kna = some ⟨gvn, 0, none⟩ ∧ gvn < w.heap.size)) (hvk : kkn = 0 ∨ (kka = some ⟨gvk, 0, none⟩ ∧ gvk < w.heap.size)) (hcn' : ∀ (p : Nat) s, NV[p]? = some s → w.cell? ⟨gvn, p, none⟩ = some (.string s)) (hck' : ∀ (p q : Nat) u, p < kkn → (K p).cells[q]? = some u → w.cell? ⟨gvk, p * 8 + q, none⟩ = some u)
    (hR : ∀ (p n : Nat) s k, NV[p]? = some s → NS[n]? = some s → KS[n]? = some k → ∀ w'', Below w.heap.size w w'' → Calls Tryz.prog 31 #[(K p).val, .slice la ln lc, .int .i64 k] w'' (BoolPost w'' (res p n))) :
    Calls Tryz.prog 31 #[.agg #[.int .i64 kd, .int .i64 ki, .int .u64 kb, .string kt, .slice kna knn knc, .slice kka kkn kkc, .pointer kfp, .int .i64 khv], .slice la ln lc, .int .i64 (i : Int)] w (BoolPost w ((List.range nn).all fun n => (List.range NV.length).any fun p => decide (NV[p]? = NS[n]?) && res p n)) := by
  obtain ⟨f, hf⟩ : ∃ f : Nat → Nat → Bool, f = fun n p => decide (NV[p]? = NS[n]?) && res p n := ⟨_, rfl⟩
  have HFE : Hid (∀ n p, f n p = (decide (NV[p]? = NS[n]?) && res p n)) := Lib.hid (fun n p => by rw [hf])
  have HRE : Hid (((List.range nn).all fun n => (List.range NV.length).any fun p => decide (NV[p]? = NS[n]?) && res p n) = (List.range nn).all fun n => (List.range NV.length).any (f n)) := Lib.hid (by rw [hf])
  generalize ((List.range nn).all fun n => (List.range NV.length).any fun p => decide (NV[p]? = NS[n]?) && res p n) = RR at *
  clear hf
  have HR := Lib.hid hR
  have HNK := Lib.hid hN'
  have HM := Lib.hid hm
  have HMK := Lib.hid hmk
  have HVN := Lib.hid hvn
  have HVK := Lib.hid hvk
  have HCN := Lib.hid hcn'
  have HCK := Lib.hid hck'
  have hm2 : (knn : Int) ≤ 1000 := by omega
  clear hR hN' hm hmk hvn hvk hcn' hck'
  subst h8 h4
  have HL := Lib.hid hH.1
  have HH := Lib.hid hi
  have hil : i < ln := by rw [hH.1]; exact (List.getElem?_eq_some_iff.1 hi).1
  have hil2 : (i : Int) < ln := by omega
  obtain ⟨g, o, rfl, hg, hc⟩ := hH.2.resolve_left (by omega)
  have hin := hc i _ hi
  have HOK := Lib.hid hin.ok
  have HG := Lib.hid hg
  have hxb : (w.alloc (.cells #[.int .i64 4, .int .i64 ki, .int .u64 kb, .string kt, .slice kna knn knc, .slice kka kkn kkc, .pointer kfp, .int .i64 khv] 70)).heap[w.heap.size]? = some (.cells #[.int .i64 4, .int .i64 ki, .int .u64 kb, .string kt, .slice kna knn knc, .slice kka kkn kkc, .pointer kfp, .int .i64 khv] 70 (0, 0)) := heap_alloc_new w _
  have HXB := Lib.hid hxb
  have HBA : Hid (Below w.heap.size w (w.alloc (.cells #[.int .i64 4, .int .i64 ki, .int .u64 kb, .string kt, .slice kna knn knc, .slice kka kkn kkc, .pointer kfp, .int .i64 khv] 70))) := Lib.hid ((Below.refl _ _).alloc (Nat.le_refl _) _)
  have h0 : (w.alloc (.cells #[.int .i64 4, .int .i64 ki, .int .u64 kb, .string kt, .slice kna knn knc, .slice kka kkn kkc, .pointer kfp, .int .i64 khv] 70)).cell? ⟨g, o + i * 4, none⟩ = some (.int .i64 8) := keepB HBA.out hg hin.c0
  have h1 : (w.alloc (.cells #[.int .i64 4, .int .i64 ki, .int .u64 kb, .string kt, .slice kna knn knc, .slice kka kkn kkc, .pointer kfp, .int .i64 khv] 70)).cell? ⟨g, o + i * 4 + 1, none⟩ = some (.slice na nn nc) := keepB HBA.out hg hin.c1
  have h2 : (w.alloc (.cells #[.int .i64 4, .int .i64 ki, .int .u64 kb, .string kt, .slice kna knn knc, .slice kka kkn kkc, .pointer kfp, .int .i64 khv] 70)).cell? ⟨g, o + i * 4 + 2, none⟩ = some (.slice ka kn kc) := keepB HBA.out hg hin.c2
  have h3 : (w.alloc (.cells #[.int .i64 4, .int .i64 ki, .int .u64 kb, .string kt, .slice kna knn knc, .slice kka kkn kkc, .pointer kfp, .int .i64 khv] 70)).cell? ⟨g, o + i * 4 + 3, none⟩ = some (.bool op) := keepB HBA.out hg hin.c3
  clear hxb hc hg hin hi hH
  go_enter Tryz.func31, Tryz.ntmps31
  go_upto_region 1 with (fail)
  generalize (w.alloc (.cells #[.int .i64 4, .int .i64 ki, .int .u64 kb, .string kt, .slice kna knn knc, .slice kka kkn kkc, .pointer kfp, .int .i64 khv] 70)) = w1 at *
  have HXL : Hid (w.heap.size < w1.heap.size) := Lib.hid (Array.getElem?_eq_some_iff.1 HXB.out).1
  have hy : (w1.alloc (.cells #[.int .i64 8, .slice na nn nc, .slice ka kn kc, .bool op] 38)).heap[w1.heap.size]? = some (.cells #[.int .i64 8, .slice na nn nc, .slice ka kn kc, .bool op] 38 (0, 0)) := heap_alloc_new w1 _
  have HY := Lib.hid hy
  have HBY : Hid (Below w1.heap.size w1 (w1.alloc (.cells #[.int .i64 8, .slice na nn nc, .slice ka kn kc, .bool op] 38))) := Lib.hid ((Below.refl _ _).alloc (Nat.le_refl _) _)
  clear hy
  go_upto_region 2 with (fail)
  clear h0 h1 h2 h3
  generalize (w1.alloc (.cells #[.int .i64 8, .slice na nn nc, .slice ka kn kc, .bool op] 38)) = w2 at *
  have HYL : Hid (w1.heap.size < w2.heap.size) := Lib.hid (Array.getElem?_eq_some_iff.1 HY.out).1
  have HXB2 := Lib.hid ((HBY.out.block _ HXL.out).trans HXB.out)
  have HBZ : Hid (Below w.heap.size w w2) := Lib.hid (HBA.out.trans (HBY.out.mono HBA.out.size))
  have b0 : w2.cell? ⟨w1.heap.size, 0, none⟩ = some (.int .i64 8) := (by rw [cell_of_row _ _ 0 _ 38 _ HY.out]; rfl)
  have b1 : w2.cell? ⟨w1.heap.size, 1, none⟩ = some (.slice na nn nc) := (by rw [cell_of_row _ _ 1 _ 38 _ HY.out]; rfl)
  have b2 : w2.cell? ⟨w1.heap.size, 2, none⟩ = some (.slice ka kn kc) := (by rw [cell_of_row _ _ 2 _ 38 _ HY.out]; rfl)
  have b3 : w2.cell? ⟨w1.heap.size, 3, none⟩ = some (.bool op) := (by rw [cell_of_row _ _ 3 _ 38 _ HY.out]; rfl)
  have v0 : w2.cell? ⟨w.heap.size, 0, none⟩ = some (.int .i64 4) := (by rw [cell_of_row _ _ 0 _ 70 _ HXB2.out]; rfl)
  have v1 : w2.cell? ⟨w.heap.size, 1, none⟩ = some (.int .i64 ki) := (by rw [cell_of_row _ _ 1 _ 70 _ HXB2.out]; rfl)
  have v2 : w2.cell? ⟨w.heap.size, 2, none⟩ = some (.int .u64 kb) := (by rw [cell_of_row _ _ 2 _ 70 _ HXB2.out]; rfl)
  have v3 : w2.cell? ⟨w.heap.size, 3, none⟩ = some (.string kt) := (by rw [cell_of_row _ _ 3 _ 70 _ HXB2.out]; rfl)
  have v4 : w2.cell? ⟨w.heap.size, 4, none⟩ = some (.slice kna knn knc) := (by rw [cell_of_row _ _ 4 _ 70 _ HXB2.out]; rfl)
  have v5 : w2.cell? ⟨w.heap.size, 5, none⟩ = some (.slice kka kkn kkc) := (by rw [cell_of_row _ _ 5 _ 70 _ HXB2.out]; rfl)
  have v6 : w2.cell? ⟨w.heap.size, 6, none⟩ = some (.pointer kfp) := (by rw [cell_of_row _ _ 6 _ 70 _ HXB2.out]; rfl)
  have v7 : w2.cell? ⟨w.heap.size, 7, none⟩ = some (.int .i64 khv) := (by rw [cell_of_row _ _ 7 _ 70 _ HXB2.out]; rfl)
  have HNM := Lib.hid (HOK.out.on HBZ.out).names
  have HKD := Lib.hid (HOK.out.on HBZ.out).kids
  have HNL := Lib.hid HOK.out.names.1
  have HKL := Lib.hid HOK.out.kids.1
  have hnb : (nn : Int) ≤ 100000 := (by have h9 := HOK.out.nnb; (try simp only at h9); omega)
  go_wp2
  go_loopw [51] (fun s51 wr => ∃ j : Nat, s51 = .int .i64 (j : Int) ∧ j ≤ nn ∧ Hid (Below w2.heap.size w2 wr) ∧ Hid (∀ n, n < j → ((List.range NV.length).any (f n)) = true)) (fun s51 _ => nn - (intOf s51).toNat)
  case atStart => exact ⟨0, rfl, Nat.zero_le _, Lib.hid (Below.refl _ _), Lib.hid (fun n hn => by omega)⟩
  case round =>
    obtain ⟨j, rfl, hj, HBR, HA⟩ := hrel
    obtain ⟨wo, rfl⟩ : ∃ wo : World, wo = wr := ⟨_, rfl⟩
    have hwj : IntKind.i64.wrap ((j : Int) + 1) = (j : Int) + 1 := by rw [IntKind.wrap_i64]; omega
    have HBQ : Hid (Below w.heap.size w wo) := Lib.hid (HBZ.out.trans (HBR.out.mono HBZ.out.size))
    have HYR := Lib.hid ((HBR.out.block _ HYL.out).trans HY.out)
    have HXR := Lib.hid ((HBR.out.block _ (Nat.lt_trans HXL.out HYL.out)).trans HXB2.out)
    have HSR := Lib.hid HBR.out.size
    have x4 : wo.cell? ⟨w.heap.size, 4, none⟩ = some (.slice kna knn knc) := (by rw [cell_of_row _ _ 4 _ 70 _ HXR.out]; rfl)
    have y1 : wo.cell? ⟨w1.heap.size, 1, none⟩ = some (.slice na nn nc) := (by rw [cell_of_row _ _ 1 _ 38 _ HYR.out]; rfl)
    by_cases hjn : j < nn
    · have hjn2 : (j : Int) < nn := by omega
      have hjn3 : (j : Int) < kn := by have := HNK.out; omega
      obtain ⟨s, hs⟩ : ∃ s, NS[j]? = some s := ⟨_, List.getElem?_eq_getElem (by have h9 := HNL.out; (try simp only at h9); rw [← h9]; exact hjn)⟩
      obtain ⟨k, hk⟩ : ∃ k, KS[j]? = some k := ⟨_, List.getElem?_eq_getElem (by have h9 := HKL.out; (try simp only at h9); rw [← h9, ← HNK.out]; exact hjn)⟩
      obtain ⟨gn, on, en, hgn, hcn⟩ := HNM.out.2.resolve_left (by (try simp only); omega)
      obtain ⟨gk, ok, ek, hgk, hck⟩ := HKD.out.2.resolve_left (by have := HNK.out; (try simp only); omega)
      (try simp only at en ek)
      have cs : wo.cell? ⟨gn, on + j, none⟩ = some (.string s) := keepB HBR.out hgn (hcn j s hs)
      have ck0 : wo.cell? ⟨gk, ok + j, none⟩ = some (.int .i64 k) := keepB HBR.out hgk (hck j k hk)
      have HCKO := Lib.hid ck0
      have HGK : Hid (gk < wo.heap.size) := Lib.hid (Nat.lt_of_lt_of_le hgk HBR.out.size)
      have HSJ := Lib.hid hs
      have HKJ := Lib.hid hk
      clear hs hk hcn hck hgn hgk ck0
      subst en ek
      go_wp2
      clear x4 y1 cs
      go_loopw [59, 10] (fun s59 s10 wr => ∃ (p : Nat) (b : Bool), s59 = .int .i64 (p : Int) ∧ s10 = .bool b ∧ p ≤ knn ∧ Hid (Below wo.heap.size wo wr) ∧ Hid (b = (List.range p).any (f j))) (fun s59 _ _ => knn - (intOf s59).toNat)
      case atStart => exact ⟨0, false, rfl, rfl, Nat.zero_le _, Lib.hid (Below.refl _ _), Lib.hid rfl⟩
      case round =>
        obtain ⟨p, b, rfl, rfl, hp, HBP, HB⟩ := hrel
        have hwp : IntKind.i64.wrap ((p : Int) + 1) = (p : Int) + 1 := by rw [IntKind.wrap_i64]; omega
        have HSP := Lib.hid HBP.out.size
        have HYP := Lib.hid ((HBP.out.block _ (Nat.lt_of_lt_of_le HYL.out HSR.out)).trans HYR.out)
        have HXP := Lib.hid ((HBP.out.block _ (Nat.lt_of_lt_of_le (Nat.lt_trans HXL.out HYL.out) HSR.out)).trans HXR.out)
        have HBWP : Hid (Below w.heap.size w wr) := Lib.hid (HBQ.out.trans (HBP.out.mono HBQ.out.size))
        have HB2P : Hid (Below w2.heap.size w2 wr) := Lib.hid (HBR.out.trans (HBP.out.mono HBR.out.size))
        have x0 : wr.cell? ⟨w.heap.size, 0, none⟩ = some (.int .i64 4) := (by rw [cell_of_row _ _ 0 _ 70 _ HXP.out]; rfl)
        have x1 : wr.cell? ⟨w.heap.size, 1, none⟩ = some (.int .i64 ki) := (by rw [cell_of_row _ _ 1 _ 70 _ HXP.out]; rfl)
        have x2 : wr.cell? ⟨w.heap.size, 2, none⟩ = some (.int .u64 kb) := (by rw [cell_of_row _ _ 2 _ 70 _ HXP.out]; rfl)
        have x3 : wr.cell? ⟨w.heap.size, 3, none⟩ = some (.string kt) := (by rw [cell_of_row _ _ 3 _ 70 _ HXP.out]; rfl)
        have x4 : wr.cell? ⟨w.heap.size, 4, none⟩ = some (.slice kna knn knc) := (by rw [cell_of_row _ _ 4 _ 70 _ HXP.out]; rfl)
        have x5 : wr.cell? ⟨w.heap.size, 5, none⟩ = some (.slice kka kkn kkc) := (by rw [cell_of_row _ _ 5 _ 70 _ HXP.out]; rfl)
        have x6 : wr.cell? ⟨w.heap.size, 6, none⟩ = some (.pointer kfp) := (by rw [cell_of_row _ _ 6 _ 70 _ HXP.out]; rfl)
        have x7 : wr.cell? ⟨w.heap.size, 7, none⟩ = some (.int .i64 khv) := (by rw [cell_of_row _ _ 7 _ 70 _ HXP.out]; rfl)
        have y2 : wr.cell? ⟨w1.heap.size, 2, none⟩ = some (.slice (some ⟨gk, ok, none⟩) kn kc) := (by rw [cell_of_row _ _ 2 _ 38 _ HYP.out]; rfl)
        have ck : wr.cell? ⟨gk, ok + j, none⟩ = some (.int .i64 k) := keepB HBP.out HGK.out HCKO.out
        by_cases hpn : p < knn
        · have hpn2 : (p : Int) < knn := by omega
          have hpn3 : (p : Int) < kkn := by have := HM.out; have := HMK.out; omega
          have hpn4 : p < kkn := by omega
          obtain ⟨t, ht⟩ : ∃ t, NV[p]? = some t := ⟨_, List.getElem?_eq_getElem (by rw [← HM.out]; exact hpn)⟩
          obtain ⟨ev, hgv⟩ := HVN.out.resolve_left (by omega)
          obtain ⟨evk, hgvk⟩ := HVK.out.resolve_left (by omega)
          have ct : wr.cell? ⟨gvn, p, none⟩ = some (.string t) := keepB HBWP.out hgv (HCN.out p t ht)
          have HCKP := Lib.hid (fun q u h => keepB HBWP.out hgvk (HCK.out p q u hpn4 h))
          have HGVK : Hid (gvk < wr.heap.size) := Lib.hid (Nat.lt_of_lt_of_le hgvk HBWP.out.size)
          have HRP := Lib.hid (fun h => HR.out p j s k (by rw [ht]; exact h) HSJ.out HKJ.out)
          have HTP := Lib.hid ht
          have HNX : Hid (((List.range (p + 1)).any (f j)) = (b || f j p)) := Lib.hid (by rw [List.range_succ, List.any_append, ← HB.out]; simp)
          clear ht hgv hgvk
          subst ev evk
          cases b with
          | true =>
            go_wp2
            go_quiet (fail)
            go_wp2
            go_roundw
            case rel => exact ⟨p + 1, true, by go_num, rfl, by omega, Lib.hid (below_drewN HBP.out), Lib.hid (by rw [HNX.out]; rfl)⟩
            case measure => simp [intOf]; omega
          | false =>
            by_cases he : t = s
            · have hts : (t.toList == s.toList) = true := by simp [he]
              have HRS : Hid (∃ r, res p j = r) := Lib.hid ⟨_, rfl⟩
              obtain ⟨r, hr⟩ := HRS.out
              have HFR : Hid (f j p = r) := Lib.hid (by rw [HFE.out, HTP.out, HSJ.out, he, hr]; simp)
              obtain ⟨K0, hK0⟩ : ∃ K0, K p = K0 := ⟨_, rfl⟩
              have HRQ := Lib.hid (HRP.out (by rw [he]))
              rw [hr, hK0] at HRQ
              rw [hK0] at HCKP
              clear hr hK0 he HRP
              obtain ⟨xkd, xki, xkb, xkt, xna, xnn, xnc, xka, xkn, xkc, xfp, xhv⟩ := K0
              have HRN : Hid (∀ w'', Below w.heap.size w w'' → Calls Tryz.prog 31 #[.agg #[.int .i64 xkd, .int .i64 xki, .int .u64 xkb, .string xkt, .slice xna xnn xnc, .slice xka xkn xkc, .pointer xfp, .int .i64 xhv], .slice (some ⟨g, o, none⟩) ln lc, .int .i64 k] w'' (BoolPost w'' r)) := Lib.hid HRQ.out
              clear HRQ
              have u0 : wr.cell? ⟨gvk, p * 8, none⟩ = some (.int .i64 xkd) := HCKP.out 0 _ rfl
              have u1 : wr.cell? ⟨gvk, p * 8 + 1, none⟩ = some (.int .i64 xki) := HCKP.out 1 _ rfl
              have u2 : wr.cell? ⟨gvk, p * 8 + 2, none⟩ = some (.int .u64 xkb) := HCKP.out 2 _ rfl
              have u3 : wr.cell? ⟨gvk, p * 8 + 3, none⟩ = some (.string xkt) := HCKP.out 3 _ rfl
              have u4 : wr.cell? ⟨gvk, p * 8 + 4, none⟩ = some (.slice xna xnn xnc) := HCKP.out 4 _ rfl
              have u5 : wr.cell? ⟨gvk, p * 8 + 5, none⟩ = some (.slice xka xkn xkc) := HCKP.out 5 _ rfl
              have u6 : wr.cell? ⟨gvk, p * 8 + 6, none⟩ = some (.pointer xfp) := HCKP.out 6 _ rfl
              have u7 : wr.cell? ⟨gvk, p * 8 + 7, none⟩ = some (.int .i64 xhv) := HCKP.out 7 _ rfl
              have HYG : Hid (w1.heap.size < wr.heap.size) := Lib.hid (Nat.lt_of_lt_of_le (Nat.lt_of_lt_of_le HYL.out HSR.out) HSP.out)
              have HXG : Hid (w.heap.size < wr.heap.size) := Lib.hid (Nat.lt_trans HXL.out HYG.out)
              have HKG : Hid (gk < wr.heap.size) := Lib.hid (Nat.lt_of_lt_of_le HGK.out HSP.out)
              go_upto_region 16 with (fail)
              go_region_held3 (fun w' => w'.cell? ⟨gvk, p * 8, none⟩ = some (.int .i64 xkd) ∧ w'.cell? ⟨gvk, p * 8 + 1, none⟩ = some (.int .i64 xki) ∧ w'.cell? ⟨gvk, p * 8 + 2, none⟩ = some (.int .u64 xkb) ∧ w'.cell? ⟨gvk, p * 8 + 3, none⟩ = some (.string xkt) ∧ w'.cell? ⟨gvk, p * 8 + 4, none⟩ = some (.slice xna xnn xnc) ∧ w'.cell? ⟨gvk, p * 8 + 5, none⟩ = some (.slice xka xkn xkc) ∧ w'.cell? ⟨gvk, p * 8 + 6, none⟩ = some (.pointer xfp) ∧ w'.cell? ⟨gvk, p * 8 + 7, none⟩ = some (.int .i64 xhv) ∧ w'.cell? ⟨w.heap.size, 5, none⟩ = some (.slice (some ⟨gvk, 0, none⟩) kkn kkc) ∧ w'.cell? ⟨w1.heap.size, 2, none⟩ = some (.slice (some ⟨gk, ok, none⟩) kn kc) ∧ w'.cell? ⟨gk, ok + j, none⟩ = some (.int .i64 k)) (first | exact ⟨u0, u1, u2, u3, u4, u5, u6, u7, x5, y2, ck⟩ | exact ⟨keepB HC5.out HGVK.out u0, keepB HC5.out HGVK.out u1, keepB HC5.out HGVK.out u2, keepB HC5.out HGVK.out u3, keepB HC5.out HGVK.out u4, keepB HC5.out HGVK.out u5, keepB HC5.out HGVK.out u6, keepB HC5.out HGVK.out u7, keepB HC5.out HXG.out x5, keepB HC5.out HYG.out y2, keepB HC5.out HKG.out ck⟩)
                ((go_at_call 31; (with_reducible refine (HRN.out _ (by exact HBWP.out.drew)).mono ?_); rintro e w7 ⟨rfl, hb7⟩; have HC5 := Lib.hid (show Below wr.heap.size wr w7 from (Below.refl _ _).drew.trans hb7); clear hb7))
              go_wp2
              go_roundw
              case rel => exact ⟨p + 1, r, by go_num, by simp, by omega, Lib.hid (HBP.out.trans (HC5.out.mono HBP.out.size)), Lib.hid (by rw [HNX.out, HFR.out]; rfl)⟩
              case measure => simp [intOf]; omega
            · have hts : (t.toList == s.toList) = false := by
                cases hh : (t.toList == s.toList) with
                | false => rfl
                | true => exact absurd (toList_inj (by simpa using hh)) he
              have HFR : Hid (f j p = false) := Lib.hid (by rw [HFE.out, HTP.out, HSJ.out]; simp [he])
              clear he
              go_wp2
              go_quiet (fail)
              go_wp2
              go_roundw
              case rel => exact ⟨p + 1, false, by go_num, rfl, by omega, Lib.hid (below_drewN HBP.out), Lib.hid (by rw [HNX.out, HFR.out]; rfl)⟩
              case measure => simp [intOf]; omega
        · have hpn2 : ¬ (p : Int) < knn := by omega
          obtain rfl : p = knn := by omega
          cases b with
          | true =>
            go_wp2
            go_roundw
            case rel => exact ⟨j + 1, by go_num, by omega, HB2P, Lib.hid (fun n hn => by
              by_cases he : n = j
              · subst he
                rw [← HM.out, ← HB.out]
              · exact HA.out n (by omega))⟩
            case measure => simp [intOf]; omega
          | false =>
            have HBAD : Hid (RR = false) := Lib.hid (by rw [HRE.out]; exact List.all_eq_false.2 ⟨j, List.mem_range.2 hjn, by rw [← HM.out, ← HB.out]; simp⟩)
            go_wp2
            go_ret
            exact ⟨by rw [HBAD.out]; rfl, HBWP.out⟩
    · have hjn2 : ¬ (j : Int) < nn := by omega
      have HALL : Hid (RR = true) := Lib.hid (by rw [HRE.out]; exact List.all_eq_true.2 (fun n hn => HA.out n (by have := List.mem_range.1 hn; omega)))
      go_wp2
      go_ret
      exact ⟨by rw [HALL.out]; rfl, HBQ.out⟩
set_option maxRecDepth 20000 in
set_option maxHeartbeats 4000000 in
theorem lhas_tag (w : World) (la : Option Addr) (ln lc : Nat) (HS : List Hd) (hH : HeadsIn w la ln HS) (hln : (ln : Int) ≤ 100000) (i : Nat) (hd : Int) (na : Option Addr) (nn nc : Nat) (NS : List ByteArray) (ka : Option Addr) (kn kc : Nat) (KS : List Int) (op : Bool) (hi : HS[i]? = some ⟨hd, na, nn, nc, NS, ka, kn, kc, KS, op⟩) (kd ki kb : Int) (kt : ByteArray) (kna : Option Addr) (knn knc : Nat) (kka : Option Addr) (kkn kkc : Nat) (kfp : Option Addr) (khv : Int) (K : Val.Kid) (gv : Nat) (res : Bool) (h9 : hd = 9) (h5 : kd = 5) (hN' : nn = kn) (hka : kka = some ⟨gv, 0, none⟩) (hkn : kkn = 1) (hkc : 1 ≤ kkc) (hgv : gv < w.heap.size) (hc' : ∀ (p : Nat) u, K.cells[p]? = some u → w.cell? ⟨gv, p, none⟩ = some u) (hpos : ∀ k ∈ KS, 0 ≤ k)
    (hR : 0 ≤ findK NS KS kt → ∀ w'', Below w.heap.size w w'' → Calls Tryz.prog 31 #[K.val, .slice la ln lc, .int .i64 (findK NS KS kt)] w'' (BoolPost w'' res)) :
    Calls Tryz.prog 31 #[.agg #[.int .i64 kd, .int .i64 ki, .int .u64 kb, .string kt, .slice kna knn knc, .slice kka kkn kkc, .pointer kfp, .int .i64 khv], .slice la ln lc, .int .i64 (i : Int)] w (BoolPost w (if findK NS KS kt < 0 then op else res)) := by
  have HRT : Hid (findK NS KS kt < 0 → (if findK NS KS kt < 0 then op else res) = op) := Lib.hid (fun e => if_pos e)
  have HRF : Hid (¬ findK NS KS kt < 0 → (if findK NS KS kt < 0 then op else res) = res) := Lib.hid (fun e => if_neg e)
  generalize (if findK NS KS kt < 0 then op else res) = RR at *
  have HR := Lib.hid hR
  have HNK := Lib.hid hN'
  have HPOS := Lib.hid hpos
  have HCC := Lib.hid hc'
  have HGV := Lib.hid hgv
  have hkc2 : (1 : Int) ≤ kkc := by omega
  clear hR hN' hpos hc' hgv
  subst h9 h5 hka hkn
  have HL := Lib.hid hH.1
  have HH := Lib.hid hi
  have hil : i < ln := by rw [hH.1]; exact (List.getElem?_eq_some_iff.1 hi).1
  have hil2 : (i : Int) < ln := by omega
  obtain ⟨g, o, rfl, hg, hc⟩ := hH.2.resolve_left (by omega)
  have hin := hc i _ hi
  have HOK := Lib.hid hin.ok
  have HG := Lib.hid hg
  have hxb : (w.alloc (.cells #[.int .i64 5, .int .i64 ki, .int .u64 kb, .string kt, .slice kna knn knc, .slice (some ⟨gv, 0, none⟩) 1 kkc, .pointer kfp, .int .i64 khv] 70)).heap[w.heap.size]? = some (.cells #[.int .i64 5, .int .i64 ki, .int .u64 kb, .string kt, .slice kna knn knc, .slice (some ⟨gv, 0, none⟩) 1 kkc, .pointer kfp, .int .i64 khv] 70 (0, 0)) := heap_alloc_new w _
  have HXB := Lib.hid hxb
  have HBA : Hid (Below w.heap.size w (w.alloc (.cells #[.int .i64 5, .int .i64 ki, .int .u64 kb, .string kt, .slice kna knn knc, .slice (some ⟨gv, 0, none⟩) 1 kkc, .pointer kfp, .int .i64 khv] 70))) := Lib.hid ((Below.refl _ _).alloc (Nat.le_refl _) _)
  have h0 : (w.alloc (.cells #[.int .i64 5, .int .i64 ki, .int .u64 kb, .string kt, .slice kna knn knc, .slice (some ⟨gv, 0, none⟩) 1 kkc, .pointer kfp, .int .i64 khv] 70)).cell? ⟨g, o + i * 4, none⟩ = some (.int .i64 9) := keepB HBA.out hg hin.c0
  have h1 : (w.alloc (.cells #[.int .i64 5, .int .i64 ki, .int .u64 kb, .string kt, .slice kna knn knc, .slice (some ⟨gv, 0, none⟩) 1 kkc, .pointer kfp, .int .i64 khv] 70)).cell? ⟨g, o + i * 4 + 1, none⟩ = some (.slice na nn nc) := keepB HBA.out hg hin.c1
  have h2 : (w.alloc (.cells #[.int .i64 5, .int .i64 ki, .int .u64 kb, .string kt, .slice kna knn knc, .slice (some ⟨gv, 0, none⟩) 1 kkc, .pointer kfp, .int .i64 khv] 70)).cell? ⟨g, o + i * 4 + 2, none⟩ = some (.slice ka kn kc) := keepB HBA.out hg hin.c2
  have h3 : (w.alloc (.cells #[.int .i64 5, .int .i64 ki, .int .u64 kb, .string kt, .slice kna knn knc, .slice (some ⟨gv, 0, none⟩) 1 kkc, .pointer kfp, .int .i64 khv] 70)).cell? ⟨g, o + i * 4 + 3, none⟩ = some (.bool op) := keepB HBA.out hg hin.c3
  clear hxb hc hg hin hi hH
  go_enter Tryz.func31, Tryz.ntmps31
  go_upto_region 1 with (fail)
  generalize (w.alloc (.cells #[.int .i64 5, .int .i64 ki, .int .u64 kb, .string kt, .slice kna knn knc, .slice (some ⟨gv, 0, none⟩) 1 kkc, .pointer kfp, .int .i64 khv] 70)) = w1 at *
  have HXL : Hid (w.heap.size < w1.heap.size) := Lib.hid (Array.getElem?_eq_some_iff.1 HXB.out).1
  have hy : (w1.alloc (.cells #[.int .i64 9, .slice na nn nc, .slice ka kn kc, .bool op] 38)).heap[w1.heap.size]? = some (.cells #[.int .i64 9, .slice na nn nc, .slice ka kn kc, .bool op] 38 (0, 0)) := heap_alloc_new w1 _
  have HY := Lib.hid hy
  have HBY : Hid (Below w1.heap.size w1 (w1.alloc (.cells #[.int .i64 9, .slice na nn nc, .slice ka kn kc, .bool op] 38))) := Lib.hid ((Below.refl _ _).alloc (Nat.le_refl _) _)
  clear hy
  go_upto_region 2 with (fail)
  clear h0 h1 h2 h3
  generalize (w1.alloc (.cells #[.int .i64 9, .slice na nn nc, .slice ka kn kc, .bool op] 38)) = w2 at *
  have HYL : Hid (w1.heap.size < w2.heap.size) := Lib.hid (Array.getElem?_eq_some_iff.1 HY.out).1
  have HXB2 := Lib.hid ((HBY.out.block _ HXL.out).trans HXB.out)
  have HBZ : Hid (Below w.heap.size w w2) := Lib.hid (HBA.out.trans (HBY.out.mono HBA.out.size))
  have b0 : w2.cell? ⟨w1.heap.size, 0, none⟩ = some (.int .i64 9) := (by rw [cell_of_row _ _ 0 _ 38 _ HY.out]; rfl)
  have b1 : w2.cell? ⟨w1.heap.size, 1, none⟩ = some (.slice na nn nc) := (by rw [cell_of_row _ _ 1 _ 38 _ HY.out]; rfl)
  have b2 : w2.cell? ⟨w1.heap.size, 2, none⟩ = some (.slice ka kn kc) := (by rw [cell_of_row _ _ 2 _ 38 _ HY.out]; rfl)
  have b3 : w2.cell? ⟨w1.heap.size, 3, none⟩ = some (.bool op) := (by rw [cell_of_row _ _ 3 _ 38 _ HY.out]; rfl)
  have v0 : w2.cell? ⟨w.heap.size, 0, none⟩ = some (.int .i64 5) := (by rw [cell_of_row _ _ 0 _ 70 _ HXB2.out]; rfl)
  have v1 : w2.cell? ⟨w.heap.size, 1, none⟩ = some (.int .i64 ki) := (by rw [cell_of_row _ _ 1 _ 70 _ HXB2.out]; rfl)
  have v2 : w2.cell? ⟨w.heap.size, 2, none⟩ = some (.int .u64 kb) := (by rw [cell_of_row _ _ 2 _ 70 _ HXB2.out]; rfl)
  have v3 : w2.cell? ⟨w.heap.size, 3, none⟩ = some (.string kt) := (by rw [cell_of_row _ _ 3 _ 70 _ HXB2.out]; rfl)
  have v4 : w2.cell? ⟨w.heap.size, 4, none⟩ = some (.slice kna knn knc) := (by rw [cell_of_row _ _ 4 _ 70 _ HXB2.out]; rfl)
  have v5 : w2.cell? ⟨w.heap.size, 5, none⟩ = some (.slice (some ⟨gv, 0, none⟩) 1 kkc) := (by rw [cell_of_row _ _ 5 _ 70 _ HXB2.out]; rfl)
  have v6 : w2.cell? ⟨w.heap.size, 6, none⟩ = some (.pointer kfp) := (by rw [cell_of_row _ _ 6 _ 70 _ HXB2.out]; rfl)
  have v7 : w2.cell? ⟨w.heap.size, 7, none⟩ = some (.int .i64 khv) := (by rw [cell_of_row _ _ 7 _ 70 _ HXB2.out]; rfl)
  have HNM := Lib.hid (HOK.out.on HBZ.out).names
  have HKD := Lib.hid (HOK.out.on HBZ.out).kids
  have HNL := Lib.hid HOK.out.names.1
  have HKL := Lib.hid HOK.out.kids.1
  have hnb : (nn : Int) ≤ 100000 := (by have h9 := HOK.out.nnb; (try simp only at h9); omega)
  obtain ⟨xkd, xki, xkb, xkt, xna, xnn, xnc, xka, xkn, xkc, xfp, xhv⟩ := K
  go_wp2
  go_loop [100] (fun s100 => ∃ j : Nat, s100 = .int .i64 (j : Int) ∧ j ≤ nn ∧ Hid (∀ q, q < j → NS[q]? ≠ some kt)) (fun s100 => nn - (intOf s100).toNat)
  case atStart => exact ⟨0, rfl, Nat.zero_le _, Lib.hid (fun q hq => by omega)⟩
  case round =>
    obtain ⟨j, rfl, hj, HQ⟩ := hrel
    have hwj : IntKind.i64.wrap ((j : Int) + 1) = (j : Int) + 1 := by rw [IntKind.wrap_i64]; omega
    by_cases hjn : j < nn
    · have hjn2 : (j : Int) < nn := by omega
      have hjn3 : (j : Int) < kn := by have := HNK.out; omega
      obtain ⟨s, hs⟩ : ∃ s, NS[j]? = some s := ⟨_, List.getElem?_eq_getElem (by have h9 := HNL.out; (try simp only at h9); rw [← h9]; exact hjn)⟩
      obtain ⟨k, hk⟩ : ∃ k, KS[j]? = some k := ⟨_, List.getElem?_eq_getElem (by have h9 := HKL.out; (try simp only at h9); rw [← h9, ← HNK.out]; exact hjn)⟩
      obtain ⟨gn, on, en, hgn, hcn⟩ := HNM.out.2.resolve_left (by (try simp only); omega)
      obtain ⟨gk, ok, ek, hgk, hck⟩ := HKD.out.2.resolve_left (by have := HNK.out; (try simp only); omega)
      (try simp only at en ek)
      have cs := hcn j s hs
      have ck := hck j k hk
      have HGK := Lib.hid hgk
      have HSJ := Lib.hid hs
      have HKJ := Lib.hid hk
      clear hs hk hcn hck hgn hgk
      subst en ek
      by_cases he : s = kt
      · have hts : (s.toList == kt.toList) = true := by simp [he]
        have hfk : findK NS KS kt = k := findK_at NS KS kt j k (by rw [HSJ.out, he]) HKJ.out HQ.out
        have hk0 : 0 ≤ k := HPOS.out k (List.mem_of_getElem? HKJ.out)
        have HRR : Hid (RR = res) := Lib.hid (HRF.out (by rw [hfk]; omega))
        have HRQ := Lib.hid (HR.out (by rw [hfk]; exact hk0))
        rw [hfk] at HRQ
        have HRN : Hid (∀ w'', Below w.heap.size w w'' → Calls Tryz.prog 31 #[.agg #[.int .i64 xkd, .int .i64 xki, .int .u64 xkb, .string xkt, .slice xna xnn xnc, .slice xka xkn xkc, .pointer xfp, .int .i64 xhv], .slice (some ⟨g, o, none⟩) ln lc, .int .i64 k] w'' (BoolPost w'' res)) := Lib.hid HRQ.out
        clear HRQ hfk he
        have HGV2 : Hid (gv < w2.heap.size) := Lib.hid (Nat.lt_of_lt_of_le HGV.out HBZ.out.size)
        have HXG : Hid (w.heap.size < w2.heap.size) := Lib.hid (Nat.lt_trans HXL.out HYL.out)
        have u0 : w2.cell? ⟨gv, 0, none⟩ = some (.int .i64 xkd) := keepB HBZ.out HGV.out (HCC.out 0 _ rfl)
        have u1 : w2.cell? ⟨gv, 1, none⟩ = some (.int .i64 xki) := keepB HBZ.out HGV.out (HCC.out 1 _ rfl)
        have u2 : w2.cell? ⟨gv, 2, none⟩ = some (.int .u64 xkb) := keepB HBZ.out HGV.out (HCC.out 2 _ rfl)
        have u3 : w2.cell? ⟨gv, 3, none⟩ = some (.string xkt) := keepB HBZ.out HGV.out (HCC.out 3 _ rfl)
        have u4 : w2.cell? ⟨gv, 4, none⟩ = some (.slice xna xnn xnc) := keepB HBZ.out HGV.out (HCC.out 4 _ rfl)
        have u5 : w2.cell? ⟨gv, 5, none⟩ = some (.slice xka xkn xkc) := keepB HBZ.out HGV.out (HCC.out 5 _ rfl)
        have u6 : w2.cell? ⟨gv, 6, none⟩ = some (.pointer xfp) := keepB HBZ.out HGV.out (HCC.out 6 _ rfl)
        have u7 : w2.cell? ⟨gv, 7, none⟩ = some (.int .i64 xhv) := keepB HBZ.out HGV.out (HCC.out 7 _ rfl)
        go_upto_region 27 with (fail)
        go_region_held3 (fun w' => w'.cell? ⟨gv, 0, none⟩ = some (.int .i64 xkd) ∧ w'.cell? ⟨gv, 1, none⟩ = some (.int .i64 xki) ∧ w'.cell? ⟨gv, 2, none⟩ = some (.int .u64 xkb) ∧ w'.cell? ⟨gv, 3, none⟩ = some (.string xkt) ∧ w'.cell? ⟨gv, 4, none⟩ = some (.slice xna xnn xnc) ∧ w'.cell? ⟨gv, 5, none⟩ = some (.slice xka xkn xkc) ∧ w'.cell? ⟨gv, 6, none⟩ = some (.pointer xfp) ∧ w'.cell? ⟨gv, 7, none⟩ = some (.int .i64 xhv) ∧ w'.cell? ⟨w.heap.size, 5, none⟩ = some (.slice (some ⟨gv, 0, none⟩) 1 kkc) ∧ w'.cell? ⟨w1.heap.size, 2, none⟩ = some (.slice (some ⟨gk, ok, none⟩) kn kc) ∧ w'.cell? ⟨gk, ok + j, none⟩ = some (.int .i64 k)) (first | exact ⟨u0, u1, u2, u3, u4, u5, u6, u7, v5, b2, ck⟩ | exact ⟨keepB HC5.out HGV2.out u0, keepB HC5.out HGV2.out u1, keepB HC5.out HGV2.out u2, keepB HC5.out HGV2.out u3, keepB HC5.out HGV2.out u4, keepB HC5.out HGV2.out u5, keepB HC5.out HGV2.out u6, keepB HC5.out HGV2.out u7, keepB HC5.out HXG.out v5, keepB HC5.out HYL.out b2, keepB HC5.out HGK.out ck⟩)
          ((go_at_call 31; (with_reducible refine (HRN.out _ (by exact HBZ.out.drew)).mono ?_); rintro e w7 ⟨rfl, hb7⟩; have HC5 := Lib.hid (show Below w2.heap.size w2 w7 from (Below.refl _ _).drew.trans hb7); clear hb7))
        go_wp2
        go_ret
        exact ⟨by rw [HRR.out]; rfl, HBZ.out.trans (HC5.out.mono HBZ.out.size)⟩
      · have hts : (s.toList == kt.toList) = false := by
          cases hh : (s.toList == kt.toList) with
          | false => rfl
          | true => exact absurd (toList_inj (by simpa using hh)) he
        have HE := Lib.hid he
        clear he
        go_wp2
        go_round
        case rel => exact ⟨j + 1, by go_num, by omega, Lib.hid (fun q hq e => by
          by_cases h9 : q = j
          · subst h9
            have := HSJ.out.symm.trans e
            cases this
            exact HE.out rfl
          · exact HQ.out q (by omega) e)⟩
        case measure => simp [intOf]; omega
    · have hjn2 : ¬ (j : Int) < nn := by omega
      have hno : ∀ q : Nat, NS[q]? ≠ some kt := fun q e => by
        have h8 := (List.getElem?_eq_some_iff.1 e).1
        have h9 := HNL.out
        (try simp only at h9)
        rw [← h9] at h8
        exact HQ.out q (by omega) e
      have HF : Hid (RR = op) := Lib.hid (HRT.out (by rw [findK_none NS KS kt hno]; decide))
      clear hno
      go_wp2
      go_ret
      exact ⟨by rw [HF.out]; rfl, HBZ.out⟩
end Go.Proofs.YtoakfninndkgaaaGreatDoor
