/- Walks: value.has. Walks: graph.sign. -/
import Derived.Test.YtoakfninndkgaaaGreatDoorGa04
import Derived.Test.YtoakfninndkgaaaGreatDoorGa11
import Derived.Test.YtoakfninndkgaaaGreatDoorGa03
set_option linter.unusedSimpArgs false
set_option linter.unusedVariables false
set_option linter.unusedVariables false
namespace Go.Proofs.YtoakfninndkgaaaGreatDoor
open Go.RowKit
/-- has a value of a kind by itself the type of a kind by itself? -/
def leafB (hk kk : Int) : Bool := if hk = 5 then true else if 0 ≤ hk ∧ hk ≤ 3 then kk == hk else if hk = 7 then kk == 6 else false
/-- has a value the type of a head? -/
def hasB (HS : List Hd) : Val.V → Int → Bool
  | .leaf kd _, i => match HS[i.toNat]? with
    | none => false
    | some h => leafB h.kd kd
  | .tag st v, i => match HS[i.toNat]? with
    | none => false
    | some h => if h.kd = 9 then (if findK h.NS h.KS st < 0 then h.op else hasB HS v (findK h.NS h.KS st)) else leafB h.kd 5
  | .record NS kid, i => match HS[i.toNat]? with
    | none => false
    | some h => if h.kd = 8 then (List.range h.NS.length).all (fun n => (List.range NS.length).any (fun j => decide (NS[j]? = h.NS[n]?) && hasB HS (kid j) (h.KS.getD n 0))) else leafB h.kd 4
theorem keepB {W w5 : World} {n b o : Nat} {v : Value} (hb : Below n W w5) (hlt : b < n) (h : W.cell? ⟨b, o, none⟩ = some v) : w5.cell? ⟨b, o, none⟩ = some v := (hb.cell (p := ⟨b, o, none⟩) hlt).trans h
set_option maxRecDepth 20000 in
set_option maxHeartbeats 4000000 in
theorem vhas_simple (w : World) (la : Option Addr) (ln lc : Nat) (HS : List Hd) (hH : HeadsIn w la ln HS) (hln : (ln : Int) ≤ 100000) (i : Nat) (hd : Int) (na : Option Addr) (nn nc : Nat) (NS : List ByteArray) (ka : Option Addr) (kn kc : Nat) (KS : List Int) (op : Bool) (hi : HS[i]? = some ⟨hd, na, nn, nc, NS, ka, kn, kc, KS, op⟩) (kd ki kb : Int) (kt : ByteArray) (kna : Option Addr) (knn knc : Nat) (kka : Option Addr) (kkn kkc : Nat) (kfp : Option Addr) (khv : Int) (h8 : hd ≠ 8) (h9 : hd = 9 → kd ≠ 5) (hr : 0 ≤ hd ∧ hd ≤ 9) :
    Calls Tryz.prog 51 #[.agg #[.int .i64 kd, .int .i64 ki, .int .u64 kb, .string kt, .slice kna knn knc, .slice kka kkn kkc, .pointer kfp, .int .i64 khv], .slice la ln lc, .int .i64 (i : Int)] w (BoolPost w (leafB hd kd)) := by
  have H9 := Lib.hid h9
  have H8 := Lib.hid h8
  clear h8 h9
  have HL := Lib.hid hH.1
  have HH := Lib.hid hi
  have hil : i < ln := by rw [hH.1]; exact (List.getElem?_eq_some_iff.1 hi).1
  have hil2 : (i : Int) < ln := by omega
  obtain ⟨g, o, rfl, hg, hc⟩ := hH.2.resolve_left (by omega)
  have hin := hc i _ hi
  have HOK := Lib.hid hin.ok
  have HG := Lib.hid hg
  have hxb : (w.alloc (.cells #[.int .i64 kd, .int .i64 ki, .int .u64 kb, .string kt, .slice kna knn knc, .slice kka kkn kkc, .pointer kfp, .int .i64 khv] 70)).heap[w.heap.size]? = some (.cells #[.int .i64 kd, .int .i64 ki, .int .u64 kb, .string kt, .slice kna knn knc, .slice kka kkn kkc, .pointer kfp, .int .i64 khv] 70 (0, 0)) := heap_alloc_new w _
  have HXB := Lib.hid hxb
  have HBA : Hid (Below w.heap.size w (w.alloc (.cells #[.int .i64 kd, .int .i64 ki, .int .u64 kb, .string kt, .slice kna knn knc, .slice kka kkn kkc, .pointer kfp, .int .i64 khv] 70))) := Lib.hid ((Below.refl _ _).alloc (Nat.le_refl _) _)
  have h0 : (w.alloc (.cells #[.int .i64 kd, .int .i64 ki, .int .u64 kb, .string kt, .slice kna knn knc, .slice kka kkn kkc, .pointer kfp, .int .i64 khv] 70)).cell? ⟨g, o + i * 4, none⟩ = some (.int .i64 hd) := keepB HBA.out hg hin.c0
  have h1 : (w.alloc (.cells #[.int .i64 kd, .int .i64 ki, .int .u64 kb, .string kt, .slice kna knn knc, .slice kka kkn kkc, .pointer kfp, .int .i64 khv] 70)).cell? ⟨g, o + i * 4 + 1, none⟩ = some (.slice na nn nc) := keepB HBA.out hg hin.c1
  have h2 : (w.alloc (.cells #[.int .i64 kd, .int .i64 ki, .int .u64 kb, .string kt, .slice kna knn knc, .slice kka kkn kkc, .pointer kfp, .int .i64 khv] 70)).cell? ⟨g, o + i * 4 + 2, none⟩ = some (.slice ka kn kc) := keepB HBA.out hg hin.c2
  have h3 : (w.alloc (.cells #[.int .i64 kd, .int .i64 ki, .int .u64 kb, .string kt, .slice kna knn knc, .slice kka kkn kkc, .pointer kfp, .int .i64 khv] 70)).cell? ⟨g, o + i * 4 + 3, none⟩ = some (.bool op) := keepB HBA.out hg hin.c3
  clear hxb hc hg hin hi hH
  go_enter Tryz.func51, Tryz.ntmps51
  go_upto_region 1 with (fail)
  generalize (w.alloc (.cells #[.int .i64 kd, .int .i64 ki, .int .u64 kb, .string kt, .slice kna knn knc, .slice kka kkn kkc, .pointer kfp, .int .i64 khv] 70)) = w1 at *
  have HXL : Hid (w.heap.size < w1.heap.size) := Lib.hid (Array.getElem?_eq_some_iff.1 HXB.out).1
  have hy : (w1.alloc (.cells #[.int .i64 hd, .slice na nn nc, .slice ka kn kc, .bool op] 38)).heap[w1.heap.size]? = some (.cells #[.int .i64 hd, .slice na nn nc, .slice ka kn kc, .bool op] 38 (0, 0)) := heap_alloc_new w1 _
  have HY := Lib.hid hy
  have HBY : Hid (Below w1.heap.size w1 (w1.alloc (.cells #[.int .i64 hd, .slice na nn nc, .slice ka kn kc, .bool op] 38))) := Lib.hid ((Below.refl _ _).alloc (Nat.le_refl _) _)
  clear hy
  go_upto_region 2 with (fail)
  clear h0 h1 h2 h3
  generalize (w1.alloc (.cells #[.int .i64 hd, .slice na nn nc, .slice ka kn kc, .bool op] 38)) = w2 at *
  have HYL : Hid (w1.heap.size < w2.heap.size) := Lib.hid (Array.getElem?_eq_some_iff.1 HY.out).1
  have HXB2 := Lib.hid ((HBY.out.block _ HXL.out).trans HXB.out)
  have HBZ : Hid (Below w.heap.size w w2) := Lib.hid (HBA.out.trans (HBY.out.mono HBA.out.size))
  have b0 : w2.cell? ⟨w1.heap.size, 0, none⟩ = some (.int .i64 hd) := (by rw [cell_of_row _ _ 0 _ 38 _ HY.out]; rfl)
  have b1 : w2.cell? ⟨w1.heap.size, 1, none⟩ = some (.slice na nn nc) := (by rw [cell_of_row _ _ 1 _ 38 _ HY.out]; rfl)
  have b2 : w2.cell? ⟨w1.heap.size, 2, none⟩ = some (.slice ka kn kc) := (by rw [cell_of_row _ _ 2 _ 38 _ HY.out]; rfl)
  have b3 : w2.cell? ⟨w1.heap.size, 3, none⟩ = some (.bool op) := (by rw [cell_of_row _ _ 3 _ 38 _ HY.out]; rfl)
  have v0 : w2.cell? ⟨w.heap.size, 0, none⟩ = some (.int .i64 kd) := (by rw [cell_of_row _ _ 0 _ 70 _ HXB2.out]; rfl)
  have v1 : w2.cell? ⟨w.heap.size, 1, none⟩ = some (.int .i64 ki) := (by rw [cell_of_row _ _ 1 _ 70 _ HXB2.out]; rfl)
  have v2 : w2.cell? ⟨w.heap.size, 2, none⟩ = some (.int .u64 kb) := (by rw [cell_of_row _ _ 2 _ 70 _ HXB2.out]; rfl)
  have v3 : w2.cell? ⟨w.heap.size, 3, none⟩ = some (.string kt) := (by rw [cell_of_row _ _ 3 _ 70 _ HXB2.out]; rfl)
  have v4 : w2.cell? ⟨w.heap.size, 4, none⟩ = some (.slice kna knn knc) := (by rw [cell_of_row _ _ 4 _ 70 _ HXB2.out]; rfl)
  have v5 : w2.cell? ⟨w.heap.size, 5, none⟩ = some (.slice kka kkn kkc) := (by rw [cell_of_row _ _ 5 _ 70 _ HXB2.out]; rfl)
  have v6 : w2.cell? ⟨w.heap.size, 6, none⟩ = some (.pointer kfp) := (by rw [cell_of_row _ _ 6 _ 70 _ HXB2.out]; rfl)
  have v7 : w2.cell? ⟨w.heap.size, 7, none⟩ = some (.int .i64 khv) := (by rw [cell_of_row _ _ 7 _ 70 _ HXB2.out]; rfl)
  rcases (by have := H8.out; omega : hd = 5 ∨ hd = 0 ∨ hd = 1 ∨ hd = 2 ∨ hd = 3 ∨ hd = 7 ∨ hd = 9 ∨ hd = 4 ∨ hd = 6) with rfl | rfl | rfl | rfl | rfl | rfl | rfl | rfl | rfl
  · go_wp2
    go_ret
    exact ⟨rfl, HBZ.out⟩
  · go_wp2
    go_ret
    exact ⟨rfl, HBZ.out⟩
  · go_wp2
    go_ret
    exact ⟨rfl, HBZ.out⟩
  · go_wp2
    go_ret
    exact ⟨rfl, HBZ.out⟩
  · go_wp2
    go_ret
    exact ⟨rfl, HBZ.out⟩
  · go_wp2
    go_ret
    exact ⟨rfl, HBZ.out⟩
  · have h5 : (kd == 5) = false := by simpa using H9.out rfl
    have h5' : (kd != 5) = true := by simpa using H9.out rfl
    go_wp2
    go_ret
    exact ⟨rfl, HBZ.out⟩
  · go_wp2
    go_ret
    exact ⟨rfl, HBZ.out⟩
  · go_wp2
    go_ret
    exact ⟨rfl, HBZ.out⟩
def kid0 : Val.Kid := ⟨0, 0, 0, ⟨#[]⟩, none, 0, 0, none, 0, 0, none, 0⟩
def FieldPost (w : World) (o : Option Val.Kid) (e : Ending) (w' : World) : Prop := e = .returned (.tuple #[(o.getD kid0).val, .bool o.isSome]) ∧ Below w.heap.size w w'
set_option maxRecDepth 20000 in
set_option maxHeartbeats 4000000 in
theorem vhas_rec (w : World) (la : Option Addr) (ln lc : Nat) (HS : List Hd) (hH : HeadsIn w la ln HS) (hln : (ln : Int) ≤ 100000) (i : Nat) (hd : Int) (na : Option Addr) (nn nc : Nat) (NS : List ByteArray) (ka : Option Addr) (kn kc : Nat) (KS : List Int) (op : Bool) (hi : HS[i]? = some ⟨hd, na, nn, nc, NS, ka, kn, kc, KS, op⟩) (kd ki kb : Int) (kt : ByteArray) (kna : Option Addr) (knn knc : Nat) (kka : Option Addr) (kkn kkc : Nat) (kfp : Option Addr) (khv : Int) (fld : Nat → Option Val.Kid) (res : Nat → Bool) (h8 : hd = 8) (hN' : nn = kn) (hF : ∀ (n : Nat) s, NS[n]? = some s → ∀ w'', Below w.heap.size w w'' → Calls Tryz.prog 60 #[.agg #[.int .i64 kd, .int .i64 ki, .int .u64 kb, .string kt, .slice kna knn knc, .slice kka kkn kkc, .pointer kfp, .int .i64 khv], .string s] w'' (FieldPost w'' (fld n)))
    (hR : ∀ (n : Nat) kk k, fld n = some kk → KS[n]? = some k → ∀ w'', Below w.heap.size w w'' → Calls Tryz.prog 51 #[kk.val, .slice la ln lc, .int .i64 k] w'' (BoolPost w'' (res n))) :
    Calls Tryz.prog 51 #[.agg #[.int .i64 kd, .int .i64 ki, .int .u64 kb, .string kt, .slice kna knn knc, .slice kka kkn kkc, .pointer kfp, .int .i64 khv], .slice la ln lc, .int .i64 (i : Int)] w (BoolPost w (if (List.range nn).all (fun n => (fld n).isSome && res n) then kd == 4 else false)) := by
  have HRT : Hid (((List.range nn).all fun n => (fld n).isSome && res n) = true → (if (List.range nn).all (fun n => (fld n).isSome && res n) then kd == 4 else false) = (kd == 4)) := Lib.hid (fun e => if_pos e)
  have HRF : Hid (((List.range nn).all fun n => (fld n).isSome && res n) = false → (if (List.range nn).all (fun n => (fld n).isSome && res n) then kd == 4 else false) = false) := Lib.hid (fun e => if_neg (by rw [e]; simp))
  generalize (if (List.range nn).all (fun n => (fld n).isSome && res n) then kd == 4 else false) = RR at *
  have HF := Lib.hid hF
  have HR := Lib.hid hR
  have HNK := Lib.hid hN'
  clear hF hR hN'
  subst h8
  have HL := Lib.hid hH.1
  have HH := Lib.hid hi
  have hil : i < ln := by rw [hH.1]; exact (List.getElem?_eq_some_iff.1 hi).1
  have hil2 : (i : Int) < ln := by omega
  obtain ⟨g, o, rfl, hg, hc⟩ := hH.2.resolve_left (by omega)
  have hin := hc i _ hi
  have HOK := Lib.hid hin.ok
  have HG := Lib.hid hg
  have hxb : (w.alloc (.cells #[.int .i64 kd, .int .i64 ki, .int .u64 kb, .string kt, .slice kna knn knc, .slice kka kkn kkc, .pointer kfp, .int .i64 khv] 70)).heap[w.heap.size]? = some (.cells #[.int .i64 kd, .int .i64 ki, .int .u64 kb, .string kt, .slice kna knn knc, .slice kka kkn kkc, .pointer kfp, .int .i64 khv] 70 (0, 0)) := heap_alloc_new w _
  have HXB := Lib.hid hxb
  have HBA : Hid (Below w.heap.size w (w.alloc (.cells #[.int .i64 kd, .int .i64 ki, .int .u64 kb, .string kt, .slice kna knn knc, .slice kka kkn kkc, .pointer kfp, .int .i64 khv] 70))) := Lib.hid ((Below.refl _ _).alloc (Nat.le_refl _) _)
  have h0 : (w.alloc (.cells #[.int .i64 kd, .int .i64 ki, .int .u64 kb, .string kt, .slice kna knn knc, .slice kka kkn kkc, .pointer kfp, .int .i64 khv] 70)).cell? ⟨g, o + i * 4, none⟩ = some (.int .i64 8) := keepB HBA.out hg hin.c0
  have h1 : (w.alloc (.cells #[.int .i64 kd, .int .i64 ki, .int .u64 kb, .string kt, .slice kna knn knc, .slice kka kkn kkc, .pointer kfp, .int .i64 khv] 70)).cell? ⟨g, o + i * 4 + 1, none⟩ = some (.slice na nn nc) := keepB HBA.out hg hin.c1
  have h2 : (w.alloc (.cells #[.int .i64 kd, .int .i64 ki, .int .u64 kb, .string kt, .slice kna knn knc, .slice kka kkn kkc, .pointer kfp, .int .i64 khv] 70)).cell? ⟨g, o + i * 4 + 2, none⟩ = some (.slice ka kn kc) := keepB HBA.out hg hin.c2
  have h3 : (w.alloc (.cells #[.int .i64 kd, .int .i64 ki, .int .u64 kb, .string kt, .slice kna knn knc, .slice kka kkn kkc, .pointer kfp, .int .i64 khv] 70)).cell? ⟨g, o + i * 4 + 3, none⟩ = some (.bool op) := keepB HBA.out hg hin.c3
  clear hxb hc hg hin hi hH
  go_enter Tryz.func51, Tryz.ntmps51
  go_upto_region 1 with (fail)
  generalize (w.alloc (.cells #[.int .i64 kd, .int .i64 ki, .int .u64 kb, .string kt, .slice kna knn knc, .slice kka kkn kkc, .pointer kfp, .int .i64 khv] 70)) = w1 at *
  have HXL : Hid (w.heap.size < w1.heap.size) := Lib.hid (Array.getElem?_eq_some_iff.1 HXB.out).1
  have hy : (w1.alloc (.cells #[.int .i64 8, .slice na nn nc, .slice ka kn kc, .bool op] 38)).heap[w1.heap.size]? = some (.cells #[.int .i64 8, .slice na nn nc, .slice ka kn kc, .bool op] 38 (0, 0)) := heap_alloc_new w1 _
  have HY := Lib.hid hy
  have HBY : Hid (Below w1.heap.size w1 (w1.alloc (.cells #[.int .i64 8, .slice na nn nc, .slice ka kn kc, .bool op] 38))) := Lib.hid ((Below.refl _ _).alloc (Nat.le_refl _) _)
  clear hy
  go_upto_region 2 with (fail)
  clear h0 h1 h2 h3
  generalize (w1.alloc (.cells #[.int .i64 8, .slice na nn nc, .slice ka kn kc, .bool op] 38)) = w2 at *
  have HYL : Hid (w1.heap.size < w2.heap.size) := Lib.hid (Array.getElem?_eq_some_iff.1 HY.out).1
  have HXB2 := Lib.hid ((HBY.out.block _ HXL.out).trans HXB.out)
  have HBZ : Hid (Below w.heap.size w w2) := Lib.hid (HBA.out.trans (HBY.out.mono HBA.out.size))
  have b0 : w2.cell? ⟨w1.heap.size, 0, none⟩ = some (.int .i64 8) := (by rw [cell_of_row _ _ 0 _ 38 _ HY.out]; rfl)
  have b1 : w2.cell? ⟨w1.heap.size, 1, none⟩ = some (.slice na nn nc) := (by rw [cell_of_row _ _ 1 _ 38 _ HY.out]; rfl)
  have b2 : w2.cell? ⟨w1.heap.size, 2, none⟩ = some (.slice ka kn kc) := (by rw [cell_of_row _ _ 2 _ 38 _ HY.out]; rfl)
  have b3 : w2.cell? ⟨w1.heap.size, 3, none⟩ = some (.bool op) := (by rw [cell_of_row _ _ 3 _ 38 _ HY.out]; rfl)
  have v0 : w2.cell? ⟨w.heap.size, 0, none⟩ = some (.int .i64 kd) := (by rw [cell_of_row _ _ 0 _ 70 _ HXB2.out]; rfl)
  have v1 : w2.cell? ⟨w.heap.size, 1, none⟩ = some (.int .i64 ki) := (by rw [cell_of_row _ _ 1 _ 70 _ HXB2.out]; rfl)
  have v2 : w2.cell? ⟨w.heap.size, 2, none⟩ = some (.int .u64 kb) := (by rw [cell_of_row _ _ 2 _ 70 _ HXB2.out]; rfl)
  have v3 : w2.cell? ⟨w.heap.size, 3, none⟩ = some (.string kt) := (by rw [cell_of_row _ _ 3 _ 70 _ HXB2.out]; rfl)
  have v4 : w2.cell? ⟨w.heap.size, 4, none⟩ = some (.slice kna knn knc) := (by rw [cell_of_row _ _ 4 _ 70 _ HXB2.out]; rfl)
  have v5 : w2.cell? ⟨w.heap.size, 5, none⟩ = some (.slice kka kkn kkc) := (by rw [cell_of_row _ _ 5 _ 70 _ HXB2.out]; rfl)
  have v6 : w2.cell? ⟨w.heap.size, 6, none⟩ = some (.pointer kfp) := (by rw [cell_of_row _ _ 6 _ 70 _ HXB2.out]; rfl)
  have v7 : w2.cell? ⟨w.heap.size, 7, none⟩ = some (.int .i64 khv) := (by rw [cell_of_row _ _ 7 _ 70 _ HXB2.out]; rfl)
  have HNM := Lib.hid (HOK.out.on HBZ.out).names
  have HKD := Lib.hid (HOK.out.on HBZ.out).kids
  have HNL := Lib.hid HOK.out.names.1
  have HKL := Lib.hid HOK.out.kids.1
  have hnb : (nn : Int) ≤ 100000 := (by have h9 := HOK.out.nnb; (try simp only at h9); omega)
  go_wp2
  go_loopw [43] (fun s43 wr => ∃ j : Nat, s43 = .int .i64 (j : Int) ∧ j ≤ nn ∧ Hid (Below w2.heap.size w2 wr) ∧ Hid (∀ n, n < j → ((fld n).isSome && res n) = true)) (fun s43 _ => nn - (intOf s43).toNat)
  case atStart => exact ⟨0, rfl, Nat.zero_le _, Lib.hid (Below.refl _ _), Lib.hid (fun n hn => by omega)⟩
  case round =>
    obtain ⟨j, rfl, hj, HBR, HA⟩ := hrel
    have hwj : IntKind.i64.wrap ((j : Int) + 1) = (j : Int) + 1 := by rw [IntKind.wrap_i64]; omega
    have HBQ : Hid (Below w.heap.size w wr) := Lib.hid (HBZ.out.trans (HBR.out.mono HBZ.out.size))
    have HYR := Lib.hid ((HBR.out.block _ HYL.out).trans HY.out)
    have HXR := Lib.hid ((HBR.out.block _ (Nat.lt_trans HXL.out HYL.out)).trans HXB2.out)
    have HSR := Lib.hid HBR.out.size
    have x0 : wr.cell? ⟨w.heap.size, 0, none⟩ = some (.int .i64 kd) := (by rw [cell_of_row _ _ 0 _ 70 _ HXR.out]; rfl)
    have x1 : wr.cell? ⟨w.heap.size, 1, none⟩ = some (.int .i64 ki) := (by rw [cell_of_row _ _ 1 _ 70 _ HXR.out]; rfl)
    have x2 : wr.cell? ⟨w.heap.size, 2, none⟩ = some (.int .u64 kb) := (by rw [cell_of_row _ _ 2 _ 70 _ HXR.out]; rfl)
    have x3 : wr.cell? ⟨w.heap.size, 3, none⟩ = some (.string kt) := (by rw [cell_of_row _ _ 3 _ 70 _ HXR.out]; rfl)
    have x4 : wr.cell? ⟨w.heap.size, 4, none⟩ = some (.slice kna knn knc) := (by rw [cell_of_row _ _ 4 _ 70 _ HXR.out]; rfl)
    have x5 : wr.cell? ⟨w.heap.size, 5, none⟩ = some (.slice kka kkn kkc) := (by rw [cell_of_row _ _ 5 _ 70 _ HXR.out]; rfl)
    have x6 : wr.cell? ⟨w.heap.size, 6, none⟩ = some (.pointer kfp) := (by rw [cell_of_row _ _ 6 _ 70 _ HXR.out]; rfl)
    have x7 : wr.cell? ⟨w.heap.size, 7, none⟩ = some (.int .i64 khv) := (by rw [cell_of_row _ _ 7 _ 70 _ HXR.out]; rfl)
    have y2 : wr.cell? ⟨w1.heap.size, 2, none⟩ = some (.slice ka kn kc) := (by rw [cell_of_row _ _ 2 _ 38 _ HYR.out]; rfl)
    by_cases hjn : j < nn
    · have hjn2 : (j : Int) < nn := by omega
      have hjn3 : (j : Int) < kn := by have := HNK.out; omega
      obtain ⟨s, hs⟩ : ∃ s, NS[j]? = some s := ⟨_, List.getElem?_eq_getElem (by have h9 := HNL.out; (try simp only at h9); rw [← h9]; exact hjn)⟩
      obtain ⟨k, hk⟩ : ∃ k, KS[j]? = some k := ⟨_, List.getElem?_eq_getElem (by have h9 := HKL.out; (try simp only at h9); rw [← h9, ← HNK.out]; exact hjn)⟩
      obtain ⟨gn, on, en, hgn, hcn⟩ := HNM.out.2.resolve_left (by (try simp only); omega)
      obtain ⟨gk, ok, ek, hgk, hck⟩ := HKD.out.2.resolve_left (by have := HNK.out; (try simp only); omega)
      (try simp only at en ek)
      have cs : wr.cell? ⟨gn, on + j, none⟩ = some (.string s) := keepB HBR.out hgn (hcn j s hs)
      have ck : wr.cell? ⟨gk, ok + j, none⟩ = some (.int .i64 k) := keepB HBR.out hgk (hck j k hk)
      have HGK : Hid (gk < wr.heap.size) := Lib.hid (Nat.lt_of_lt_of_le hgk HBR.out.size)
      have HFJ := Lib.hid (HF.out j s hs)
      have HRJ := Lib.hid (fun kk h => HR.out j kk k h hk)
      clear hs hk hcn hck hgn hgk
      subst en ek
      have HFLD : Hid (∃ f, fld j = f) := Lib.hid ⟨_, rfl⟩
      obtain ⟨f, hf⟩ := HFLD.out
      have HFE := Lib.hid hf
      rw [hf] at HFJ
      clear hf
      cases f with
      | none =>
        have HBAD : Hid (((List.range nn).all fun n => (fld n).isSome && res n) = false) := Lib.hid (List.all_eq_false.2 ⟨j, List.mem_range.2 hjn, by rw [HFE.out]; simp⟩)
        have HFN : Hid (∀ w'', Below w.heap.size w w'' → Calls Tryz.prog 60 #[.agg #[.int .i64 kd, .int .i64 ki, .int .u64 kb, .string kt, .slice kna knn knc, .slice kka kkn kkc, .pointer kfp, .int .i64 khv], .string s] w'' fun e w3 => e = .returned (.tuple #[.agg #[.int .i64 0, .int .i64 0, .int .u64 0, .string ⟨#[]⟩, .slice none 0 0, .slice none 0 0, .pointer none, .int .i64 0], .bool false]) ∧ Below w''.heap.size w'' w3) := Lib.hid HFJ.out
        clear HFJ HRJ
        go_upto_region 17 with (go_at_call 60; (with_reducible refine (HFN.out _ HBQ.out).mono ?_); rintro e w5 ⟨rfl, hb5⟩; have HB5 := Lib.hid hb5; clear hb5)
        have HB6 : Hid (Below w.heap.size w (w5.alloc (.cells #[.int .i64 0, .int .i64 0, .int .u64 0, .string ⟨#[]⟩, .slice none 0 0, .slice none 0 0, .pointer none, .int .i64 0] 70))) := Lib.hid ((HBQ.out.trans (HB5.out.mono HBQ.out.size)).alloc (Nat.le_trans HBQ.out.size HB5.out.size) _)
        generalize (w5.alloc (.cells #[.int .i64 0, .int .i64 0, .int .u64 0, .string ⟨#[]⟩, .slice none 0 0, .slice none 0 0, .pointer none, .int .i64 0] 70)) = w6 at *
        go_quiet (fail)
        go_wp2
        go_ret
        exact ⟨by rw [HRF.out HBAD.out]; rfl, below_drewN HB6.out⟩
      | some kk =>
        have HRK := Lib.hid (HRJ.out kk HFE.out)
        clear HRJ
        obtain ⟨xkd, xki, xkb, xkt, xna, xnn, xnc, xka, xkn, xkc, xfp, xhv⟩ := kk
        have HFN : Hid (∀ w'', Below w.heap.size w w'' → Calls Tryz.prog 60 #[.agg #[.int .i64 kd, .int .i64 ki, .int .u64 kb, .string kt, .slice kna knn knc, .slice kka kkn kkc, .pointer kfp, .int .i64 khv], .string s] w'' fun e w3 => e = .returned (.tuple #[.agg #[.int .i64 xkd, .int .i64 xki, .int .u64 xkb, .string xkt, .slice xna xnn xnc, .slice xka xkn xkc, .pointer xfp, .int .i64 xhv], .bool true]) ∧ Below w''.heap.size w'' w3) := Lib.hid HFJ.out
        have HRN : Hid (∀ w'', Below w.heap.size w w'' → Calls Tryz.prog 51 #[.agg #[.int .i64 xkd, .int .i64 xki, .int .u64 xkb, .string xkt, .slice xna xnn xnc, .slice xka xkn xkc, .pointer xfp, .int .i64 xhv], .slice (some ⟨g, o, none⟩) ln lc, .int .i64 k] w'' (BoolPost w'' (res j))) := Lib.hid HRK.out
        clear HFJ HRK
        go_upto_region 17 with (go_at_call 60; (with_reducible refine (HFN.out _ HBQ.out).mono ?_); rintro e w5 ⟨rfl, hb5⟩; have HB5 := Lib.hid hb5; clear hb5)
        have HB6 : Hid (Below w.heap.size w (w5.alloc (.cells #[.int .i64 xkd, .int .i64 xki, .int .u64 xkb, .string xkt, .slice xna xnn xnc, .slice xka xkn xkc, .pointer xfp, .int .i64 xhv] 70))) := Lib.hid ((HBQ.out.trans (HB5.out.mono HBQ.out.size)).alloc (Nat.le_trans HBQ.out.size HB5.out.size) _)
        have HR6 : Hid (Below wr.heap.size wr (w5.alloc (.cells #[.int .i64 xkd, .int .i64 xki, .int .u64 xkb, .string xkt, .slice xna xnn xnc, .slice xka xkn xkc, .pointer xfp, .int .i64 xhv] 70))) := Lib.hid (HB5.out.alloc HB5.out.size _)
        have HB26 : Hid (Below w2.heap.size w2 (w5.alloc (.cells #[.int .i64 xkd, .int .i64 xki, .int .u64 xkb, .string xkt, .slice xna xnn xnc, .slice xka xkn xkc, .pointer xfp, .int .i64 xhv] 70))) := Lib.hid (HBR.out.trans (HR6.out.mono HBR.out.size))
        have hn6 : (w5.alloc (.cells #[.int .i64 xkd, .int .i64 xki, .int .u64 xkb, .string xkt, .slice xna xnn xnc, .slice xka xkn xkc, .pointer xfp, .int .i64 xhv] 70)).heap[w5.heap.size]? = some (.cells #[.int .i64 xkd, .int .i64 xki, .int .u64 xkb, .string xkt, .slice xna xnn xnc, .slice xka xkn xkc, .pointer xfp, .int .i64 xhv] 70 (0, 0)) := heap_alloc_new w5 _
        have HN6 := Lib.hid hn6
        have HL6 : Hid (w5.heap.size < (w5.alloc (.cells #[.int .i64 xkd, .int .i64 xki, .int .u64 xkb, .string xkt, .slice xna xnn xnc, .slice xka xkn xkc, .pointer xfp, .int .i64 xhv] 70)).heap.size) := Lib.hid (Array.getElem?_eq_some_iff.1 hn6).1
        clear hn6
        generalize (w5.alloc (.cells #[.int .i64 xkd, .int .i64 xki, .int .u64 xkb, .string xkt, .slice xna xnn xnc, .slice xka xkn xkc, .pointer xfp, .int .i64 xhv] 70)) = w6 at *
        have p0 : w6.cell? ⟨w5.heap.size, 0, none⟩ = some (.int .i64 xkd) := (by rw [cell_of_row _ _ 0 _ 70 _ HN6.out]; rfl)
        have p1 : w6.cell? ⟨w5.heap.size, 1, none⟩ = some (.int .i64 xki) := (by rw [cell_of_row _ _ 1 _ 70 _ HN6.out]; rfl)
        have p2 : w6.cell? ⟨w5.heap.size, 2, none⟩ = some (.int .u64 xkb) := (by rw [cell_of_row _ _ 2 _ 70 _ HN6.out]; rfl)
        have p3 : w6.cell? ⟨w5.heap.size, 3, none⟩ = some (.string xkt) := (by rw [cell_of_row _ _ 3 _ 70 _ HN6.out]; rfl)
        have p4 : w6.cell? ⟨w5.heap.size, 4, none⟩ = some (.slice xna xnn xnc) := (by rw [cell_of_row _ _ 4 _ 70 _ HN6.out]; rfl)
        have p5 : w6.cell? ⟨w5.heap.size, 5, none⟩ = some (.slice xka xkn xkc) := (by rw [cell_of_row _ _ 5 _ 70 _ HN6.out]; rfl)
        have p6 : w6.cell? ⟨w5.heap.size, 6, none⟩ = some (.pointer xfp) := (by rw [cell_of_row _ _ 6 _ 70 _ HN6.out]; rfl)
        have p7 : w6.cell? ⟨w5.heap.size, 7, none⟩ = some (.int .i64 xhv) := (by rw [cell_of_row _ _ 7 _ 70 _ HN6.out]; rfl)
        have z2 : w6.cell? ⟨w1.heap.size, 2, none⟩ = some (.slice (some ⟨gk, ok, none⟩) kn kc) := keepB HR6.out (Nat.lt_of_lt_of_le HYL.out HSR.out) y2
        have zk : w6.cell? ⟨gk, ok + j, none⟩ = some (.int .i64 k) := keepB HR6.out HGK.out ck
        have HY6 : Hid (w1.heap.size < w6.heap.size) := Lib.hid (Nat.lt_of_lt_of_le (Nat.lt_of_lt_of_le HYL.out HSR.out) HR6.out.size)
        have HK6 : Hid (gk < w6.heap.size) := Lib.hid (Nat.lt_of_lt_of_le HGK.out HR6.out.size)
        have HRES : Hid (∃ b, res j = b) := Lib.hid ⟨_, rfl⟩
        obtain ⟨b, hb⟩ := HRES.out
        have HRB := Lib.hid hb
        rw [hb] at HRN
        clear hb
        go_region_held3 (fun w' => w'.cell? ⟨w5.heap.size, 0, none⟩ = some (.int .i64 xkd) ∧ w'.cell? ⟨w5.heap.size, 1, none⟩ = some (.int .i64 xki) ∧ w'.cell? ⟨w5.heap.size, 2, none⟩ = some (.int .u64 xkb) ∧ w'.cell? ⟨w5.heap.size, 3, none⟩ = some (.string xkt) ∧ w'.cell? ⟨w5.heap.size, 4, none⟩ = some (.slice xna xnn xnc) ∧ w'.cell? ⟨w5.heap.size, 5, none⟩ = some (.slice xka xkn xkc) ∧ w'.cell? ⟨w5.heap.size, 6, none⟩ = some (.pointer xfp) ∧ w'.cell? ⟨w5.heap.size, 7, none⟩ = some (.int .i64 xhv) ∧ w'.cell? ⟨w1.heap.size, 2, none⟩ = some (.slice (some ⟨gk, ok, none⟩) kn kc) ∧ w'.cell? ⟨gk, ok + j, none⟩ = some (.int .i64 k)) (first | exact ⟨p0, p1, p2, p3, p4, p5, p6, p7, z2, zk⟩ | exact ⟨keepB HC5.out HL6.out p0, keepB HC5.out HL6.out p1, keepB HC5.out HL6.out p2, keepB HC5.out HL6.out p3, keepB HC5.out HL6.out p4, keepB HC5.out HL6.out p5, keepB HC5.out HL6.out p6, keepB HC5.out HL6.out p7, keepB HC5.out HY6.out z2, keepB HC5.out HK6.out zk⟩)
          ((go_at_call 51; (with_reducible refine (HRN.out _ (by exact HB6.out.drew)).mono ?_); rintro e w7 ⟨rfl, hb7⟩; have HC5 := Lib.hid (show Below w6.heap.size w6 w7 from (Below.refl _ _).drew.trans hb7); clear hb7))
        cases b with
        | true =>
          go_wp2
          go_roundw
          case rel => exact ⟨j + 1, by go_num, by omega, Lib.hid (HB26.out.trans (HC5.out.mono HB26.out.size)), Lib.hid (fun n hn => by
            by_cases he : n = j
            · subst he
              rw [HFE.out, HRB.out]
              rfl
            · exact HA.out n (by omega))⟩
          case measure => simp [intOf]; omega
        | false =>
          have HBAD : Hid (((List.range nn).all fun n => (fld n).isSome && res n) = false) := Lib.hid (List.all_eq_false.2 ⟨j, List.mem_range.2 hjn, by rw [HFE.out, HRB.out]; simp⟩)
          go_wp2
          go_ret
          exact ⟨by rw [HRF.out HBAD.out]; rfl, HB6.out.trans (HC5.out.mono HB6.out.size)⟩
    · have hjn2 : ¬ (j : Int) < nn := by omega
      have HALL : Hid (((List.range nn).all fun n => (fld n).isSome && res n) = true) := Lib.hid (List.all_eq_true.2 (fun n hn => HA.out n (by have := List.mem_range.1 hn; omega)))
      go_wp2
      go_ret
      exact ⟨by rw [HRT.out HALL.out]; rfl, HBQ.out⟩
set_option maxRecDepth 20000 in
set_option maxHeartbeats 4000000 in
theorem vhas_tag (w : World) (la : Option Addr) (ln lc : Nat) (HS : List Hd) (hH : HeadsIn w la ln HS) (hln : (ln : Int) ≤ 100000) (i : Nat) (hd : Int) (na : Option Addr) (nn nc : Nat) (NS : List ByteArray) (ka : Option Addr) (kn kc : Nat) (KS : List Int) (op : Bool) (hi : HS[i]? = some ⟨hd, na, nn, nc, NS, ka, kn, kc, KS, op⟩) (kd ki kb : Int) (kt : ByteArray) (kna : Option Addr) (knn knc : Nat) (kka : Option Addr) (kkn kkc : Nat) (kfp : Option Addr) (khv : Int) (K : Val.Kid) (gv : Nat) (res : Bool) (h9 : hd = 9) (h5 : kd = 5) (hN' : nn = kn) (hrn : risesB NS = true) (hka : kka = some ⟨gv, 0, none⟩) (hkn : kkn = 1) (hkc : 1 ≤ kkc) (hgv : gv < w.heap.size) (hc' : ∀ (p : Nat) u, K.cells[p]? = some u → w.cell? ⟨gv, p, none⟩ = some u)
    (hR : 0 ≤ findK NS KS kt → ∀ w'', Below w.heap.size w w'' → Calls Tryz.prog 51 #[K.val, .slice la ln lc, .int .i64 (findK NS KS kt)] w'' (BoolPost w'' res)) :
    Calls Tryz.prog 51 #[.agg #[.int .i64 kd, .int .i64 ki, .int .u64 kb, .string kt, .slice kna knn knc, .slice kka kkn kkc, .pointer kfp, .int .i64 khv], .slice la ln lc, .int .i64 (i : Int)] w (BoolPost w (if findK NS KS kt < 0 then op else res)) := by
  have HRT : Hid (findK NS KS kt < 0 → (if findK NS KS kt < 0 then op else res) = op) := Lib.hid (fun e => if_pos e)
  have HRF : Hid (¬ findK NS KS kt < 0 → (if findK NS KS kt < 0 then op else res) = res) := Lib.hid (fun e => if_neg e)
  generalize (if findK NS KS kt < 0 then op else res) = RR at *
  have HR := Lib.hid hR
  have HNK := Lib.hid hN'
  have HRN := Lib.hid hrn
  have HCC := Lib.hid hc'
  have HGV := Lib.hid hgv
  have hkc2 : (1 : Int) ≤ kkc := by omega
  clear hR hN' hrn hc' hgv
  subst h9 h5 hka hkn
  have HL := Lib.hid hH.1
  have HH := Lib.hid hi
  have hil : i < ln := by rw [hH.1]; exact (List.getElem?_eq_some_iff.1 hi).1
  have hil2 : (i : Int) < ln := by omega
  obtain ⟨g, o, rfl, hg, hc⟩ := hH.2.resolve_left (by omega)
  have hin := hc i _ hi
  have HOK := Lib.hid hin.ok
  have HG := Lib.hid hg
  have hxb : (w.alloc (.cells #[.int .i64 5, .int .i64 ki, .int .u64 kb, .string kt, .slice kna knn knc, .slice (some ⟨gv, 0, none⟩) 1 kkc, .pointer kfp, .int .i64 khv] 70)).heap[w.heap.size]? = some (.cells #[.int .i64 5, .int .i64 ki, .int .u64 kb, .string kt, .slice kna knn knc, .slice (some ⟨gv, 0, none⟩) 1 kkc, .pointer kfp, .int .i64 khv] 70 (0, 0)) := heap_alloc_new w _
  have HXB := Lib.hid hxb
  have HBA : Hid (Below w.heap.size w (w.alloc (.cells #[.int .i64 5, .int .i64 ki, .int .u64 kb, .string kt, .slice kna knn knc, .slice (some ⟨gv, 0, none⟩) 1 kkc, .pointer kfp, .int .i64 khv] 70))) := Lib.hid ((Below.refl _ _).alloc (Nat.le_refl _) _)
  have h0 : (w.alloc (.cells #[.int .i64 5, .int .i64 ki, .int .u64 kb, .string kt, .slice kna knn knc, .slice (some ⟨gv, 0, none⟩) 1 kkc, .pointer kfp, .int .i64 khv] 70)).cell? ⟨g, o + i * 4, none⟩ = some (.int .i64 9) := keepB HBA.out hg hin.c0
  have h1 : (w.alloc (.cells #[.int .i64 5, .int .i64 ki, .int .u64 kb, .string kt, .slice kna knn knc, .slice (some ⟨gv, 0, none⟩) 1 kkc, .pointer kfp, .int .i64 khv] 70)).cell? ⟨g, o + i * 4 + 1, none⟩ = some (.slice na nn nc) := keepB HBA.out hg hin.c1
  have h2 : (w.alloc (.cells #[.int .i64 5, .int .i64 ki, .int .u64 kb, .string kt, .slice kna knn knc, .slice (some ⟨gv, 0, none⟩) 1 kkc, .pointer kfp, .int .i64 khv] 70)).cell? ⟨g, o + i * 4 + 2, none⟩ = some (.slice ka kn kc) := keepB HBA.out hg hin.c2
  have h3 : (w.alloc (.cells #[.int .i64 5, .int .i64 ki, .int .u64 kb, .string kt, .slice kna knn knc, .slice (some ⟨gv, 0, none⟩) 1 kkc, .pointer kfp, .int .i64 khv] 70)).cell? ⟨g, o + i * 4 + 3, none⟩ = some (.bool op) := keepB HBA.out hg hin.c3
  clear hxb hc hg hin hi hH
  go_enter Tryz.func51, Tryz.ntmps51
  go_upto_region 1 with (fail)
  generalize (w.alloc (.cells #[.int .i64 5, .int .i64 ki, .int .u64 kb, .string kt, .slice kna knn knc, .slice (some ⟨gv, 0, none⟩) 1 kkc, .pointer kfp, .int .i64 khv] 70)) = w1 at *
  have HXL : Hid (w.heap.size < w1.heap.size) := Lib.hid (Array.getElem?_eq_some_iff.1 HXB.out).1
  have hy : (w1.alloc (.cells #[.int .i64 9, .slice na nn nc, .slice ka kn kc, .bool op] 38)).heap[w1.heap.size]? = some (.cells #[.int .i64 9, .slice na nn nc, .slice ka kn kc, .bool op] 38 (0, 0)) := heap_alloc_new w1 _
  have HY := Lib.hid hy
  have HBY : Hid (Below w1.heap.size w1 (w1.alloc (.cells #[.int .i64 9, .slice na nn nc, .slice ka kn kc, .bool op] 38))) := Lib.hid ((Below.refl _ _).alloc (Nat.le_refl _) _)
  clear hy
  go_upto_region 2 with (fail)
  clear h0 h1 h2 h3
  generalize (w1.alloc (.cells #[.int .i64 9, .slice na nn nc, .slice ka kn kc, .bool op] 38)) = w2 at *
  have HYL : Hid (w1.heap.size < w2.heap.size) := Lib.hid (Array.getElem?_eq_some_iff.1 HY.out).1
  have HXB2 := Lib.hid ((HBY.out.block _ HXL.out).trans HXB.out)
  have HBZ : Hid (Below w.heap.size w w2) := Lib.hid (HBA.out.trans (HBY.out.mono HBA.out.size))
  have b0 : w2.cell? ⟨w1.heap.size, 0, none⟩ = some (.int .i64 9) := (by rw [cell_of_row _ _ 0 _ 38 _ HY.out]; rfl)
  have b1 : w2.cell? ⟨w1.heap.size, 1, none⟩ = some (.slice na nn nc) := (by rw [cell_of_row _ _ 1 _ 38 _ HY.out]; rfl)
  have b2 : w2.cell? ⟨w1.heap.size, 2, none⟩ = some (.slice ka kn kc) := (by rw [cell_of_row _ _ 2 _ 38 _ HY.out]; rfl)
  have b3 : w2.cell? ⟨w1.heap.size, 3, none⟩ = some (.bool op) := (by rw [cell_of_row _ _ 3 _ 38 _ HY.out]; rfl)
  have v0 : w2.cell? ⟨w.heap.size, 0, none⟩ = some (.int .i64 5) := (by rw [cell_of_row _ _ 0 _ 70 _ HXB2.out]; rfl)
  have v1 : w2.cell? ⟨w.heap.size, 1, none⟩ = some (.int .i64 ki) := (by rw [cell_of_row _ _ 1 _ 70 _ HXB2.out]; rfl)
  have v2 : w2.cell? ⟨w.heap.size, 2, none⟩ = some (.int .u64 kb) := (by rw [cell_of_row _ _ 2 _ 70 _ HXB2.out]; rfl)
  have v3 : w2.cell? ⟨w.heap.size, 3, none⟩ = some (.string kt) := (by rw [cell_of_row _ _ 3 _ 70 _ HXB2.out]; rfl)
  have v4 : w2.cell? ⟨w.heap.size, 4, none⟩ = some (.slice kna knn knc) := (by rw [cell_of_row _ _ 4 _ 70 _ HXB2.out]; rfl)
  have v5 : w2.cell? ⟨w.heap.size, 5, none⟩ = some (.slice (some ⟨gv, 0, none⟩) 1 kkc) := (by rw [cell_of_row _ _ 5 _ 70 _ HXB2.out]; rfl)
  have v6 : w2.cell? ⟨w.heap.size, 6, none⟩ = some (.pointer kfp) := (by rw [cell_of_row _ _ 6 _ 70 _ HXB2.out]; rfl)
  have v7 : w2.cell? ⟨w.heap.size, 7, none⟩ = some (.int .i64 khv) := (by rw [cell_of_row _ _ 7 _ 70 _ HXB2.out]; rfl)
  have HKID := Lib.hid (kid_any w2 9 na nn nc NS ka kn kc KS op kt (HOK.out.on HBZ.out).names (HOK.out.on HBZ.out).kids HOK.out.nnb HNK.out HRN.out)
  obtain ⟨xkd, xki, xkb, xkt, xna, xnn, xnc, xka, xkn, xkc, xfp, xhv⟩ := K
  have HFK : Hid (∃ f, findK NS KS kt = f) := Lib.hid ⟨_, rfl⟩
  obtain ⟨f, hf⟩ := HFK.out
  rw [hf] at HKID HR HRT HRF
  clear hf
  by_cases hf0 : f < 0
  · have hf1 : ¬ (0 : Int) ≤ f := by omega
    have HIF : Hid (RR = op) := Lib.hid (HRT.out hf0)
    cases op
    all_goals
      go_wp2_with (go_at_call 61; (with_reducible refine HKID.out.mono ?_); rintro e w5 ⟨rfl, hb5⟩; have HB5 := Lib.hid hb5; have HY5 := Lib.hid ((HB5.out.block _ HYL.out).trans HY.out); have c3 : w5.cell? ⟨w1.heap.size, 3, none⟩ = some (.bool _) := (by rw [cell_of_row _ _ 3 _ 38 _ HY5.out]; rfl); clear hb5)
      go_ret
      exact ⟨by rw [HIF.out]; rfl, HBZ.out.trans (HB5.out.mono HBZ.out.size)⟩
  · have hf1 : (0 : Int) ≤ f := by omega
    have HIF : Hid (RR = res) := Lib.hid (HRF.out hf0)
    have HRN : Hid (∀ w'', Below w.heap.size w w'' → Calls Tryz.prog 51 #[.agg #[.int .i64 xkd, .int .i64 xki, .int .u64 xkb, .string xkt, .slice xna xnn xnc, .slice xka xkn xkc, .pointer xfp, .int .i64 xhv], .slice (some ⟨g, o, none⟩) ln lc, .int .i64 f] w'' (BoolPost w'' res)) := Lib.hid (HR.out hf1)
    cases res
    all_goals
      go_wp2_with (first | (go_at_call 61; (with_reducible refine HKID.out.mono ?_); rintro e w5 ⟨rfl, hb5⟩; have HB5 := Lib.hid hb5; have HBW5 := Lib.hid (HBZ.out.trans (HB5.out.mono HBZ.out.size)); have HX5 := Lib.hid ((HB5.out.block _ (Nat.lt_trans HXL.out HYL.out)).trans HXB2.out); have c5 : w5.cell? ⟨w.heap.size, 5, none⟩ = some (.slice (some ⟨gv, 0, none⟩) 1 kkc) := (by rw [cell_of_row _ _ 5 _ 70 _ HX5.out]; rfl); have u0 : w5.cell? ⟨gv, 0, none⟩ = some (.int .i64 xkd) := keepB HBW5.out HGV.out (HCC.out 0 _ rfl); have u1 : w5.cell? ⟨gv, 1, none⟩ = some (.int .i64 xki) := keepB HBW5.out HGV.out (HCC.out 1 _ rfl); have u2 : w5.cell? ⟨gv, 2, none⟩ = some (.int .u64 xkb) := keepB HBW5.out HGV.out (HCC.out 2 _ rfl); have u3 : w5.cell? ⟨gv, 3, none⟩ = some (.string xkt) := keepB HBW5.out HGV.out (HCC.out 3 _ rfl); have u4 : w5.cell? ⟨gv, 4, none⟩ = some (.slice xna xnn xnc) := keepB HBW5.out HGV.out (HCC.out 4 _ rfl); have u5 : w5.cell? ⟨gv, 5, none⟩ = some (.slice xka xkn xkc) := keepB HBW5.out HGV.out (HCC.out 5 _ rfl); have u6 : w5.cell? ⟨gv, 6, none⟩ = some (.pointer xfp) := keepB HBW5.out HGV.out (HCC.out 6 _ rfl); have u7 : w5.cell? ⟨gv, 7, none⟩ = some (.int .i64 xhv) := keepB HBW5.out HGV.out (HCC.out 7 _ rfl); clear hb5) | (go_at_call 51; (with_reducible refine (HRN.out _ HBW5.out).mono ?_); rintro e w6 ⟨rfl, hb6⟩))
      go_ret
      exact ⟨by rw [HIF.out]; rfl, HBW5.out.trans (hb6.mono HBW5.out.size)⟩
end Go.Proofs.YtoakfninndkgaaaGreatDoor
set_option linter.unusedVariables false
namespace Go.Proofs.YtoakfninndkgaaaGreatDoor
open Go.RowKit
def kindsB : ByteArray := ⟨#[105, 98, 115, 102, 100, 42, 33, 62, 123, 91]⟩
def kindL : List UInt8 := [105, 98, 115, 102, 100, 42, 33, 62, 123, 91]
/-- a name, and a colon behind it. -/
def nmB (s : ByteArray) : ByteArray := s ++ ⟨#[58]⟩
theorem nmB_size (s : ByteArray) : (nmB s).size = s.size + 1 := by unfold nmB; rw [ByteArray.size_append]; rfl
def signHead (kd : Int) (op : Bool) : ByteArray := if op then ⟨#[93]⟩ else ⟨#[kindL.getD kd.toNat 0]⟩
def signB (kd : Int) (op : Bool) (NS : List ByteArray) : ByteArray := NS.foldl (fun acc s => acc ++ nmB s) (signHead kd op)
theorem foldl_take (f : ByteArray → ByteArray → ByteArray) (a : ByteArray) (NS : List ByteArray) (i : Nat) (s : ByteArray) (h : NS[i]? = some s) : (NS.take (i + 1)).foldl f a = f ((NS.take i).foldl f a) s := by
  rw [List.take_add_one, h]
  simp
set_option maxRecDepth 20000 in
set_option maxHeartbeats 2000000 in
theorem sign_any (w : World) (kd : Int) (na : Option Addr) (nn nc : Nat) (NS : List ByteArray) (ka : Option Addr) (kn kc : Nat) (op : Bool) (hN : NamesAt w na nn NS) (hn : nn ≤ 100000) (hz : ∀ s ∈ NS, s.size ≤ 100000) (hk : 0 ≤ kd ∧ kd ≤ 9) :
    Calls Tryz.prog 76 #[.agg #[.int .i64 kd, .slice na nn nc, .slice ka kn kc, .bool op]] w fun e w' => e = .returned (.string (signB kd op NS)) ∧ Below w.heap.size w w' := by
  have hxb : (w.alloc (.cells #[.int .i64 kd, .slice na nn nc, .slice ka kn kc, .bool op] 38)).heap[w.heap.size]? = some (.cells #[.int .i64 kd, .slice na nn nc, .slice ka kn kc, .bool op] 38 (0, 0)) := heap_alloc_new w _
  have hba : Below w.heap.size w (w.alloc (.cells #[.int .i64 kd, .slice na nn nc, .slice ka kn kc, .bool op] 38)) := (Below.refl _ _).alloc (Nat.le_refl _) _
  have HNM := Lib.hid (hN.on hba)
  have HNL := Lib.hid hN.1
  have HZ := Lib.hid hz
  have HAS : Hid ((signHead kd op).size ≤ 1) := Lib.hid (by unfold signHead; split <;> exact Nat.le_refl 1)
  have b0 : (w.alloc (.cells #[.int .i64 kd, .slice na nn nc, .slice ka kn kc, .bool op] 38)).cell? ⟨w.heap.size, 0, none⟩ = some (.int .i64 kd) := by rw [cell_of_row _ _ 0 _ 38 _ hxb]; rfl
  have b1 : (w.alloc (.cells #[.int .i64 kd, .slice na nn nc, .slice ka kn kc, .bool op] 38)).cell? ⟨w.heap.size, 1, none⟩ = some (.slice na nn nc) := by rw [cell_of_row _ _ 1 _ 38 _ hxb]; rfl
  have b3 : (w.alloc (.cells #[.int .i64 kd, .slice na nn nc, .slice ka kn kc, .bool op] 38)).cell? ⟨w.heap.size, 3, none⟩ = some (.bool op) := by rw [cell_of_row _ _ 3 _ 38 _ hxb]; rfl
  have HB := Lib.hid hba
  have hnn : (nn : Int) ≤ 100000 := by omega
  clear hxb hba hN hz
  generalize hw1 : (w.alloc (.cells #[.int .i64 kd, .slice na nn nc, .slice ka kn kc, .bool op] 38)) = w1 at HNM HB b0 b1 b3
  obtain ⟨acc, hacc⟩ : ∃ a, signHead kd op = a := ⟨_, rfl⟩
  rw [hacc] at HAS
  have HACC : Hid (signB kd op NS = NS.foldl (fun acc s => acc ++ nmB s) acc) := Lib.hid (by unfold signB; rw [hacc])
  generalize signB kd op NS = RR at *
  rcases (by omega : kd = 0 ∨ kd = 1 ∨ kd = 2 ∨ kd = 3 ∨ kd = 4 ∨ kd = 5 ∨ kd = 6 ∨ kd = 7 ∨ kd = 8 ∨ kd = 9) with rfl | rfl | rfl | rfl | rfl | rfl | rfl | rfl | rfl | rfl
  all_goals
    cases op
    all_goals
      have HA : Hid (acc = signHead _ _) := Lib.hid hacc.symm
      clear hacc
      go_enter Tryz.func76, Tryz.ntmps76
      go_upto_region 1 with (fail)
      clear hw1
      go_wp2
      go_loop [3, 15] (fun s3 s15 => ∃ i : Nat, s15 = .int .i64 (i : Int) ∧ i ≤ nn ∧ ∃ cur : ByteArray, s3 = .string cur ∧ (cur.size : Int) ≤ i * 100001 + 1 ∧ Hid (cur = (NS.take i).foldl (fun acc s => acc ++ nmB s) acc)) (fun _ s15 => nn - (intOf s15).toNat)
      case atStart => exact ⟨0, rfl, Nat.zero_le _, acc, (by rw [HA.out]; kernel_rfl), by have h9 := HAS.out; omega, Lib.hid rfl⟩
      case round =>
        obtain ⟨i, rfl, hi, cur, rfl, hcs, HCUR⟩ := hrel
        have hwi : IntKind.i64.wrap ((i : Int) + 1) = (i : Int) + 1 := by rw [IntKind.wrap_i64]; omega
        by_cases hin : i < nn
        · have hin2 : (i : Int) < nn := by omega
          obtain ⟨s, hs⟩ : ∃ s, NS[i]? = some s := ⟨_, List.getElem?_eq_getElem (by rw [← HNL.out]; exact hin)⟩
          obtain ⟨gn, on, en, hgn, hcn⟩ := HNM.out.2.resolve_left (by omega)
          have an := hcn i s hs
          have hss : (s.size : Int) ≤ 100000 := by have h9 := HZ.out s (List.mem_of_getElem? hs); omega
          have hss2 : s.size ≤ 100000 := by omega
          have hcs2 : cur.size ≤ 10001000000 := by omega
          have HNX := Lib.hid (foldl_take (fun acc s => acc ++ nmB s) acc NS i s hs)
          clear hs hcn
          subst en
          go_wp2
          go_round
          case rel => exact ⟨i + 1, by go_num, by omega, cur ++ nmB s, rfl, by rw [ByteArray.size_append, nmB_size]; omega, Lib.hid (by rw [HNX.out, ← HCUR.out])⟩
          case measure => simp [intOf]; omega
        · have hin2 : ¬ (i : Int) < nn := by omega
          obtain rfl : i = nn := by omega
          have HTK : Hid (NS.take i = NS) := Lib.hid (List.take_of_length_le (by rw [← HNL.out]; exact Nat.le_refl _))
          go_wp2
          go_ret
          exact ⟨by rw [HACC.out, ← HTK.out, ← HCUR.out]; rfl, HB.out⟩
end Go.Proofs.YtoakfninndkgaaaGreatDoor
