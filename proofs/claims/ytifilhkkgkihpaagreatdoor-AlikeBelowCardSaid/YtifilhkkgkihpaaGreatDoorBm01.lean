/- Walks and plain facts. -/
import Derived.Test.YtifilhkkgkihpaaGreatDoorAs11
set_option linter.unusedSimpArgs false
set_option linter.unusedVariables false
namespace Go.Proofs.YtifilhkkgkihpaaGreatDoor
open Go.RowKit
def NormalPost (w : World) (HS : List Hd) (root : Nat) (e : Ending) (w' : World) : Prop := ∃ (g c : Nat) (OS : List Hd) (cl ord : List Nat), e = .returned (.tuple #[.agg #[.slice (some ⟨g, 0, none⟩) OS.length c, .int .i64 0], .int .i64 0]) ∧ w.heap.size ≤ g ∧ HeadsIn w' (some ⟨g, 0, none⟩) OS.length OS ∧ (∀ x ∈ OS, (x.na = none → x.nc = 0) ∧ (x.ka = none → x.kc = 0) ∧ ∀ ad, blkOf x ad → w.heap.size ≤ ad.block) ∧ cl.length = HS.length ∧ Stands HS cl ∧ Coarse HS cl ∧ NPl HS cl root ord OS [] ∧ OS.length = ord.length ∧ Below w.heap.size w w'
set_option maxRecDepth 20000 in
set_option maxHeartbeats 4000000 in
theorem normal_ok (w : World) (la : Option Addr) (ln lc root : Nat) (HS : List Hd) (hH : HeadsIn w la ln HS) (hf : HS.all fewH = true) (h1 : root < ln) (h25 : ln ≤ 100) (hg : graphB (root : Int) HS = true) (hnc : ∀ x ∈ HS, x.na = none → x.nc = 0) :
    Calls Tryz.prog 40 #[.agg #[.slice la ln lc, .int .i64 (root : Int)]] w (NormalPost w HS root) := by
  have hok := (OkHeads.of_graph hg).1
  have hb0 : Below w.heap.size w (w.alloc (.cells #[.slice la ln lc, .int .i64 (root : Int)] 36)) := (Below.refl _ _).alloc (Nat.le_refl _) _
  have HB0 : Hid (Below w.heap.size w ((w.alloc (.cells #[.slice la ln lc, .int .i64 (root : Int)] 36)).alloc (.cells #[.slice none 0 0, .int .i64 0] 36))) := Lib.hid (hb0.alloc hb0.size _)
  have HX1 : Hid (((w.alloc (.cells #[.slice la ln lc, .int .i64 (root : Int)] 36)).alloc (.cells #[.slice none 0 0, .int .i64 0] 36)).heap[w.heap.size]? = some (.cells #[.slice la ln lc, .int .i64 (root : Int)] 36 (0, 0))) := Lib.hid (by rw [Below.heap_alloc _ _ _ (by simp)]; exact heap_alloc_new w _)
  have HX2 : Hid (((w.alloc (.cells #[.slice la ln lc, .int .i64 (root : Int)] 36)).alloc (.cells #[.slice none 0 0, .int .i64 0] 36)).heap[w.heap.size + 1]? = some (.cells #[.slice none 0 0, .int .i64 0] 36 (0, 0))) := Lib.hid (by
    have := heap_alloc_new (w.alloc (.cells #[.slice la ln lc, .int .i64 (root : Int)] 36)) (.cells #[.slice none 0 0, .int .i64 0] 36)
    simpa using this)
  have HCK := Lib.hid (check_any _ la ln lc (root : Int) HS (hH.on HB0.out) (by unfold maxLen; omega))
  have HNR : Hid (∀ w', Below w.heap.size w w' → Calls Tryz.prog 77 #[.slice la ln lc, .int .i64 (root : Int)] w' (NormPost w' HS root)) := Lib.hid (fun w' hb => normal_any w' la ln lc root HS (hH.on hb) hf h1 h25 hok hnc)
  rw [hg] at HCK
  clear hok hb0 hH hf hg hnc
  go_enter Tryz.func40, Tryz.ntmps40
  go_upto_region 1 with (fail)
  generalize ((w.alloc (.cells #[.slice la ln lc, .int .i64 (root : Int)] 36)).alloc (.cells #[.slice none 0 0, .int .i64 0] 36)) = w1 at *
  have hl1 : w.heap.size + 1 < w1.heap.size := (Array.getElem?_eq_some_iff.1 HX2.out).1
  have HL1 := Lib.hid hl1
  have a0 : w1.cell? ⟨w.heap.size, 0, none⟩ = some (.slice la ln lc) := (by rw [cell_of_row _ _ 0 _ 36 _ HX1.out]; rfl)
  have a1 : w1.cell? ⟨w.heap.size, 1, none⟩ = some (.int .i64 (root : Int)) := (by rw [cell_of_row _ _ 1 _ 36 _ HX1.out]; rfl)
  go_upto_region 4 with (go_at_call 38; (with_reducible refine HCK.out.mono ?_); rintro e w2 ⟨rfl, hb2⟩; have HB2 := Lib.hid hb2; clear hb2)
  have HX1' := Lib.hid ((HB2.out.block _ (by have := HL1.out; omega)).trans HX1.out)
  have HX2' := Lib.hid ((HB2.out.block _ HL1.out).trans HX2.out)
  have b0 : w2.cell? ⟨w.heap.size, 0, none⟩ = some (.slice la ln lc) := (by rw [cell_of_row _ _ 0 _ 36 _ HX1'.out]; rfl)
  have b1 : w2.cell? ⟨w.heap.size, 1, none⟩ = some (.int .i64 (root : Int)) := (by rw [cell_of_row _ _ 1 _ 36 _ HX1'.out]; rfl)
  have HBB : Hid (Below w.heap.size w w2) := Lib.hid (HB0.out.trans (HB2.out.mono HB0.out.size))
  have HN2 := Lib.hid (HNR.out w2 HBB.out)
  clear a0 a1
  go_wp2_with (first
    | (go_at_call 77; (with_reducible refine HN2.out.mono ?_); rintro e w3 ⟨g3, c3, OS, cl, ord, rfl, hg3, hH3, hO3, hcl3, hst3, hco3, hnp3, hll3, hb3⟩; have HG3 := Lib.hid hg3; have HH3 := Lib.hid hH3; have HO3 := Lib.hid hO3; have HCL3 := Lib.hid hcl3; have HST3 := Lib.hid hst3; have HCO3 := Lib.hid hco3; have HNP3 := Lib.hid hnp3; have HLL3 := Lib.hid hll3; have HB3 := Lib.hid hb3; have HX3 := Lib.hid ((hb3.block _ (Nat.lt_of_lt_of_le HL1.out HB2.out.size)).trans HX2'.out); clear hg3 hH3 hO3 hcl3 hst3 hco3 hnp3 hll3 hb3)
    | (refine wpList_store_row rfl 36 _ _ rfl (w.heap.size + 1) _ rfl rfl 36 _ HX3.out (by kernel_rfl) rfl (by simp [Value.oneCell']) ?_))
  (try simp only [Exit.inBlock, Exit.then])
  have HSZ : Hid (w.heap.size + 1 < w2.heap.size) := Lib.hid (Nat.lt_of_lt_of_le HL1.out HB2.out.size)
  exact bodyPost_ret (v := .tuple #[.agg #[.slice (some ⟨g3, 0, none⟩) OS.length c3, .int .i64 0], .int .i64 0]) (results_24 (fn := Tryz.f40) (p := 2) (u := 3) rfl _ _ (w.heap.size + 1) _ rfl (setRow_heap _ _ _ _ _ _ HX3.out) rfl) rfl
    ⟨g3, c3, OS, cl, ord, rfl, Nat.le_trans HBB.out.size HG3.out, HH3.out.row (w.heap.size + 1) _ (by have := HG3.out; have := HSZ.out; omega) (fun x hx ad e => by have := (HO3.out x hx).2.2 ad e; have := HSZ.out; omega), fun x hx => ⟨(HO3.out x hx).1, (HO3.out x hx).2.1, fun ad e => Nat.le_trans HBB.out.size ((HO3.out x hx).2.2 ad e)⟩, HCL3.out, HST3.out, HCO3.out, HNP3.out, HLL3.out, below_row (HBB.out.trans (HB3.out.mono HBB.out.size)) (by omega)⟩
end Go.Proofs.YtifilhkkgkihpaaGreatDoor
