import Derived.Test.YtebldhppnacdjabKb
import Derived.BigRegion
import Derived.MapKept
import Derived.Deep.RegionHeld3
import Derived.Deep.DeepCutAuto
import Derived.Deep.CutBlock
import Derived.BigQuiet
import Derived.Deep.QuietTactic
import Derived.Deep.AppendLies
import Derived.Deep.RegionLaw
import Derived.Deep.RegionWith
set_option linter.unusedVariables false
namespace Go.Proofs.Ytebldhppnacdjab
open Go.RowKit
theorem KCells.c1 {w : World} {K M : Nat} {n now f m : Int} (h : KCells w K M n now f m) : w.cell? ⟨K, 1, none⟩ = some (.func (.func 9) #[] #[]) := by rw [cell_of_row w K 1 _ 51 _ h]; rfl
theorem KCells.c5 {w : World} {K M : Nat} {n now f m : Int} (h : KCells w K M n now f m) : w.cell? ⟨K, 5, none⟩ = some (.int .i64 f) := by rw [cell_of_row w K 5 _ 51 _ h]; rfl
theorem KCells.s4 {w : World} {K M : Nat} {n now f m : Int} (h : KCells w K M n now f m) (y : Int) : KCells (w.setCell ⟨K, 4, none⟩ (.int .i64 y)) K M n y f m := heap_setCell_same w K 4 _ 51 _ h
theorem KCells.s5 {w : World} {K M : Nat} {n now f m : Int} (h : KCells w K M n now f m) (y : Int) : KCells (w.setCell ⟨K, 5, none⟩ (.int .i64 y)) K M n now y m := heap_setCell_same w K 5 _ 51 _ h
set_option maxRecDepth 20000 in
set_option maxHeartbeats 2000000 in
theorem get_any (w : World) (K M g nE cap base : Nat) (n now f m x : Int) (es : Array MapEntry) (c : Nat) (key : Value) (k0 : Value) (last : Int) (xs : List Value) (hnow : 0 ≤ now ∧ now < 100) (hf : 0 ≤ f ∧ f < 100)
   (hk : KeepAt w K M n now f m es c) (hkey : ∃ b c, key = .slice (some ⟨b, 0, none⟩) 1 c) (hnE : 0 < nE ∧ nE ≤ 5) (hbK : base ≤ K) (hbw : base ≤ w.heap.size) (hgK : g ≠ K) (hgM : g ≠ M)
   (hown : w.ownsRow base 55 3 (.slice (some ⟨g, 0, none⟩) nE cap) nE (k0 :: .int .i64 x :: .int .i64 last :: xs))
   (LK : Hid (∀ w' : World, w'.heap[M]? = some (.map es c) → (Instr.lookup 49 (.map (some M)) (.int .u64 7) false).run Try.prog w' = .ok (.slice (some ⟨g, 0, none⟩) nE cap) w'))
   (AT : Hid (Calls Try.prog 18 #[.slice (some ⟨g, 0, none⟩) nE cap, key] w fun e w'' => e = .returned (.int .i64 0) ∧ Below w.heap.size w w'')) :
   Calls Try.prog 11 #[.pointer (some ⟨K, 0, none⟩), key] w fun e w' => e = .returned (.tuple #[.int .i64 x, .bool true]) ∧ Below base w w' ∧ KCells w' K M n (now + 1) (f + 1) m := by
  obtain ⟨hkc0, hmc, hne⟩ := hk
  have hkc : KCells w K M n now f m := hkc0
  obtain ⟨kb, kc, rfl⟩ := hkey
  have hKl : K < w.heap.size := (Array.getElem?_eq_some_iff.1 hkc).1
  have hMl : M < w.heap.size := (Array.getElem?_eq_some_iff.1 hmc).1
  have hgl : g < w.heap.size := by
    rcases hown.2 with ⟨h', _⟩ | ⟨g', cap', cur, h', _, hg, _⟩
    · simp at h'
    · simp only [Value.slice.injEq, Option.some.injEq, Addr.mk.injEq, and_true, true_and] at h'
      obtain ⟨rfl, rfl⟩ := h'
      exact (Array.getElem?_eq_some_iff.1 hg).1
  have hgb := ownsRow_ge hown g rfl
  have c1 := hkc.c1
  have c2 := hkc.c2
  have hL := LK.out w hmc
  go_enter Try.func11, Try.ntmps11
  go_upto_region 9 with (first
    | (go_at_call 9; ((with_reducible refine (flat_any _ _).mono ?_); rintro e w' ⟨rfl, rfl⟩))
    | (go_at_call 18; ((with_reducible refine (AT.out).mono ?_); rintro e w2 ⟨rfl, hb2⟩)))
  have hkc2 : KCells w2 K M n now f m := (hb2.block K hKl).trans hkc
  have hmc2 : w2.heap[M]? = some (.map es c) := (hb2.block M hMl).trans hmc
  have hown2 := ownsRow_mono (w' := w2) hown (fun g' hg => by cases hg; exact hb2.block g hgl)
  have hs2 := hb2.size
  have d4 := hkc2.c4
  have d5 := hkc2.c5
  have q4 := hkc2.fr 4
  have q5 := hkc2.fr 5
  have hkc3 := (hkc2.s4 (now + 1)).s5 (f + 1)
  have hmc3 : ((w2.setCell ⟨K, 4, none⟩ (.int .i64 (now + 1))).setCell ⟨K, 5, none⟩ (.int .i64 (f + 1))).heap[M]? = some (.map es c) := by
    rw [Below.heap_setCell _ _ _ _ (by simpa using hne.symm), Below.heap_setCell _ _ _ _ (by simpa using hne.symm)]; exact hmc2
  have hown3 := ownsRow_mono (w' := (w2.setCell ⟨K, 4, none⟩ (.int .i64 (now + 1))).setCell ⟨K, 5, none⟩ (.int .i64 (f + 1))) hown2 (fun g' hg => by
    cases hg; rw [Below.heap_setCell _ _ _ _ (by simpa using hgK), Below.heap_setCell _ _ _ _ (by simpa using hgK)])
  have hB3 : Below base w ((w2.setCell ⟨K, 4, none⟩ (.int .i64 (now + 1))).setCell ⟨K, 5, none⟩ (.int .i64 (f + 1))) := ((hb2.mono hbw).setCell (p := ⟨K, 4, none⟩) hbK _).setCell (p := ⟨K, 5, none⟩) hbK _
  have HK3 := Lib.hid hkc3
  have HM3 := Lib.hid hmc3
  have HO3 := Lib.hid hown3
  have HB3 := Lib.hid hB3
  clear hkc hkc0 hmc hkc2 hmc2 hown hown2 hb2 c1 c2 hL hkc3 hmc3 hown3 hB3
  go_upto_region 11 with (fail)
  generalize hw3 : (w2.setCell ⟨K, 4, none⟩ (.int .i64 (now + 1))).setCell ⟨K, 5, none⟩ (.int .i64 (f + 1)) = w3 at *
  have e2 := HK3.out.c2
  have e4 := HK3.out.c4
  have hL3 := LK.out w3 HM3.out
  have hL3d := LK.out w3.drew HM3.out
  have g2 : w3.cell? ⟨g, 2, none⟩ = some (.int .i64 last) := by rw [HO3.out.cellAt 2 (by omega)]; rfl
  have gf : w3.frozen? ⟨g, 2, none⟩ = false := HO3.out.frozenAt 2
  have g1 : w3.cell? ⟨g, 1, none⟩ = some (.int .i64 x) := by rw [HO3.out.cellAt 1 (by omega)]; rfl
  have i0 : (0 : Int) < nE := by omega
  clear d4 d5 q4 q5 hw3
  go_region
  have hkc4 : KCells (w3.setCell ⟨g, 2, none⟩ (.int .i64 (now + 1))).drew K M n (now + 1) (f + 1) m := (Below.heap_setCell w3 ⟨g, 2, none⟩ _ K (by simpa using hgK.symm)).trans HK3.out
  have hmc4 : (w3.setCell ⟨g, 2, none⟩ (.int .i64 (now + 1))).drew.heap[M]? = some (.map es c) := (Below.heap_setCell w3 ⟨g, 2, none⟩ _ M (by simpa using hgM.symm)).trans HM3.out
  have hL4 := LK.out _ hmc4
  have g14 : (w3.setCell ⟨g, 2, none⟩ (.int .i64 (now + 1))).drew.cell? ⟨g, 1, none⟩ = some (.int .i64 x) := by
    show (w3.setCell ⟨g, 2, none⟩ (.int .i64 (now + 1))).cell? ⟨g, 1, none⟩ = _
    exact (World.cell?_setCell_other _ _ _ _ (by simp)).trans g1
  have hB4 : Below base w (w3.setCell ⟨g, 2, none⟩ (.int .i64 (now + 1))).drew := (HB3.out.setCell (p := ⟨g, 2, none⟩) hgb _).drew
  have HB4 := Lib.hid hB4
  have HK4 := Lib.hid hkc4
  have e24 := hkc4.c2
  clear hkc4 hmc4 hB4 hL3 hL3d g1 g2 gf e2 e4
  generalize (w3.setCell ⟨g, 2, none⟩ (.int .i64 (now + 1))).drew = w4 at *
  go_wp2
  go_ret2
  exact ⟨rfl, HB4.out, HK4.out⟩
end Go.Proofs.Ytebldhppnacdjab
