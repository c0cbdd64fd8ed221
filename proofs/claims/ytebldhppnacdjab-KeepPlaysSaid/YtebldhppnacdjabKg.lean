import Derived.Test.YtebldhppnacdjabKf
import Derived.BigRegion
import Derived.MapKept
import Derived.Deep.RegionHeld3
import Derived.Deep.DeepCutAuto
import Derived.Deep.CutBlock
import Derived.BigQuiet
import Derived.Deep.QuietTactic
import Derived.Deep.AppendLies
import Derived.Deep.RegionLaw
import Derived.Deep.RegionWith
set_option linter.unusedVariables false
namespace Go.Proofs.Ytebldhppnacdjab
open Go.RowKit
set_option maxRecDepth 20000 in
set_option maxHeartbeats 2000000 in
theorem get_hit9 (w : World) (K M g nE cap base j : Nat) (mo hh : Int) (n now f m x : Int) (es : Array MapEntry) (c : Nat) (key : Value) (last : Int) (xs : List Value) (hj : j < nE) (hx1 : xs[j * 3 + 1]? = some (.int .i64 x)) (hx2 : xs[j * 3 + 2]? = some (.int .i64 last)) (hnow : 0 ≤ now ∧ now < 100000) (hf : 0 ≤ f ∧ f < 100000)
   (hk : KeepG w K M mo 9 n now f m es c) (l : List Int) (HKR : Hid (Row w key l)) (HASH : Hid (∀ w' : World, Row w' key l → Calls Try.prog 9 #[key] w' fun e w'' => e = .returned (.int .u64 hh) ∧ w' = w'')) (hnE : nE ≤ 100000) (hbK : base ≤ K) (hbw : base ≤ w.heap.size) (hgK : g ≠ K) (hgM : g ≠ M)
   (hown : w.ownsRow base 55 3 (.slice (some ⟨g, 0, none⟩) nE cap) nE xs)
   (LK : Hid (∀ w' : World, w'.heap[M]? = some (.map es c) → (Instr.lookup 49 (.map (some M)) (.int .u64 hh) false).run Try.prog w' = .ok (.slice (some ⟨g, 0, none⟩) nE cap) w'))
   (AT : Hid (Calls Try.prog 18 #[.slice (some ⟨g, 0, none⟩) nE cap, key] w fun e w'' => e = .returned (.int .i64 (j : Int)) ∧ Below w.heap.size w w'')) :
   Calls Try.prog 11 #[.pointer (some ⟨K, 0, none⟩), key] w fun e w' => e = .returned (.tuple #[.int .i64 x, .bool true]) ∧ Below base w w' ∧ KeepG w' K M mo 9 n (now + 1) (f + 1) m es c ∧ w'.ownsRow base 55 3 (.slice (some ⟨g, 0, none⟩) nE cap) nE (xs.set (j * 3 + 2) (.int .i64 (now + 1))) ∧ (∀ k, k < w.heap.size → k ≠ K → k ≠ g → w'.heap[k]? = w.heap[k]?) := by
  obtain ⟨hkc0, hmc, hne⟩ := hk
  have hkc : KC w K M mo 9 n now f m := hkc0
  have hKl : K < w.heap.size := (Array.getElem?_eq_some_iff.1 hkc).1
  have hMl : M < w.heap.size := (Array.getElem?_eq_some_iff.1 hmc).1
  have hgl : g < w.heap.size := by
    rcases hown.2 with ⟨h', _⟩ | ⟨g', cap', cur, h', _, hg, _⟩
    · simp at h'
    · simp only [Value.slice.injEq, Option.some.injEq, Addr.mk.injEq, and_true, true_and] at h'
      obtain ⟨rfl, rfl⟩ := h'
      exact (Array.getElem?_eq_some_iff.1 hg).1
  have hgb := ownsRow_ge hown g rfl
  have c1 := hkc.c1
  have c2 := hkc.c2
  have hL := LK.out w hmc
  go_enter Try.func11, Try.ntmps11
  go_upto_region 9 with (first
    | (go_at_call 9; ((with_reducible refine (HASH.out _ HKR.out).mono ?_); rintro e w' ⟨rfl, rfl⟩))
    | (go_at_call 18; ((with_reducible refine (AT.out).mono ?_); rintro e w2 ⟨rfl, hb2⟩)))
  have hkc2 : KC w2 K M mo 9 n now f m := (hb2.block K hKl).trans hkc
  have hmc2 : w2.heap[M]? = some (.map es c) := (hb2.block M hMl).trans hmc
  have hown2 := ownsRow_mono (w' := w2) hown (fun g' hg => by cases hg; exact hb2.block g hgl)
  have hs2 := hb2.size
  have d4 := hkc2.c4
  have d5 := hkc2.c5
  have q4 := hkc2.fr 4
  have q5 := hkc2.fr 5
  have hkc3 := (hkc2.s4 (now + 1)).s5 (f + 1)
  have hmc3 : ((w2.setCell ⟨K, 4, none⟩ (.int .i64 (now + 1))).setCell ⟨K, 5, none⟩ (.int .i64 (f + 1))).heap[M]? = some (.map es c) := by
    rw [Below.heap_setCell _ _ _ _ (by simpa using hne.symm), Below.heap_setCell _ _ _ _ (by simpa using hne.symm)]; exact hmc2
  have hown3 := ownsRow_mono (w' := (w2.setCell ⟨K, 4, none⟩ (.int .i64 (now + 1))).setCell ⟨K, 5, none⟩ (.int .i64 (f + 1))) hown2 (fun g' hg => by
    cases hg; rw [Below.heap_setCell _ _ _ _ (by simpa using hgK), Below.heap_setCell _ _ _ _ (by simpa using hgK)])
  have hB3 : Below base w ((w2.setCell ⟨K, 4, none⟩ (.int .i64 (now + 1))).setCell ⟨K, 5, none⟩ (.int .i64 (f + 1))) := ((hb2.mono hbw).setCell (p := ⟨K, 4, none⟩) hbK _).setCell (p := ⟨K, 5, none⟩) hbK _
  have HF3 : Hid (∀ k, k < w.heap.size → k ≠ K → ((w2.setCell ⟨K, 4, none⟩ (.int .i64 (now + 1))).setCell ⟨K, 5, none⟩ (.int .i64 (f + 1))).heap[k]? = w.heap[k]?) := Lib.hid fun k h1 h2 => by
    rw [Below.heap_setCell _ _ _ _ (by simpa using h2), Below.heap_setCell _ _ _ _ (by simpa using h2)]; exact hb2.block k h1
  have HK3 := Lib.hid hkc3
  have HM3 := Lib.hid hmc3
  have HO3 := Lib.hid hown3
  have HB3 := Lib.hid hB3
  clear hkc hkc0 hmc hkc2 hmc2 hown hown2 hb2 c1 c2 hL hkc3 hmc3 hown3 hB3
  go_upto_region 11 with (fail)
  generalize hw3 : (w2.setCell ⟨K, 4, none⟩ (.int .i64 (now + 1))).setCell ⟨K, 5, none⟩ (.int .i64 (f + 1)) = w3 at *
  have e2 := HK3.out.c2
  have e4 := HK3.out.c4
  have hL3 := LK.out w3 HM3.out
  have hL3d := LK.out w3.drew HM3.out
  have g2 : w3.cell? ⟨g, j * 3 + 2, none⟩ = some (.int .i64 last) := by rw [HO3.out.cellAt (j * 3 + 2) (by omega)]; exact hx2
  have gf : w3.frozen? ⟨g, j * 3 + 2, none⟩ = false := HO3.out.frozenAt (j * 3 + 2)
  have g1 : w3.cell? ⟨g, j * 3 + 1, none⟩ = some (.int .i64 x) := by rw [HO3.out.cellAt (j * 3 + 1) (by omega)]; exact hx1
  have i0 : (j : Int) < nE := by omega
  clear d4 d5 q4 q5 hw3
  go_region
  have hkc4 : KC (w3.setCell ⟨g, j * 3 + 2, none⟩ (.int .i64 (now + 1))).drew K M mo 9 n (now + 1) (f + 1) m := (Below.heap_setCell w3 ⟨g, j * 3 + 2, none⟩ _ K (by simpa using hgK.symm)).trans HK3.out
  have hmc4 : (w3.setCell ⟨g, j * 3 + 2, none⟩ (.int .i64 (now + 1))).drew.heap[M]? = some (.map es c) := (Below.heap_setCell w3 ⟨g, j * 3 + 2, none⟩ _ M (by simpa using hgM.symm)).trans HM3.out
  have hL4 := LK.out _ hmc4
  have g14 : (w3.setCell ⟨g, j * 3 + 2, none⟩ (.int .i64 (now + 1))).drew.cell? ⟨g, j * 3 + 1, none⟩ = some (.int .i64 x) := by
    show (w3.setCell ⟨g, j * 3 + 2, none⟩ (.int .i64 (now + 1))).cell? ⟨g, j * 3 + 1, none⟩ = _
    exact (World.cell?_setCell_other _ _ _ _ (by simp)).trans g1
  have hB4 : Below base w (w3.setCell ⟨g, j * 3 + 2, none⟩ (.int .i64 (now + 1))).drew := (HB3.out.setCell (p := ⟨g, j * 3 + 2, none⟩) hgb _).drew
  have HO4 : Hid ((w3.setCell ⟨g, j * 3 + 2, none⟩ (.int .i64 (now + 1))).drew.ownsRow base 55 3 (.slice (some ⟨g, 0, none⟩) nE cap) nE (xs.set (j * 3 + 2) (.int .i64 (now + 1)))) := Lib.hid (HO3.out.stored (j * 3 + 2) (.int .i64 (now + 1))).1
  have HF4 : Hid (∀ k, k < w.heap.size → k ≠ K → k ≠ g → (w3.setCell ⟨g, j * 3 + 2, none⟩ (.int .i64 (now + 1))).drew.heap[k]? = w.heap[k]?) := Lib.hid fun k h1 h2 h3 => (Below.heap_setCell w3 ⟨g, j * 3 + 2, none⟩ _ k (by simpa using h3)).trans (HF3.out k h1 h2)
  have HM4 := Lib.hid hmc4
  have HB4 := Lib.hid hB4
  have HK4 := Lib.hid hkc4
  have e24 := hkc4.c2
  clear hkc4 hmc4 hB4 hL3 hL3d g1 g2 gf e2 e4
  generalize (w3.setCell ⟨g, j * 3 + 2, none⟩ (.int .i64 (now + 1))).drew = w4 at *
  go_wp2
  go_ret2
  exact ⟨rfl, HB4.out, ⟨HK4.out, HM4.out, hne⟩, HO4.out, HF4.out⟩
set_option maxRecDepth 20000 in
set_option maxHeartbeats 2000000 in
theorem get_hit13 (w : World) (K M g nE cap base j : Nat) (mo hh : Int) (n now f m x : Int) (es : Array MapEntry) (c : Nat) (key : Value) (last : Int) (xs : List Value) (hj : j < nE) (hx1 : xs[j * 3 + 1]? = some (.int .i64 x)) (hx2 : xs[j * 3 + 2]? = some (.int .i64 last)) (hnow : 0 ≤ now ∧ now < 100000) (hf : 0 ≤ f ∧ f < 100000)
   (hk : KeepG w K M mo 13 n now f m es c) (l : List Int) (HKR : Hid (Row w key l)) (HASH : Hid (∀ w' : World, Row w' key l → Calls Try.prog 13 #[key] w' fun e w'' => e = .returned (.int .u64 hh) ∧ w' = w'')) (hnE : nE ≤ 100000) (hbK : base ≤ K) (hbw : base ≤ w.heap.size) (hgK : g ≠ K) (hgM : g ≠ M)
   (hown : w.ownsRow base 55 3 (.slice (some ⟨g, 0, none⟩) nE cap) nE xs)
   (LK : Hid (∀ w' : World, w'.heap[M]? = some (.map es c) → (Instr.lookup 49 (.map (some M)) (.int .u64 hh) false).run Try.prog w' = .ok (.slice (some ⟨g, 0, none⟩) nE cap) w'))
   (AT : Hid (Calls Try.prog 18 #[.slice (some ⟨g, 0, none⟩) nE cap, key] w fun e w'' => e = .returned (.int .i64 (j : Int)) ∧ Below w.heap.size w w'')) :
   Calls Try.prog 11 #[.pointer (some ⟨K, 0, none⟩), key] w fun e w' => e = .returned (.tuple #[.int .i64 x, .bool true]) ∧ Below base w w' ∧ KeepG w' K M mo 13 n (now + 1) (f + 1) m es c ∧ w'.ownsRow base 55 3 (.slice (some ⟨g, 0, none⟩) nE cap) nE (xs.set (j * 3 + 2) (.int .i64 (now + 1))) ∧ (∀ k, k < w.heap.size → k ≠ K → k ≠ g → w'.heap[k]? = w.heap[k]?) := by
  obtain ⟨hkc0, hmc, hne⟩ := hk
  have hkc : KC w K M mo 13 n now f m := hkc0
  have hKl : K < w.heap.size := (Array.getElem?_eq_some_iff.1 hkc).1
  have hMl : M < w.heap.size := (Array.getElem?_eq_some_iff.1 hmc).1
  have hgl : g < w.heap.size := by
    rcases hown.2 with ⟨h', _⟩ | ⟨g', cap', cur, h', _, hg, _⟩
    · simp at h'
    · simp only [Value.slice.injEq, Option.some.injEq, Addr.mk.injEq, and_true, true_and] at h'
      obtain ⟨rfl, rfl⟩ := h'
      exact (Array.getElem?_eq_some_iff.1 hg).1
  have hgb := ownsRow_ge hown g rfl
  have c1 := hkc.c1
  have c2 := hkc.c2
  have hL := LK.out w hmc
  go_enter Try.func11, Try.ntmps11
  go_upto_region 9 with (first
    | (go_at_call 13; ((with_reducible refine (HASH.out _ HKR.out).mono ?_); rintro e w' ⟨rfl, rfl⟩))
    | (go_at_call 18; ((with_reducible refine (AT.out).mono ?_); rintro e w2 ⟨rfl, hb2⟩)))
  have hkc2 : KC w2 K M mo 13 n now f m := (hb2.block K hKl).trans hkc
  have hmc2 : w2.heap[M]? = some (.map es c) := (hb2.block M hMl).trans hmc
  have hown2 := ownsRow_mono (w' := w2) hown (fun g' hg => by cases hg; exact hb2.block g hgl)
  have hs2 := hb2.size
  have d4 := hkc2.c4
  have d5 := hkc2.c5
  have q4 := hkc2.fr 4
  have q5 := hkc2.fr 5
  have hkc3 := (hkc2.s4 (now + 1)).s5 (f + 1)
  have hmc3 : ((w2.setCell ⟨K, 4, none⟩ (.int .i64 (now + 1))).setCell ⟨K, 5, none⟩ (.int .i64 (f + 1))).heap[M]? = some (.map es c) := by
    rw [Below.heap_setCell _ _ _ _ (by simpa using hne.symm), Below.heap_setCell _ _ _ _ (by simpa using hne.symm)]; exact hmc2
  have hown3 := ownsRow_mono (w' := (w2.setCell ⟨K, 4, none⟩ (.int .i64 (now + 1))).setCell ⟨K, 5, none⟩ (.int .i64 (f + 1))) hown2 (fun g' hg => by
    cases hg; rw [Below.heap_setCell _ _ _ _ (by simpa using hgK), Below.heap_setCell _ _ _ _ (by simpa using hgK)])
  have hB3 : Below base w ((w2.setCell ⟨K, 4, none⟩ (.int .i64 (now + 1))).setCell ⟨K, 5, none⟩ (.int .i64 (f + 1))) := ((hb2.mono hbw).setCell (p := ⟨K, 4, none⟩) hbK _).setCell (p := ⟨K, 5, none⟩) hbK _
  have HF3 : Hid (∀ k, k < w.heap.size → k ≠ K → ((w2.setCell ⟨K, 4, none⟩ (.int .i64 (now + 1))).setCell ⟨K, 5, none⟩ (.int .i64 (f + 1))).heap[k]? = w.heap[k]?) := Lib.hid fun k h1 h2 => by
    rw [Below.heap_setCell _ _ _ _ (by simpa using h2), Below.heap_setCell _ _ _ _ (by simpa using h2)]; exact hb2.block k h1
  have HK3 := Lib.hid hkc3
  have HM3 := Lib.hid hmc3
  have HO3 := Lib.hid hown3
  have HB3 := Lib.hid hB3
  clear hkc hkc0 hmc hkc2 hmc2 hown hown2 hb2 c1 c2 hL hkc3 hmc3 hown3 hB3
  go_upto_region 11 with (fail)
  generalize hw3 : (w2.setCell ⟨K, 4, none⟩ (.int .i64 (now + 1))).setCell ⟨K, 5, none⟩ (.int .i64 (f + 1)) = w3 at *
  have e2 := HK3.out.c2
  have e4 := HK3.out.c4
  have hL3 := LK.out w3 HM3.out
  have hL3d := LK.out w3.drew HM3.out
  have g2 : w3.cell? ⟨g, j * 3 + 2, none⟩ = some (.int .i64 last) := by rw [HO3.out.cellAt (j * 3 + 2) (by omega)]; exact hx2
  have gf : w3.frozen? ⟨g, j * 3 + 2, none⟩ = false := HO3.out.frozenAt (j * 3 + 2)
  have g1 : w3.cell? ⟨g, j * 3 + 1, none⟩ = some (.int .i64 x) := by rw [HO3.out.cellAt (j * 3 + 1) (by omega)]; exact hx1
  have i0 : (j : Int) < nE := by omega
  clear d4 d5 q4 q5 hw3
  go_region
  have hkc4 : KC (w3.setCell ⟨g, j * 3 + 2, none⟩ (.int .i64 (now + 1))).drew K M mo 13 n (now + 1) (f + 1) m := (Below.heap_setCell w3 ⟨g, j * 3 + 2, none⟩ _ K (by simpa using hgK.symm)).trans HK3.out
  have hmc4 : (w3.setCell ⟨g, j * 3 + 2, none⟩ (.int .i64 (now + 1))).drew.heap[M]? = some (.map es c) := (Below.heap_setCell w3 ⟨g, j * 3 + 2, none⟩ _ M (by simpa using hgM.symm)).trans HM3.out
  have hL4 := LK.out _ hmc4
  have g14 : (w3.setCell ⟨g, j * 3 + 2, none⟩ (.int .i64 (now + 1))).drew.cell? ⟨g, j * 3 + 1, none⟩ = some (.int .i64 x) := by
    show (w3.setCell ⟨g, j * 3 + 2, none⟩ (.int .i64 (now + 1))).cell? ⟨g, j * 3 + 1, none⟩ = _
    exact (World.cell?_setCell_other _ _ _ _ (by simp)).trans g1
  have hB4 : Below base w (w3.setCell ⟨g, j * 3 + 2, none⟩ (.int .i64 (now + 1))).drew := (HB3.out.setCell (p := ⟨g, j * 3 + 2, none⟩) hgb _).drew
  have HO4 : Hid ((w3.setCell ⟨g, j * 3 + 2, none⟩ (.int .i64 (now + 1))).drew.ownsRow base 55 3 (.slice (some ⟨g, 0, none⟩) nE cap) nE (xs.set (j * 3 + 2) (.int .i64 (now + 1)))) := Lib.hid (HO3.out.stored (j * 3 + 2) (.int .i64 (now + 1))).1
  have HF4 : Hid (∀ k, k < w.heap.size → k ≠ K → k ≠ g → (w3.setCell ⟨g, j * 3 + 2, none⟩ (.int .i64 (now + 1))).drew.heap[k]? = w.heap[k]?) := Lib.hid fun k h1 h2 h3 => (Below.heap_setCell w3 ⟨g, j * 3 + 2, none⟩ _ k (by simpa using h3)).trans (HF3.out k h1 h2)
  have HM4 := Lib.hid hmc4
  have HB4 := Lib.hid hB4
  have HK4 := Lib.hid hkc4
  have e24 := hkc4.c2
  clear hkc4 hmc4 hB4 hL3 hL3d g1 g2 gf e2 e4
  generalize (w3.setCell ⟨g, j * 3 + 2, none⟩ (.int .i64 (now + 1))).drew = w4 at *
  go_wp2
  go_ret2
  exact ⟨rfl, HB4.out, ⟨HK4.out, HM4.out, hne⟩, HO4.out, HF4.out⟩
set_option maxRecDepth 20000 in
set_option maxHeartbeats 2000000 in
theorem get_hit14 (w : World) (K M g nE cap base j : Nat) (mo hh : Int) (n now f m x : Int) (es : Array MapEntry) (c : Nat) (key : Value) (last : Int) (xs : List Value) (hj : j < nE) (hx1 : xs[j * 3 + 1]? = some (.int .i64 x)) (hx2 : xs[j * 3 + 2]? = some (.int .i64 last)) (hnow : 0 ≤ now ∧ now < 100000) (hf : 0 ≤ f ∧ f < 100000)
   (hk : KeepG w K M mo 14 n now f m es c) (l : List Int) (HKR : Hid (Row w key l)) (HASH : Hid (∀ w' : World, Row w' key l → Calls Try.prog 14 #[key] w' fun e w'' => e = .returned (.int .u64 hh) ∧ w' = w'')) (hnE : nE ≤ 100000) (hbK : base ≤ K) (hbw : base ≤ w.heap.size) (hgK : g ≠ K) (hgM : g ≠ M)
   (hown : w.ownsRow base 55 3 (.slice (some ⟨g, 0, none⟩) nE cap) nE xs)
   (LK : Hid (∀ w' : World, w'.heap[M]? = some (.map es c) → (Instr.lookup 49 (.map (some M)) (.int .u64 hh) false).run Try.prog w' = .ok (.slice (some ⟨g, 0, none⟩) nE cap) w'))
   (AT : Hid (Calls Try.prog 18 #[.slice (some ⟨g, 0, none⟩) nE cap, key] w fun e w'' => e = .returned (.int .i64 (j : Int)) ∧ Below w.heap.size w w'')) :
   Calls Try.prog 11 #[.pointer (some ⟨K, 0, none⟩), key] w fun e w' => e = .returned (.tuple #[.int .i64 x, .bool true]) ∧ Below base w w' ∧ KeepG w' K M mo 14 n (now + 1) (f + 1) m es c ∧ w'.ownsRow base 55 3 (.slice (some ⟨g, 0, none⟩) nE cap) nE (xs.set (j * 3 + 2) (.int .i64 (now + 1))) ∧ (∀ k, k < w.heap.size → k ≠ K → k ≠ g → w'.heap[k]? = w.heap[k]?) := by
  obtain ⟨hkc0, hmc, hne⟩ := hk
  have hkc : KC w K M mo 14 n now f m := hkc0
  have hKl : K < w.heap.size := (Array.getElem?_eq_some_iff.1 hkc).1
  have hMl : M < w.heap.size := (Array.getElem?_eq_some_iff.1 hmc).1
  have hgl : g < w.heap.size := by
    rcases hown.2 with ⟨h', _⟩ | ⟨g', cap', cur, h', _, hg, _⟩
    · simp at h'
    · simp only [Value.slice.injEq, Option.some.injEq, Addr.mk.injEq, and_true, true_and] at h'
      obtain ⟨rfl, rfl⟩ := h'
      exact (Array.getElem?_eq_some_iff.1 hg).1
  have hgb := ownsRow_ge hown g rfl
  have c1 := hkc.c1
  have c2 := hkc.c2
  have hL := LK.out w hmc
  go_enter Try.func11, Try.ntmps11
  go_upto_region 9 with (first
    | (go_at_call 14; ((with_reducible refine (HASH.out _ HKR.out).mono ?_); rintro e w' ⟨rfl, rfl⟩))
    | (go_at_call 18; ((with_reducible refine (AT.out).mono ?_); rintro e w2 ⟨rfl, hb2⟩)))
  have hkc2 : KC w2 K M mo 14 n now f m := (hb2.block K hKl).trans hkc
  have hmc2 : w2.heap[M]? = some (.map es c) := (hb2.block M hMl).trans hmc
  have hown2 := ownsRow_mono (w' := w2) hown (fun g' hg => by cases hg; exact hb2.block g hgl)
  have hs2 := hb2.size
  have d4 := hkc2.c4
  have d5 := hkc2.c5
  have q4 := hkc2.fr 4
  have q5 := hkc2.fr 5
  have hkc3 := (hkc2.s4 (now + 1)).s5 (f + 1)
  have hmc3 : ((w2.setCell ⟨K, 4, none⟩ (.int .i64 (now + 1))).setCell ⟨K, 5, none⟩ (.int .i64 (f + 1))).heap[M]? = some (.map es c) := by
    rw [Below.heap_setCell _ _ _ _ (by simpa using hne.symm), Below.heap_setCell _ _ _ _ (by simpa using hne.symm)]; exact hmc2
  have hown3 := ownsRow_mono (w' := (w2.setCell ⟨K, 4, none⟩ (.int .i64 (now + 1))).setCell ⟨K, 5, none⟩ (.int .i64 (f + 1))) hown2 (fun g' hg => by
    cases hg; rw [Below.heap_setCell _ _ _ _ (by simpa using hgK), Below.heap_setCell _ _ _ _ (by simpa using hgK)])
  have hB3 : Below base w ((w2.setCell ⟨K, 4, none⟩ (.int .i64 (now + 1))).setCell ⟨K, 5, none⟩ (.int .i64 (f + 1))) := ((hb2.mono hbw).setCell (p := ⟨K, 4, none⟩) hbK _).setCell (p := ⟨K, 5, none⟩) hbK _
  have HF3 : Hid (∀ k, k < w.heap.size → k ≠ K → ((w2.setCell ⟨K, 4, none⟩ (.int .i64 (now + 1))).setCell ⟨K, 5, none⟩ (.int .i64 (f + 1))).heap[k]? = w.heap[k]?) := Lib.hid fun k h1 h2 => by
    rw [Below.heap_setCell _ _ _ _ (by simpa using h2), Below.heap_setCell _ _ _ _ (by simpa using h2)]; exact hb2.block k h1
  have HK3 := Lib.hid hkc3
  have HM3 := Lib.hid hmc3
  have HO3 := Lib.hid hown3
  have HB3 := Lib.hid hB3
  clear hkc hkc0 hmc hkc2 hmc2 hown hown2 hb2 c1 c2 hL hkc3 hmc3 hown3 hB3
  go_upto_region 11 with (fail)
  generalize hw3 : (w2.setCell ⟨K, 4, none⟩ (.int .i64 (now + 1))).setCell ⟨K, 5, none⟩ (.int .i64 (f + 1)) = w3 at *
  have e2 := HK3.out.c2
  have e4 := HK3.out.c4
  have hL3 := LK.out w3 HM3.out
  have hL3d := LK.out w3.drew HM3.out
  have g2 : w3.cell? ⟨g, j * 3 + 2, none⟩ = some (.int .i64 last) := by rw [HO3.out.cellAt (j * 3 + 2) (by omega)]; exact hx2
  have gf : w3.frozen? ⟨g, j * 3 + 2, none⟩ = false := HO3.out.frozenAt (j * 3 + 2)
  have g1 : w3.cell? ⟨g, j * 3 + 1, none⟩ = some (.int .i64 x) := by rw [HO3.out.cellAt (j * 3 + 1) (by omega)]; exact hx1
  have i0 : (j : Int) < nE := by omega
  clear d4 d5 q4 q5 hw3
  go_region
  have hkc4 : KC (w3.setCell ⟨g, j * 3 + 2, none⟩ (.int .i64 (now + 1))).drew K M mo 14 n (now + 1) (f + 1) m := (Below.heap_setCell w3 ⟨g, j * 3 + 2, none⟩ _ K (by simpa using hgK.symm)).trans HK3.out
  have hmc4 : (w3.setCell ⟨g, j * 3 + 2, none⟩ (.int .i64 (now + 1))).drew.heap[M]? = some (.map es c) := (Below.heap_setCell w3 ⟨g, j * 3 + 2, none⟩ _ M (by simpa using hgM.symm)).trans HM3.out
  have hL4 := LK.out _ hmc4
  have g14 : (w3.setCell ⟨g, j * 3 + 2, none⟩ (.int .i64 (now + 1))).drew.cell? ⟨g, j * 3 + 1, none⟩ = some (.int .i64 x) := by
    show (w3.setCell ⟨g, j * 3 + 2, none⟩ (.int .i64 (now + 1))).cell? ⟨g, j * 3 + 1, none⟩ = _
    exact (World.cell?_setCell_other _ _ _ _ (by simp)).trans g1
  have hB4 : Below base w (w3.setCell ⟨g, j * 3 + 2, none⟩ (.int .i64 (now + 1))).drew := (HB3.out.setCell (p := ⟨g, j * 3 + 2, none⟩) hgb _).drew
  have HO4 : Hid ((w3.setCell ⟨g, j * 3 + 2, none⟩ (.int .i64 (now + 1))).drew.ownsRow base 55 3 (.slice (some ⟨g, 0, none⟩) nE cap) nE (xs.set (j * 3 + 2) (.int .i64 (now + 1)))) := Lib.hid (HO3.out.stored (j * 3 + 2) (.int .i64 (now + 1))).1
  have HF4 : Hid (∀ k, k < w.heap.size → k ≠ K → k ≠ g → (w3.setCell ⟨g, j * 3 + 2, none⟩ (.int .i64 (now + 1))).drew.heap[k]? = w.heap[k]?) := Lib.hid fun k h1 h2 h3 => (Below.heap_setCell w3 ⟨g, j * 3 + 2, none⟩ _ k (by simpa using h3)).trans (HF3.out k h1 h2)
  have HM4 := Lib.hid hmc4
  have HB4 := Lib.hid hB4
  have HK4 := Lib.hid hkc4
  have e24 := hkc4.c2
  clear hkc4 hmc4 hB4 hL3 hL3d g1 g2 gf e2 e4
  generalize (w3.setCell ⟨g, j * 3 + 2, none⟩ (.int .i64 (now + 1))).drew = w4 at *
  go_wp2
  go_ret2
  exact ⟨rfl, HB4.out, ⟨HK4.out, HM4.out, hne⟩, HO4.out, HF4.out⟩
end Go.Proofs.Ytebldhppnacdjab
