import Derived.Test.YtebldhppnacdjabKh
import Derived.BigRegion
import Derived.MapKept
import Derived.Deep.RegionHeld3
import Derived.Deep.DeepCutAuto
import Derived.Deep.CutBlock
import Derived.BigQuiet
import Derived.Deep.QuietTactic
import Derived.Deep.AppendLies
import Derived.Deep.RegionLaw
import Derived.Deep.RegionWith
set_option linter.unusedVariables false
namespace Go.Proofs.Ytebldhppnacdjab
open Go.RowKit
set_option maxRecDepth 20000 in
set_option maxHeartbeats 4000000 in
theorem put_hit9 (w : World) (K M g nE cap base j : Nat) (mo hh : Int) (n now f m x : Int) (es : Array MapEntry) (c : Nat) (key : Value) (x0 last : Int) (xs : List Value) (hj : j < nE) (hx1 : xs[j * 3 + 1]? = some (.int .i64 x0)) (hx2 : xs[j * 3 + 2]? = some (.int .i64 last)) (hnow : 0 ≤ now ∧ now < 100000)
   (hk : KeepG w K M mo 9 n now f m es c) (l : List Int) (HKR : Hid (Row w key l)) (hkK : kblk key l ≠ some K) (HASH : Hid (∀ w' : World, Row w' key l → Calls Try.prog 9 #[key] w' fun e w'' => e = .returned (.int .u64 hh) ∧ w' = w'')) (hnE : nE ≤ 100000) (hbK : base ≤ K) (hbw : base ≤ w.heap.size) (hgK : g ≠ K) (hgM : g ≠ M)
   (hown : w.ownsRow base 55 3 (.slice (some ⟨g, 0, none⟩) nE cap) nE xs)
   (LK : Hid (∀ w' : World, w'.heap[M]? = some (.map es c) → (Instr.lookup 49 (.map (some M)) (.int .u64 hh) false).run Try.prog w' = .ok (.slice (some ⟨g, 0, none⟩) nE cap) w'))
   (AT : Hid (∀ w' : World, (∀ k, k ≠ K → w'.heap[k]? = w.heap[k]?) → w'.heap.size = w.heap.size → Calls Try.prog 18 #[.slice (some ⟨g, 0, none⟩) nE cap, key] w' fun e w'' => e = .returned (.int .i64 (j : Int)) ∧ Below w'.heap.size w' w'')) :
   Calls Try.prog 10 #[.pointer (some ⟨K, 0, none⟩), key, .int .i64 x] w fun e w' => e = .returned (.int .i64 0) ∧ Below base w w' ∧ KeepG w' K M mo 9 n (now + 1) f m es c ∧ w'.ownsRow base 55 3 (.slice (some ⟨g, 0, none⟩) nE cap) nE ((xs.set (j * 3 + 1) (.int .i64 x)).set (j * 3 + 2) (.int .i64 (now + 1))) ∧ (∀ k, k < w.heap.size → k ≠ K → k ≠ g → w'.heap[k]? = w.heap[k]?) := by
  obtain ⟨hkc, hmc, hne⟩ := hk
  have hKl : K < w.heap.size := (Array.getElem?_eq_some_iff.1 hkc).1
  have hMl : M < w.heap.size := (Array.getElem?_eq_some_iff.1 hmc).1
  have hgl : g < w.heap.size := by
    rcases hown.2 with ⟨h', _⟩ | ⟨g', cap', cur, h', _, hg, _⟩
    · simp at h'
    · simp only [Value.slice.injEq, Option.some.injEq, Addr.mk.injEq, and_true, true_and] at h'
      obtain ⟨rfl, rfl⟩ := h'
      exact (Array.getElem?_eq_some_iff.1 hg).1
  have hgb := ownsRow_ge hown g rfl
  have HR1 : Hid (Row (w.setCell ⟨K, 4, none⟩ (.int .i64 (now + 1))) key l) := Lib.hid (HKR.out.atk (fun g hg => Below.heap_setCell _ _ _ _ (by intro e; exact hkK (by rw [hg, show g = K from e]))) (by simp))
  have c1 := hkc.c1
  have c2 := hkc.c2
  have c4 := hkc.c4
  have fr := hkc.fr 4
  have hL := LK.out (w.setCell ⟨K, 4, none⟩ (.int .i64 (now + 1))) (by rw [Below.heap_setCell _ _ _ _ (by simpa using hne.symm)]; exact hmc)
  have HA := Lib.hid (AT.out (w.setCell ⟨K, 4, none⟩ (.int .i64 (now + 1))) (fun k hk => Below.heap_setCell _ _ _ _ (by simpa using hk)) (by simp))
  go_enter Try.func10, Try.ntmps10
  go_upto_region 7 with (first
    | (go_at_call 9; ((with_reducible refine (HASH.out _ HR1.out).mono ?_); rintro e w' ⟨rfl, rfl⟩))
    | (go_at_call 18; ((with_reducible refine (HA.out).mono ?_); rintro e w2 ⟨rfl, hb2⟩)))
  have hs2 : w.heap.size ≤ w2.heap.size := by have := hb2.size; simpa using this
  have hkc2 : KC w2 K M mo 9 n (now + 1) f m := (hb2.block K (by simpa using hKl)).trans (hkc.s4 (now + 1))
  have hmc2 : w2.heap[M]? = some (.map es c) := (hb2.block M (by simpa using hMl)).trans ((Below.heap_setCell _ _ _ _ (by simpa using hne.symm)).trans hmc)
  have hfr2 : ∀ k, k < w.heap.size → k ≠ K → w2.heap[k]? = w.heap[k]? := fun k hk hkK => by rw [hb2.block k (by simpa using hk)]; exact Below.heap_setCell _ _ _ _ (by simpa using hkK)
  have hown2 := ownsRow_mono (w' := w2) hown (fun g' hg => by cases hg; exact hfr2 g hgl hgK)
  have hB2 : Below base w w2 := ((Below.refl base w).setCell (p := ⟨K, 4, none⟩) hbK _).trans (hb2.mono (by simpa using hbw))
  have e2 := hkc2.c2
  have e4 := hkc2.c4
  have hL2 := LK.out w2 hmc2
  have hL2d := LK.out w2.drew hmc2
  have g1 : w2.cell? ⟨g, j * 3 + 1, none⟩ = some (.int .i64 x0) := by rw [hown2.cellAt (j * 3 + 1) (by omega)]; exact hx1
  have g2 : w2.cell? ⟨g, j * 3 + 2, none⟩ = some (.int .i64 last) := by rw [hown2.cellAt (j * 3 + 2) (by omega)]; exact hx2
  have gf1 : w2.frozen? ⟨g, j * 3 + 1, none⟩ = false := hown2.frozenAt (j * 3 + 1)
  have gf2 : w2.frozen? ⟨g, j * 3 + 2, none⟩ = false := hown2.frozenAt (j * 3 + 2)
  have i0 : (j : Int) < nE := by omega
  have HK2 := Lib.hid hkc2
  have HM2 := Lib.hid hmc2
  have HO2 := Lib.hid hown2
  have HB2 := Lib.hid hB2
  have HF2 := Lib.hid hfr2
  clear hkc hmc hkc2 hmc2 hown hown2 hb2 hB2 hfr2 c1 c2 c4 fr hL HA
  go_region
  have HE : Hid (Below base w ((w2.setCell ⟨g, j * 3 + 1, none⟩ (.int .i64 x)).setCell ⟨g, j * 3 + 2, none⟩ (.int .i64 (now + 1))).drew ∧ KeepG ((w2.setCell ⟨g, j * 3 + 1, none⟩ (.int .i64 x)).setCell ⟨g, j * 3 + 2, none⟩ (.int .i64 (now + 1))).drew K M mo 9 n (now + 1) f m es c ∧
      ((w2.setCell ⟨g, j * 3 + 1, none⟩ (.int .i64 x)).setCell ⟨g, j * 3 + 2, none⟩ (.int .i64 (now + 1))).drew.ownsRow base 55 3 (.slice (some ⟨g, 0, none⟩) nE cap) nE ((xs.set (j * 3 + 1) (.int .i64 x)).set (j * 3 + 2) (.int .i64 (now + 1))) ∧
      (∀ k, k < w.heap.size → k ≠ K → k ≠ g → ((w2.setCell ⟨g, j * 3 + 1, none⟩ (.int .i64 x)).setCell ⟨g, j * 3 + 2, none⟩ (.int .i64 (now + 1))).drew.heap[k]? = w.heap[k]?)) := Lib.hid (by
    have ho : ∀ k, k ≠ g → ((w2.setCell ⟨g, j * 3 + 1, none⟩ (.int .i64 x)).setCell ⟨g, j * 3 + 2, none⟩ (.int .i64 (now + 1))).drew.heap[k]? = w2.heap[k]? := fun k hk =>
      (Below.heap_setCell (w2.setCell ⟨g, j * 3 + 1, none⟩ (.int .i64 x)) ⟨g, j * 3 + 2, none⟩ _ k (by simpa using hk)).trans (Below.heap_setCell w2 ⟨g, j * 3 + 1, none⟩ _ k (by simpa using hk))
    refine ⟨((HB2.out.setCell (p := ⟨g, j * 3 + 1, none⟩) hgb _).setCell (p := ⟨g, j * 3 + 2, none⟩) hgb _).drew, ⟨(ho K hgK.symm).trans HK2.out, (ho M hgM.symm).trans HM2.out, hne⟩, ?_, fun k h1 h2 h3 => (ho k h3).trans (HF2.out k h1 h2)⟩
    exact ((HO2.out.stored (j * 3 + 1) (.int .i64 x)).1.stored (j * 3 + 2) (.int .i64 (now + 1))).1)
  clear hL2 hL2d g1 g2 gf1 gf2 e2 e4
  generalize ((w2.setCell ⟨g, j * 3 + 1, none⟩ (.int .i64 x)).setCell ⟨g, j * 3 + 2, none⟩ (.int .i64 (now + 1))).drew = w4 at *
  go_wp2
  go_ret
  exact ⟨rfl, HE.out.1, HE.out.2.1, HE.out.2.2.1, HE.out.2.2.2⟩
set_option maxRecDepth 20000 in
set_option maxHeartbeats 4000000 in
theorem put_hit13 (w : World) (K M g nE cap base j : Nat) (mo hh : Int) (n now f m x : Int) (es : Array MapEntry) (c : Nat) (key : Value) (x0 last : Int) (xs : List Value) (hj : j < nE) (hx1 : xs[j * 3 + 1]? = some (.int .i64 x0)) (hx2 : xs[j * 3 + 2]? = some (.int .i64 last)) (hnow : 0 ≤ now ∧ now < 100000)
   (hk : KeepG w K M mo 13 n now f m es c) (l : List Int) (HKR : Hid (Row w key l)) (hkK : kblk key l ≠ some K) (HASH : Hid (∀ w' : World, Row w' key l → Calls Try.prog 13 #[key] w' fun e w'' => e = .returned (.int .u64 hh) ∧ w' = w'')) (hnE : nE ≤ 100000) (hbK : base ≤ K) (hbw : base ≤ w.heap.size) (hgK : g ≠ K) (hgM : g ≠ M)
   (hown : w.ownsRow base 55 3 (.slice (some ⟨g, 0, none⟩) nE cap) nE xs)
   (LK : Hid (∀ w' : World, w'.heap[M]? = some (.map es c) → (Instr.lookup 49 (.map (some M)) (.int .u64 hh) false).run Try.prog w' = .ok (.slice (some ⟨g, 0, none⟩) nE cap) w'))
   (AT : Hid (∀ w' : World, (∀ k, k ≠ K → w'.heap[k]? = w.heap[k]?) → w'.heap.size = w.heap.size → Calls Try.prog 18 #[.slice (some ⟨g, 0, none⟩) nE cap, key] w' fun e w'' => e = .returned (.int .i64 (j : Int)) ∧ Below w'.heap.size w' w'')) :
   Calls Try.prog 10 #[.pointer (some ⟨K, 0, none⟩), key, .int .i64 x] w fun e w' => e = .returned (.int .i64 0) ∧ Below base w w' ∧ KeepG w' K M mo 13 n (now + 1) f m es c ∧ w'.ownsRow base 55 3 (.slice (some ⟨g, 0, none⟩) nE cap) nE ((xs.set (j * 3 + 1) (.int .i64 x)).set (j * 3 + 2) (.int .i64 (now + 1))) ∧ (∀ k, k < w.heap.size → k ≠ K → k ≠ g → w'.heap[k]? = w.heap[k]?) := by
  obtain ⟨hkc, hmc, hne⟩ := hk
  have hKl : K < w.heap.size := (Array.getElem?_eq_some_iff.1 hkc).1
  have hMl : M < w.heap.size := (Array.getElem?_eq_some_iff.1 hmc).1
  have hgl : g < w.heap.size := by
    rcases hown.2 with ⟨h', _⟩ | ⟨g', cap', cur, h', _, hg, _⟩
    · simp at h'
    · simp only [Value.slice.injEq, Option.some.injEq, Addr.mk.injEq, and_true, true_and] at h'
      obtain ⟨rfl, rfl⟩ := h'
      exact (Array.getElem?_eq_some_iff.1 hg).1
  have hgb := ownsRow_ge hown g rfl
  have HR1 : Hid (Row (w.setCell ⟨K, 4, none⟩ (.int .i64 (now + 1))) key l) := Lib.hid (HKR.out.atk (fun g hg => Below.heap_setCell _ _ _ _ (by intro e; exact hkK (by rw [hg, show g = K from e]))) (by simp))
  have c1 := hkc.c1
  have c2 := hkc.c2
  have c4 := hkc.c4
  have fr := hkc.fr 4
  have hL := LK.out (w.setCell ⟨K, 4, none⟩ (.int .i64 (now + 1))) (by rw [Below.heap_setCell _ _ _ _ (by simpa using hne.symm)]; exact hmc)
  have HA := Lib.hid (AT.out (w.setCell ⟨K, 4, none⟩ (.int .i64 (now + 1))) (fun k hk => Below.heap_setCell _ _ _ _ (by simpa using hk)) (by simp))
  go_enter Try.func10, Try.ntmps10
  go_upto_region 7 with (first
    | (go_at_call 13; ((with_reducible refine (HASH.out _ HR1.out).mono ?_); rintro e w' ⟨rfl, rfl⟩))
    | (go_at_call 18; ((with_reducible refine (HA.out).mono ?_); rintro e w2 ⟨rfl, hb2⟩)))
  have hs2 : w.heap.size ≤ w2.heap.size := by have := hb2.size; simpa using this
  have hkc2 : KC w2 K M mo 13 n (now + 1) f m := (hb2.block K (by simpa using hKl)).trans (hkc.s4 (now + 1))
  have hmc2 : w2.heap[M]? = some (.map es c) := (hb2.block M (by simpa using hMl)).trans ((Below.heap_setCell _ _ _ _ (by simpa using hne.symm)).trans hmc)
  have hfr2 : ∀ k, k < w.heap.size → k ≠ K → w2.heap[k]? = w.heap[k]? := fun k hk hkK => by rw [hb2.block k (by simpa using hk)]; exact Below.heap_setCell _ _ _ _ (by simpa using hkK)
  have hown2 := ownsRow_mono (w' := w2) hown (fun g' hg => by cases hg; exact hfr2 g hgl hgK)
  have hB2 : Below base w w2 := ((Below.refl base w).setCell (p := ⟨K, 4, none⟩) hbK _).trans (hb2.mono (by simpa using hbw))
  have e2 := hkc2.c2
  have e4 := hkc2.c4
  have hL2 := LK.out w2 hmc2
  have hL2d := LK.out w2.drew hmc2
  have g1 : w2.cell? ⟨g, j * 3 + 1, none⟩ = some (.int .i64 x0) := by rw [hown2.cellAt (j * 3 + 1) (by omega)]; exact hx1
  have g2 : w2.cell? ⟨g, j * 3 + 2, none⟩ = some (.int .i64 last) := by rw [hown2.cellAt (j * 3 + 2) (by omega)]; exact hx2
  have gf1 : w2.frozen? ⟨g, j * 3 + 1, none⟩ = false := hown2.frozenAt (j * 3 + 1)
  have gf2 : w2.frozen? ⟨g, j * 3 + 2, none⟩ = false := hown2.frozenAt (j * 3 + 2)
  have i0 : (j : Int) < nE := by omega
  have HK2 := Lib.hid hkc2
  have HM2 := Lib.hid hmc2
  have HO2 := Lib.hid hown2
  have HB2 := Lib.hid hB2
  have HF2 := Lib.hid hfr2
  clear hkc hmc hkc2 hmc2 hown hown2 hb2 hB2 hfr2 c1 c2 c4 fr hL HA
  go_region
  have HE : Hid (Below base w ((w2.setCell ⟨g, j * 3 + 1, none⟩ (.int .i64 x)).setCell ⟨g, j * 3 + 2, none⟩ (.int .i64 (now + 1))).drew ∧ KeepG ((w2.setCell ⟨g, j * 3 + 1, none⟩ (.int .i64 x)).setCell ⟨g, j * 3 + 2, none⟩ (.int .i64 (now + 1))).drew K M mo 13 n (now + 1) f m es c ∧
      ((w2.setCell ⟨g, j * 3 + 1, none⟩ (.int .i64 x)).setCell ⟨g, j * 3 + 2, none⟩ (.int .i64 (now + 1))).drew.ownsRow base 55 3 (.slice (some ⟨g, 0, none⟩) nE cap) nE ((xs.set (j * 3 + 1) (.int .i64 x)).set (j * 3 + 2) (.int .i64 (now + 1))) ∧
      (∀ k, k < w.heap.size → k ≠ K → k ≠ g → ((w2.setCell ⟨g, j * 3 + 1, none⟩ (.int .i64 x)).setCell ⟨g, j * 3 + 2, none⟩ (.int .i64 (now + 1))).drew.heap[k]? = w.heap[k]?)) := Lib.hid (by
    have ho : ∀ k, k ≠ g → ((w2.setCell ⟨g, j * 3 + 1, none⟩ (.int .i64 x)).setCell ⟨g, j * 3 + 2, none⟩ (.int .i64 (now + 1))).drew.heap[k]? = w2.heap[k]? := fun k hk =>
      (Below.heap_setCell (w2.setCell ⟨g, j * 3 + 1, none⟩ (.int .i64 x)) ⟨g, j * 3 + 2, none⟩ _ k (by simpa using hk)).trans (Below.heap_setCell w2 ⟨g, j * 3 + 1, none⟩ _ k (by simpa using hk))
    refine ⟨((HB2.out.setCell (p := ⟨g, j * 3 + 1, none⟩) hgb _).setCell (p := ⟨g, j * 3 + 2, none⟩) hgb _).drew, ⟨(ho K hgK.symm).trans HK2.out, (ho M hgM.symm).trans HM2.out, hne⟩, ?_, fun k h1 h2 h3 => (ho k h3).trans (HF2.out k h1 h2)⟩
    exact ((HO2.out.stored (j * 3 + 1) (.int .i64 x)).1.stored (j * 3 + 2) (.int .i64 (now + 1))).1)
  clear hL2 hL2d g1 g2 gf1 gf2 e2 e4
  generalize ((w2.setCell ⟨g, j * 3 + 1, none⟩ (.int .i64 x)).setCell ⟨g, j * 3 + 2, none⟩ (.int .i64 (now + 1))).drew = w4 at *
  go_wp2
  go_ret
  exact ⟨rfl, HE.out.1, HE.out.2.1, HE.out.2.2.1, HE.out.2.2.2⟩
set_option maxRecDepth 20000 in
set_option maxHeartbeats 4000000 in
theorem put_hit14 (w : World) (K M g nE cap base j : Nat) (mo hh : Int) (n now f m x : Int) (es : Array MapEntry) (c : Nat) (key : Value) (x0 last : Int) (xs : List Value) (hj : j < nE) (hx1 : xs[j * 3 + 1]? = some (.int .i64 x0)) (hx2 : xs[j * 3 + 2]? = some (.int .i64 last)) (hnow : 0 ≤ now ∧ now < 100000)
   (hk : KeepG w K M mo 14 n now f m es c) (l : List Int) (HKR : Hid (Row w key l)) (hkK : kblk key l ≠ some K) (HASH : Hid (∀ w' : World, Row w' key l → Calls Try.prog 14 #[key] w' fun e w'' => e = .returned (.int .u64 hh) ∧ w' = w'')) (hnE : nE ≤ 100000) (hbK : base ≤ K) (hbw : base ≤ w.heap.size) (hgK : g ≠ K) (hgM : g ≠ M)
   (hown : w.ownsRow base 55 3 (.slice (some ⟨g, 0, none⟩) nE cap) nE xs)
   (LK : Hid (∀ w' : World, w'.heap[M]? = some (.map es c) → (Instr.lookup 49 (.map (some M)) (.int .u64 hh) false).run Try.prog w' = .ok (.slice (some ⟨g, 0, none⟩) nE cap) w'))
   (AT : Hid (∀ w' : World, (∀ k, k ≠ K → w'.heap[k]? = w.heap[k]?) → w'.heap.size = w.heap.size → Calls Try.prog 18 #[.slice (some ⟨g, 0, none⟩) nE cap, key] w' fun e w'' => e = .returned (.int .i64 (j : Int)) ∧ Below w'.heap.size w' w'')) :
   Calls Try.prog 10 #[.pointer (some ⟨K, 0, none⟩), key, .int .i64 x] w fun e w' => e = .returned (.int .i64 0) ∧ Below base w w' ∧ KeepG w' K M mo 14 n (now + 1) f m es c ∧ w'.ownsRow base 55 3 (.slice (some ⟨g, 0, none⟩) nE cap) nE ((xs.set (j * 3 + 1) (.int .i64 x)).set (j * 3 + 2) (.int .i64 (now + 1))) ∧ (∀ k, k < w.heap.size → k ≠ K → k ≠ g → w'.heap[k]? = w.heap[k]?) := by
  obtain ⟨hkc, hmc, hne⟩ := hk
  have hKl : K < w.heap.size := (Array.getElem?_eq_some_iff.1 hkc).1
  have hMl : M < w.heap.size := (Array.getElem?_eq_some_iff.1 hmc).1
  have hgl : g < w.heap.size := by
    rcases hown.2 with ⟨h', _⟩ | ⟨g', cap', cur, h', _, hg, _⟩
    · simp at h'
    · simp only [Value.slice.injEq, Option.some.injEq, Addr.mk.injEq, and_true, true_and] at h'
      obtain ⟨rfl, rfl⟩ := h'
      exact (Array.getElem?_eq_some_iff.1 hg).1
  have hgb := ownsRow_ge hown g rfl
  have HR1 : Hid (Row (w.setCell ⟨K, 4, none⟩ (.int .i64 (now + 1))) key l) := Lib.hid (HKR.out.atk (fun g hg => Below.heap_setCell _ _ _ _ (by intro e; exact hkK (by rw [hg, show g = K from e]))) (by simp))
  have c1 := hkc.c1
  have c2 := hkc.c2
  have c4 := hkc.c4
  have fr := hkc.fr 4
  have hL := LK.out (w.setCell ⟨K, 4, none⟩ (.int .i64 (now + 1))) (by rw [Below.heap_setCell _ _ _ _ (by simpa using hne.symm)]; exact hmc)
  have HA := Lib.hid (AT.out (w.setCell ⟨K, 4, none⟩ (.int .i64 (now + 1))) (fun k hk => Below.heap_setCell _ _ _ _ (by simpa using hk)) (by simp))
  go_enter Try.func10, Try.ntmps10
  go_upto_region 7 with (first
    | (go_at_call 14; ((with_reducible refine (HASH.out _ HR1.out).mono ?_); rintro e w' ⟨rfl, rfl⟩))
    | (go_at_call 18; ((with_reducible refine (HA.out).mono ?_); rintro e w2 ⟨rfl, hb2⟩)))
  have hs2 : w.heap.size ≤ w2.heap.size := by have := hb2.size; simpa using this
  have hkc2 : KC w2 K M mo 14 n (now + 1) f m := (hb2.block K (by simpa using hKl)).trans (hkc.s4 (now + 1))
  have hmc2 : w2.heap[M]? = some (.map es c) := (hb2.block M (by simpa using hMl)).trans ((Below.heap_setCell _ _ _ _ (by simpa using hne.symm)).trans hmc)
  have hfr2 : ∀ k, k < w.heap.size → k ≠ K → w2.heap[k]? = w.heap[k]? := fun k hk hkK => by rw [hb2.block k (by simpa using hk)]; exact Below.heap_setCell _ _ _ _ (by simpa using hkK)
  have hown2 := ownsRow_mono (w' := w2) hown (fun g' hg => by cases hg; exact hfr2 g hgl hgK)
  have hB2 : Below base w w2 := ((Below.refl base w).setCell (p := ⟨K, 4, none⟩) hbK _).trans (hb2.mono (by simpa using hbw))
  have e2 := hkc2.c2
  have e4 := hkc2.c4
  have hL2 := LK.out w2 hmc2
  have hL2d := LK.out w2.drew hmc2
  have g1 : w2.cell? ⟨g, j * 3 + 1, none⟩ = some (.int .i64 x0) := by rw [hown2.cellAt (j * 3 + 1) (by omega)]; exact hx1
  have g2 : w2.cell? ⟨g, j * 3 + 2, none⟩ = some (.int .i64 last) := by rw [hown2.cellAt (j * 3 + 2) (by omega)]; exact hx2
  have gf1 : w2.frozen? ⟨g, j * 3 + 1, none⟩ = false := hown2.frozenAt (j * 3 + 1)
  have gf2 : w2.frozen? ⟨g, j * 3 + 2, none⟩ = false := hown2.frozenAt (j * 3 + 2)
  have i0 : (j : Int) < nE := by omega
  have HK2 := Lib.hid hkc2
  have HM2 := Lib.hid hmc2
  have HO2 := Lib.hid hown2
  have HB2 := Lib.hid hB2
  have HF2 := Lib.hid hfr2
  clear hkc hmc hkc2 hmc2 hown hown2 hb2 hB2 hfr2 c1 c2 c4 fr hL HA
  go_region
  have HE : Hid (Below base w ((w2.setCell ⟨g, j * 3 + 1, none⟩ (.int .i64 x)).setCell ⟨g, j * 3 + 2, none⟩ (.int .i64 (now + 1))).drew ∧ KeepG ((w2.setCell ⟨g, j * 3 + 1, none⟩ (.int .i64 x)).setCell ⟨g, j * 3 + 2, none⟩ (.int .i64 (now + 1))).drew K M mo 14 n (now + 1) f m es c ∧
      ((w2.setCell ⟨g, j * 3 + 1, none⟩ (.int .i64 x)).setCell ⟨g, j * 3 + 2, none⟩ (.int .i64 (now + 1))).drew.ownsRow base 55 3 (.slice (some ⟨g, 0, none⟩) nE cap) nE ((xs.set (j * 3 + 1) (.int .i64 x)).set (j * 3 + 2) (.int .i64 (now + 1))) ∧
      (∀ k, k < w.heap.size → k ≠ K → k ≠ g → ((w2.setCell ⟨g, j * 3 + 1, none⟩ (.int .i64 x)).setCell ⟨g, j * 3 + 2, none⟩ (.int .i64 (now + 1))).drew.heap[k]? = w.heap[k]?)) := Lib.hid (by
    have ho : ∀ k, k ≠ g → ((w2.setCell ⟨g, j * 3 + 1, none⟩ (.int .i64 x)).setCell ⟨g, j * 3 + 2, none⟩ (.int .i64 (now + 1))).drew.heap[k]? = w2.heap[k]? := fun k hk =>
      (Below.heap_setCell (w2.setCell ⟨g, j * 3 + 1, none⟩ (.int .i64 x)) ⟨g, j * 3 + 2, none⟩ _ k (by simpa using hk)).trans (Below.heap_setCell w2 ⟨g, j * 3 + 1, none⟩ _ k (by simpa using hk))
    refine ⟨((HB2.out.setCell (p := ⟨g, j * 3 + 1, none⟩) hgb _).setCell (p := ⟨g, j * 3 + 2, none⟩) hgb _).drew, ⟨(ho K hgK.symm).trans HK2.out, (ho M hgM.symm).trans HM2.out, hne⟩, ?_, fun k h1 h2 h3 => (ho k h3).trans (HF2.out k h1 h2)⟩
    exact ((HO2.out.stored (j * 3 + 1) (.int .i64 x)).1.stored (j * 3 + 2) (.int .i64 (now + 1))).1)
  clear hL2 hL2d g1 g2 gf1 gf2 e2 e4
  generalize ((w2.setCell ⟨g, j * 3 + 1, none⟩ (.int .i64 x)).setCell ⟨g, j * 3 + 2, none⟩ (.int .i64 (now + 1))).drew = w4 at *
  go_wp2
  go_ret
  exact ⟨rfl, HE.out.1, HE.out.2.1, HE.out.2.2.1, HE.out.2.2.2⟩
end Go.Proofs.Ytebldhppnacdjab
