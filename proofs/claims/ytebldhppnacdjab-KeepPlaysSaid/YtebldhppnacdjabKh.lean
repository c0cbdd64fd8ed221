import Derived.Test.YtebldhppnacdjabKg
import Derived.BigRegion
import Derived.MapKept
import Derived.Deep.RegionHeld3
import Derived.Deep.DeepCutAuto
import Derived.Deep.CutBlock
import Derived.BigQuiet
import Derived.Deep.QuietTactic
import Derived.Deep.AppendLies
import Derived.Deep.RegionLaw
import Derived.Deep.RegionWith
set_option linter.unusedVariables false
namespace Go.Proofs.Ytebldhppnacdjab
open Go.RowKit
set_option maxRecDepth 20000 in
set_option maxHeartbeats 2000000 in
theorem get_miss9 (w : World) (K M base : Nat) (mo hh : Int) (n now f m : Int) (es : Array MapEntry) (c : Nat) (v key : Value) (hm : 0 ≤ m ∧ m < 100000)
   (hk : KeepG w K M mo 9 n now f m es c) (l : List Int) (HKR : Hid (Row w key l)) (HASH : Hid (∀ w' : World, Row w' key l → Calls Try.prog 9 #[key] w' fun e w'' => e = .returned (.int .u64 hh) ∧ w' = w'')) (hbK : base ≤ K) (hbw : base ≤ w.heap.size)
   (LK : Hid (∀ w' : World, w'.heap[M]? = some (.map es c) → (Instr.lookup 49 (.map (some M)) (.int .u64 hh) false).run Try.prog w' = .ok v w'))
   (AT : Hid (Calls Try.prog 18 #[v, key] w fun e w'' => e = .returned (.int .i64 (-1)) ∧ Below w.heap.size w w'')) :
   Calls Try.prog 11 #[.pointer (some ⟨K, 0, none⟩), key] w fun e w' => e = .returned (.tuple #[.int .i64 0, .bool false]) ∧ Below base w w' ∧ KeepG w' K M mo 9 n now f (m + 1) es c ∧ (∀ k, k < w.heap.size → k ≠ K → w'.heap[k]? = w.heap[k]?) := by
  obtain ⟨hkc, hmc, hne⟩ := hk
  have hKl : K < w.heap.size := (Array.getElem?_eq_some_iff.1 hkc).1
  have hMl : M < w.heap.size := (Array.getElem?_eq_some_iff.1 hmc).1
  have c1 := hkc.c1
  have c2 := hkc.c2
  have hL := LK.out w hmc
  go_enter Try.func11, Try.ntmps11
  go_upto_region 7 with (first
    | (go_at_call 9; ((with_reducible refine (HASH.out _ HKR.out).mono ?_); rintro e w' ⟨rfl, rfl⟩))
    | (go_at_call 18; ((with_reducible refine (AT.out).mono ?_); rintro e w2 ⟨rfl, hb2⟩)))
  have hkc2 : KC w2 K M mo 9 n now f m := (hb2.block K hKl).trans hkc
  have hmc2 : w2.heap[M]? = some (.map es c) := (hb2.block M hMl).trans hmc
  have d6 := hkc2.c6
  have q6 := hkc2.fr 6
  have HE : Hid (Below base w (w2.setCell ⟨K, 6, none⟩ (.int .i64 (m + 1))) ∧ KeepG (w2.setCell ⟨K, 6, none⟩ (.int .i64 (m + 1))) K M mo 9 n now f (m + 1) es c ∧ (∀ k, k < w.heap.size → k ≠ K → (w2.setCell ⟨K, 6, none⟩ (.int .i64 (m + 1))).heap[k]? = w.heap[k]?)) := Lib.hid
    ⟨(hb2.mono hbw).setCell (p := ⟨K, 6, none⟩) hbK _, ⟨hkc2.s6 (m + 1), (Below.heap_setCell _ _ _ _ (by simpa using hne.symm)).trans hmc2, hne⟩, fun k h1 h2 => (Below.heap_setCell _ _ _ _ (by simpa using h2)).trans (hb2.block k h1)⟩
  clear hkc hmc hkc2 hmc2 hb2 c1 c2 hL
  go_wp2
  go_ret2
  exact ⟨rfl, HE.out.1, HE.out.2.1, HE.out.2.2⟩
set_option maxRecDepth 20000 in
set_option maxHeartbeats 2000000 in
theorem get_miss13 (w : World) (K M base : Nat) (mo hh : Int) (n now f m : Int) (es : Array MapEntry) (c : Nat) (v key : Value) (hm : 0 ≤ m ∧ m < 100000)
   (hk : KeepG w K M mo 13 n now f m es c) (l : List Int) (HKR : Hid (Row w key l)) (HASH : Hid (∀ w' : World, Row w' key l → Calls Try.prog 13 #[key] w' fun e w'' => e = .returned (.int .u64 hh) ∧ w' = w'')) (hbK : base ≤ K) (hbw : base ≤ w.heap.size)
   (LK : Hid (∀ w' : World, w'.heap[M]? = some (.map es c) → (Instr.lookup 49 (.map (some M)) (.int .u64 hh) false).run Try.prog w' = .ok v w'))
   (AT : Hid (Calls Try.prog 18 #[v, key] w fun e w'' => e = .returned (.int .i64 (-1)) ∧ Below w.heap.size w w'')) :
   Calls Try.prog 11 #[.pointer (some ⟨K, 0, none⟩), key] w fun e w' => e = .returned (.tuple #[.int .i64 0, .bool false]) ∧ Below base w w' ∧ KeepG w' K M mo 13 n now f (m + 1) es c ∧ (∀ k, k < w.heap.size → k ≠ K → w'.heap[k]? = w.heap[k]?) := by
  obtain ⟨hkc, hmc, hne⟩ := hk
  have hKl : K < w.heap.size := (Array.getElem?_eq_some_iff.1 hkc).1
  have hMl : M < w.heap.size := (Array.getElem?_eq_some_iff.1 hmc).1
  have c1 := hkc.c1
  have c2 := hkc.c2
  have hL := LK.out w hmc
  go_enter Try.func11, Try.ntmps11
  go_upto_region 7 with (first
    | (go_at_call 13; ((with_reducible refine (HASH.out _ HKR.out).mono ?_); rintro e w' ⟨rfl, rfl⟩))
    | (go_at_call 18; ((with_reducible refine (AT.out).mono ?_); rintro e w2 ⟨rfl, hb2⟩)))
  have hkc2 : KC w2 K M mo 13 n now f m := (hb2.block K hKl).trans hkc
  have hmc2 : w2.heap[M]? = some (.map es c) := (hb2.block M hMl).trans hmc
  have d6 := hkc2.c6
  have q6 := hkc2.fr 6
  have HE : Hid (Below base w (w2.setCell ⟨K, 6, none⟩ (.int .i64 (m + 1))) ∧ KeepG (w2.setCell ⟨K, 6, none⟩ (.int .i64 (m + 1))) K M mo 13 n now f (m + 1) es c ∧ (∀ k, k < w.heap.size → k ≠ K → (w2.setCell ⟨K, 6, none⟩ (.int .i64 (m + 1))).heap[k]? = w.heap[k]?)) := Lib.hid
    ⟨(hb2.mono hbw).setCell (p := ⟨K, 6, none⟩) hbK _, ⟨hkc2.s6 (m + 1), (Below.heap_setCell _ _ _ _ (by simpa using hne.symm)).trans hmc2, hne⟩, fun k h1 h2 => (Below.heap_setCell _ _ _ _ (by simpa using h2)).trans (hb2.block k h1)⟩
  clear hkc hmc hkc2 hmc2 hb2 c1 c2 hL
  go_wp2
  go_ret2
  exact ⟨rfl, HE.out.1, HE.out.2.1, HE.out.2.2⟩
set_option maxRecDepth 20000 in
set_option maxHeartbeats 2000000 in
theorem get_miss14 (w : World) (K M base : Nat) (mo hh : Int) (n now f m : Int) (es : Array MapEntry) (c : Nat) (v key : Value) (hm : 0 ≤ m ∧ m < 100000)
   (hk : KeepG w K M mo 14 n now f m es c) (l : List Int) (HKR : Hid (Row w key l)) (HASH : Hid (∀ w' : World, Row w' key l → Calls Try.prog 14 #[key] w' fun e w'' => e = .returned (.int .u64 hh) ∧ w' = w'')) (hbK : base ≤ K) (hbw : base ≤ w.heap.size)
   (LK : Hid (∀ w' : World, w'.heap[M]? = some (.map es c) → (Instr.lookup 49 (.map (some M)) (.int .u64 hh) false).run Try.prog w' = .ok v w'))
   (AT : Hid (Calls Try.prog 18 #[v, key] w fun e w'' => e = .returned (.int .i64 (-1)) ∧ Below w.heap.size w w'')) :
   Calls Try.prog 11 #[.pointer (some ⟨K, 0, none⟩), key] w fun e w' => e = .returned (.tuple #[.int .i64 0, .bool false]) ∧ Below base w w' ∧ KeepG w' K M mo 14 n now f (m + 1) es c ∧ (∀ k, k < w.heap.size → k ≠ K → w'.heap[k]? = w.heap[k]?) := by
  obtain ⟨hkc, hmc, hne⟩ := hk
  have hKl : K < w.heap.size := (Array.getElem?_eq_some_iff.1 hkc).1
  have hMl : M < w.heap.size := (Array.getElem?_eq_some_iff.1 hmc).1
  have c1 := hkc.c1
  have c2 := hkc.c2
  have hL := LK.out w hmc
  go_enter Try.func11, Try.ntmps11
  go_upto_region 7 with (first
    | (go_at_call 14; ((with_reducible refine (HASH.out _ HKR.out).mono ?_); rintro e w' ⟨rfl, rfl⟩))
    | (go_at_call 18; ((with_reducible refine (AT.out).mono ?_); rintro e w2 ⟨rfl, hb2⟩)))
  have hkc2 : KC w2 K M mo 14 n now f m := (hb2.block K hKl).trans hkc
  have hmc2 : w2.heap[M]? = some (.map es c) := (hb2.block M hMl).trans hmc
  have d6 := hkc2.c6
  have q6 := hkc2.fr 6
  have HE : Hid (Below base w (w2.setCell ⟨K, 6, none⟩ (.int .i64 (m + 1))) ∧ KeepG (w2.setCell ⟨K, 6, none⟩ (.int .i64 (m + 1))) K M mo 14 n now f (m + 1) es c ∧ (∀ k, k < w.heap.size → k ≠ K → (w2.setCell ⟨K, 6, none⟩ (.int .i64 (m + 1))).heap[k]? = w.heap[k]?)) := Lib.hid
    ⟨(hb2.mono hbw).setCell (p := ⟨K, 6, none⟩) hbK _, ⟨hkc2.s6 (m + 1), (Below.heap_setCell _ _ _ _ (by simpa using hne.symm)).trans hmc2, hne⟩, fun k h1 h2 => (Below.heap_setCell _ _ _ _ (by simpa using h2)).trans (hb2.block k h1)⟩
  clear hkc hmc hkc2 hmc2 hb2 c1 c2 hL
  go_wp2
  go_ret2
  exact ⟨rfl, HE.out.1, HE.out.2.1, HE.out.2.2⟩
end Go.Proofs.Ytebldhppnacdjab
