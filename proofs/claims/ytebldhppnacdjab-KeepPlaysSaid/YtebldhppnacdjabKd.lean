import Derived.Test.YtebldhppnacdjabKc
import Derived.BigRegion
import Derived.MapKept
import Derived.Deep.RegionHeld3
import Derived.Deep.DeepCutAuto
import Derived.Deep.CutBlock
import Derived.BigQuiet
import Derived.Deep.QuietTactic
import Derived.Deep.AppendLies
import Derived.Deep.RegionLaw
import Derived.Deep.RegionWith
set_option linter.unusedVariables false
namespace Go.Proofs.Ytebldhppnacdjab
open Go.RowKit
theorem Rd_fr (w : World) (x : Int) (fr : Nat × Nat) : Rd (w.alloc (.cells #[.int .u8 x] 5 fr)) (.slice (some ⟨w.heap.size, 0, none⟩) 1 1) [x] := by
  refine ⟨w.heap.size, 0, 1, rfl, by simp, by simp, by simp, fun j hj => ?_⟩
  obtain rfl : j = 0 := by simp at hj; exact hj
  rw [cell_of_row _ _ _ _ 5 _ (heap_alloc_new w _)]
  rfl
theorem len_any (w : World) (K M : Nat) (n now f m : Int) (h : KCells w K M n now f m) : Calls Try.prog 12 #[.pointer (some ⟨K, 0, none⟩)] w fun e w' => e = .returned (.int .i64 n) ∧ w = w' := by
  have h3 := h.c3
  clear h
  go_enter Try.func12, Try.ntmps12
  go_wp2
  go_ret
  exact ⟨rfl, rfl⟩
/-- one entry. -/
def Stage1 (w : World) (base K M : Nat) : Prop := ∃ g cap k', KeepAt w K M (0 + 1) (0 + 1) 0 0 #[⟨.int .u64 7, .slice (some ⟨g, 0, none⟩) (0 + 1) cap, 0⟩] (0 + 1) ∧ w.ownsRow base 55 3 (.slice (some ⟨g, 0, none⟩) (0 + 1) cap) (0 + 1) ([] ++ [k', .int .i64 1, .int .i64 (0 + 1)]) ∧ g ≠ K ∧ g ≠ M ∧ g < w.heap.size ∧ Rd w k' [97] ∧ k'.ownBlock ≠ some g ∧ k'.ownBlock ≠ some K ∧ k'.ownBlock ≠ some M
def Stage2 (w : World) (base K M : Nat) : Prop := ∃ g cap k' k'', KeepAt w K M (0 + 1 + 1) (0 + 1 + 1) 0 0 #[⟨.int .u64 7, .slice (some ⟨g, 0, none⟩) (0 + 1 + 1) cap, 0⟩] (0 + 1) ∧ w.ownsRow base 55 3 (.slice (some ⟨g, 0, none⟩) (0 + 1 + 1) cap) (0 + 1 + 1) (([] ++ [k', .int .i64 1, .int .i64 (0 + 1)]) ++ [k'', .int .i64 2, .int .i64 (0 + 1 + 1)]) ∧ g ≠ K ∧ g ≠ M ∧ g < w.heap.size ∧ Rd w k' [97]
theorem KeepAt.alloc {w : World} {K M : Nat} {n now f m : Int} {es : Array MapEntry} {c : Nat} (h : KeepAt w K M n now f m es c) (o : Obj) : KeepAt (w.alloc o) K M n now f m es c := by
  obtain ⟨h1, h2, h3⟩ := h
  exact ⟨(Below.heap_alloc w o K (Array.getElem?_eq_some_iff.1 h1).1).trans h1, (Below.heap_alloc w o M (Array.getElem?_eq_some_iff.1 h2).1).trans h2, h3⟩
theorem KeepAt.lt {w : World} {K M : Nat} {n now f m : Int} {es : Array MapEntry} {c : Nat} (h : KeepAt w K M n now f m es c) : K < w.heap.size ∧ M < w.heap.size := ⟨(Array.getElem?_eq_some_iff.1 h.1).1, (Array.getElem?_eq_some_iff.1 h.2.1).1⟩
theorem put1 (w : World) (base K M : Nat) (hk : KeepAt w K M 0 0 0 0 #[] 0) (hbK : base ≤ K) (hbM : base ≤ M) (hbw : base ≤ w.heap.size) (fr : Nat × Nat) :
    Calls Try.prog 10 #[.pointer (some ⟨K, 0, none⟩), .slice (some ⟨w.heap.size, 0, none⟩) 1 1, .int .i64 1] (w.alloc (.cells #[.int .u8 97] 5 fr)) fun e w' => e = .returned (.int .i64 0) ∧ Below base w w' ∧ Stage1 w' base K M := by
  have hl := hk.lt
  refine (put_any (w.alloc (.cells #[.int .u8 97] 5 fr)) K M 0 0 0 0 #[] 0 (.slice none 0 0) (.slice (some ⟨w.heap.size, 0, none⟩) 1 1) [97] 1 (by omega) (by omega) (hk.alloc _) (by simp [Value.ownBlock]; omega) ⟨_, _, rfl⟩ (Rd_fr w 97 fr) (by simp) base 0 [] (by omega) (World.ownsRow_nil _ _ _ _) hbK hbM (by simp; omega) (by simp [Value.ownBlock]) (by simp [Value.ownBlock]) (fun g h => by cases h)
    (fun v' => #[⟨.int .u64 7, v', 0⟩]) (0 + 1) (Lib.hid fun w' v' h => up_empty w' M 0 v' h) (Lib.hid fun w' h => lk_empty w' M 0 h) (Lib.hid fun w' _ _ => at_nil w' _ ⟨_, _, _, rfl⟩)).mono ?_
  rintro e w' ⟨rfl, hb, -, g, cap, k', h1, h2, h3, h4, h5, h6, h7, h8, h9⟩
  exact ⟨rfl, ((Below.refl base w).alloc hbw _).trans hb, g, cap, k', h1, h2, h3, h4, h5, h6, h7, h8, h9⟩
theorem put2 (w : World) (base K M : Nat) (hS : Stage1 w base K M) (hbK : base ≤ K) (hbM : base ≤ M) (hbw : base ≤ w.heap.size) (fr : Nat × Nat) :
    Calls Try.prog 10 #[.pointer (some ⟨K, 0, none⟩), .slice (some ⟨w.heap.size, 0, none⟩) 1 1, .int .i64 2] (w.alloc (.cells #[.int .u8 98] 5 fr)) fun e w' => e = .returned (.int .i64 0) ∧ Below base w w' ∧ Stage2 w' base K M := by
  obtain ⟨g, cap, k', hk, hown, hgK, hgM, hgl, hrd, hkg, hkK, hkM⟩ := hS
  have hl := hk.lt
  have hkl := hrd.lt
  have hown' := ownsRow_mono (w' := w.alloc (.cells #[.int .u8 98] 5 fr)) hown (fun g' hg => by cases hg; exact Below.heap_alloc w _ g hgl)
  have hrd' := hrd.alloc (.cells #[.int .u8 98] 5 fr)
  have hr2 := hrd
  obtain ⟨kb, ko, kc, rfl, -, -, -, -⟩ := hr2
  refine (put_any (w.alloc (.cells #[.int .u8 98] 5 fr)) K M (0 + 1) (0 + 1) 0 0 _ (0 + 1) (.slice (some ⟨g, 0, none⟩) (0 + 1) cap) (.slice (some ⟨w.heap.size, 0, none⟩) 1 1) [98] 2 (by omega) (by omega) (hk.alloc _) (by simp [Value.ownBlock]; omega) ⟨_, _, rfl⟩ (Rd_fr w 98 fr) (by simp) base (0 + 1) _ (by omega) hown' hbK hbM (by simp; omega) (by simpa [Value.ownBlock] using hgK) (by simpa [Value.ownBlock] using hgM) (fun g' h => by cases h; simp; omega)
    (fun v' => #[⟨.int .u64 7, v', 0⟩]) (0 + 1) (Lib.hid fun w' v' h => up_one w' M (0 + 1) 0 v' _ h) (Lib.hid fun w' h => lk_one w' M (0 + 1) 0 _ h) (Lib.hid fun w' hf hz => ?_)).mono ?_
  · have hg' := hf g hgK
    have hown2 := ownsRow_mono (w' := w') hown' (fun g' hg => by cases hg; exact hg')
    refine at_miss w' g kb ko cap kc 1 (0 + 1) w.heap.size 1 (by rw [hown2.cellAt 0 (by omega)]; rfl) (by rw [hown2.cellAt 1 (by omega)]; rfl) (by rw [hown2.cellAt 2 (by omega)]; rfl) ?_ ?_ (by rw [hz]; simp; omega)
    · exact hrd'.at (fun g' hg => hf g' (fun e => hkK (by rw [hg, e]))) (by omega)
    · exact (Rd_fr w 98 fr).at (fun g' hg => hf g' (by cases hg; show w.heap.size ≠ K; omega)) (by omega)
  · rintro e w' ⟨rfl, hb, hfr, g2, cap2, k2, h1, h2, h3, h4, h5, h6, h7, h8, h9⟩
    refine ⟨rfl, ((Below.refl base w).alloc hbw _).trans hb, g2, cap2, _, k2, h1, h2, h3, h4, h5, ?_⟩
    refine hrd'.at (fun g' hg => ?_) hb.size
    refine hfr g' (by have := hkl g' hg; simp; omega) (fun e => hkK (by rw [hg, e])) (fun e => hkM (by rw [hg, e])) (fun e => hkg (by rw [hg]; exact (show some g = some g' from e).symm))
theorem get1 (w : World) (base K M : Nat) (hS : Stage2 w base K M) (hbK : base ≤ K) (hbw : base ≤ w.heap.size) (fr : Nat × Nat) :
    Calls Try.prog 11 #[.pointer (some ⟨K, 0, none⟩), .slice (some ⟨w.heap.size, 0, none⟩) 1 1] (w.alloc (.cells #[.int .u8 97] 5 fr)) fun e w' => e = .returned (.tuple #[.int .i64 1, .bool true]) ∧ Below base w w' ∧ KCells w' K M (0 + 1 + 1) (0 + 1 + 1 + 1) (0 + 1) 0 := by
  obtain ⟨g, cap, k', k'', hk, hown, hgK, hgM, hgl, hrd⟩ := hS
  have hown' := ownsRow_mono (w' := w.alloc (.cells #[.int .u8 97] 5 fr)) hown (fun g' hg => by cases hg; exact Below.heap_alloc w _ g hgl)
  have hrd' := hrd.alloc (.cells #[.int .u8 97] 5 fr)
  have hr2 := hrd
  obtain ⟨kb, ko, kc, rfl, -, -, -, -⟩ := hr2
  refine (get_any (w.alloc (.cells #[.int .u8 97] 5 fr)) K M g (0 + 1 + 1) cap base (0 + 1 + 1) (0 + 1 + 1) 0 0 1 _ (0 + 1) (.slice (some ⟨w.heap.size, 0, none⟩) 1 1) _ (0 + 1) _ (by omega) (by omega) (hk.alloc _) ⟨_, _, rfl⟩ (by omega) hbK (by simp; omega) hgK hgM hown' (Lib.hid fun w' h => lk_one w' M (0 + 1) 0 _ h) (Lib.hid ?_)).mono ?_
  · exact at_first _ g kb ko (0 + 1 + 1) cap kc 1 (0 + 1) w.heap.size 1 (by omega) (by omega) (by rw [hown'.cellAt 0 (by omega)]; rfl) (by rw [hown'.cellAt 1 (by omega)]; rfl) (by rw [hown'.cellAt 2 (by omega)]; rfl) hrd' (Rd_fr w 97 fr) (by simp; omega)
  · rintro e w' ⟨rfl, hb, h⟩
    exact ⟨rfl, ((Below.refl base w).alloc hbw _).trans hb, h⟩
set_option maxRecDepth 20000 in
set_option maxHeartbeats 2000000 in
theorem lives_any (w : World) : Calls Try.prog 7 #[] w fun e w' => e = .returned (.bool true) ∧ Below w.heap.size w w' := by
  obtain ⟨H, hH⟩ : ∃ H, H = w.heap.size := ⟨_, rfl⟩
  have N : Hid (Calls Try.prog 8 #[.int .i64 9, .func (.func 9) #[] #[]] w fun e w' => e = .returned (.tuple #[.pointer (some ⟨H + 1, 0, none⟩), .int .i64 0]) ∧ KeepAt w' (H + 1) H 0 0 0 0 #[] 0 ∧ Below H w w') := Lib.hid (by rw [hH]; exact new_any w)
  rw [← hH]
  have hle : H ≤ w.heap.size := by omega
  clear hH
  have cv : ∀ (w : World) (x : Int), (convert 29 29 (.slice (some ⟨w.heap.size, 0, none⟩) 1 1)).run Try.prog (w.alloc (.cells #[.int .u8 x] 5)) = .ok (.slice (some ⟨w.heap.size, 0, none⟩) 1 1) (w.alloc (.cells #[.int .u8 x] 5 (1, 2))) := fun w x => Lib.run_convert_bytes_const w 29 5 #[.int .u8 x] 1 1 Try.underlying29 Try.underlying5
  go_enter Try.func7, Try.ntmps7
  go_wp2_with (first
    | (go_at_call 8; ((with_reducible refine N.out.mono ?_); rintro e w1 ⟨rfl, hk1, hb1⟩; have hs1 := hb1.size))
    | (go_at_call 10; first | ((with_reducible refine (put1 w1 H (H + 1) H hk1 (by omega) (by omega) (by omega) _).mono ?_); rintro e w2 ⟨rfl, hb2, hS2⟩; have hs2 := hb2.size) | ((with_reducible refine (put2 w2 H (H + 1) H hS2 (by omega) (by omega) (by omega) _).mono ?_); rintro e w3 ⟨rfl, hb3, hS3⟩; have hs3 := hb3.size))
    | (go_at_call 11; ((with_reducible refine (get1 w3 H (H + 1) H hS3 (by omega) (by omega) _).mono ?_); rintro e w4 ⟨rfl, hb4, hk4⟩))
    | (go_at_call 12; ((with_reducible refine (len_any _ _ _ _ _ _ _ hk4).mono ?_); rintro e w5 ⟨rfl, rfl⟩)))
  go_ret
  exact ⟨rfl, ((hb1.trans hb2).trans hb3).trans hb4⟩
end Go.Proofs.Ytebldhppnacdjab
