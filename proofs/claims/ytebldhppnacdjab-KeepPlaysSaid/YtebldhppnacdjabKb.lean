import Derived.Test.YtebldhppnacdjabKa
import Derived.MapKept
import Derived.Deep.RegionHeld3
import Derived.Deep.DeepCutAuto
import Derived.Deep.CutBlock
import Derived.BigQuiet
import Derived.Deep.QuietTactic
import Derived.Deep.AppendLies
import Derived.Deep.RegionLaw
import Derived.Deep.RegionWith
set_option linter.unusedVariables false
namespace Go.Proofs.Ytebldhppnacdjab
open Go.RowKit Go.MapKept
/-- w with another map in block b. -/
def putMap (w : World) (b : Nat) (o : Obj) : World := { w with heap := w.heap.setIfInBounds b o }
theorem isKey7 : IsKey (.int .u64) (.int .u64 7) := by simp [IsKey]
theorem lk_empty (w' : World) (M c : Nat) (h : w'.heap[M]? = some (.map #[] c)) : (Instr.lookup 49 (.map (some M)) (.int .u64 7) false).run Try.prog w' = .ok (.slice none 0 0) w' := by
  have hz : (zeroValue 53).run Try.prog w' = .ok (.slice none 0 0) w' := by rfl
  simp [Instr.lookup, run_underlying Try.underlying49, MapKept.run_getObj_map h, run_checkKey Try.underlying37 isKey7, run_findKey (P := Try.prog) (l := []) (k := .int .u64 7) (a := none) Try.underlying37 rfl, hz, Result.andThen]
theorem find7 (v : Value) (b : Nat) : Instr.findNow (.int .u64) (.int .u64 7) [⟨.int .u64 7, v, b⟩] 0 = some (some (0, v)) := by simp [Instr.findNow, Instr.sameNow]
theorem lk_one (w' : World) (M c b : Nat) (v : Value) (h : w'.heap[M]? = some (.map #[⟨.int .u64 7, v, b⟩] c)) : (Instr.lookup 49 (.map (some M)) (.int .u64 7) false).run Try.prog w' = .ok v w' := by
  simp [Instr.lookup, run_underlying Try.underlying49, MapKept.run_getObj_map h, run_checkKey Try.underlying37 isKey7, run_findKey (P := Try.prog) (k := .int .u64 7) Try.underlying37 (find7 v b), Result.andThen]
theorem up_empty (w' : World) (M c : Nat) (v : Value) (h : w'.heap[M]? = some (.map #[] c)) : (Instr.mapUpdate 49 (.map (some M)) (.int .u64 7) v).run Try.prog w' = .ok () (putMap w' M (.map #[⟨.int .u64 7, v, c⟩] (c + 1))) := by
  simp [Instr.mapUpdate, run_underlying Try.underlying49, MapKept.run_getObj_map h, run_checkKey Try.underlying37 isKey7, run_findKey (P := Try.prog) (l := []) (k := .int .u64 7) (a := none) Try.underlying37 rfl, MapKept.run_setObj_map _ h, Result.andThen, putMap]
theorem up_one (w' : World) (M c b : Nat) (v u : Value) (h : w'.heap[M]? = some (.map #[⟨.int .u64 7, u, b⟩] c)) : (Instr.mapUpdate 49 (.map (some M)) (.int .u64 7) v).run Try.prog w' = .ok () (putMap w' M (.map #[⟨.int .u64 7, v, b⟩] c)) := by
  simp [Instr.mapUpdate, run_underlying Try.underlying49, MapKept.run_getObj_map h, run_checkKey Try.underlying37 isKey7, run_findKey (P := Try.prog) (k := .int .u64 7) Try.underlying37 (find7 u b), run_keyThatStays isKey7, MapKept.run_setObj_map _ h, Result.andThen, putMap]
theorem putMap_at {w : World} {b : Nat} {o o' : Obj} (h : w.heap[b]? = some o') : (putMap w b o).heap[b]? = some o := (heap_set h).1
theorem putMap_off {w : World} {b k : Nat} {o : Obj} (h : k ≠ b) : (putMap w b o).heap[k]? = w.heap[k]? := by
  unfold putMap
  simp [Ne.symm h]
theorem putMap_size (w : World) (b : Nat) (o : Obj) : (putMap w b o).heap.size = w.heap.size := by simp [putMap]
theorem putMap_below {B : Nat} {a w : World} (h : Below B a w) {b : Nat} (hb : B ≤ b) (o : Obj) : Below B a (putMap w b o) :=
  h.trans ⟨rfl, rfl, rfl, by rw [putMap_size]; exact Nat.le_refl _, fun k hk => putMap_off (by omega)⟩
theorem Try.info55 : (Try.prog.info? 55).map (fun i => (i.zero, i.size, i.bytes)) = some (some (.agg #[.slice none 0 0, .int .i64 0, .int .i64 0]), 3, 40) := by kernel_rfl
theorem ownsRow_mono {w w' : World} {base : Nat} {e : TypeId} {size : Nat} {v : Value} {n : Nat} {xs : List Value} (h : w.ownsRow base e size v n xs) (hb : ∀ g, v.ownBlock = some g → w'.heap[g]? = w.heap[g]?) : w'.ownsRow base e size v n xs := by
  refine ⟨h.1, ?_⟩
  rcases h.2 with h' | ⟨g, cap, cur, rfl, e2, e3, e4⟩
  · exact Or.inl h'
  · exact Or.inr ⟨g, cap, cur, rfl, e2, by rw [hb g rfl]; exact e3, e4⟩
theorem Rd.at {w w' : World} {v : Value} {l : List Int} (h : Rd w v l) (hb : ∀ g, v.ownBlock = some g → w'.heap[g]? = w.heap[g]?) (hs : w.heap.size ≤ w'.heap.size) : Rd w' v l := by
  obtain ⟨b, off, cap, rfl, h2, h3, h4, h5⟩ := h
  exact ⟨b, off, cap, rfl, h2, h3, by omega, fun j hj => by rw [← h5 j hj]; exact World.cell?_of_block (w := w) (a := ⟨b, off + j, none⟩) (hb b rfl)⟩
theorem Rd.lt {w : World} {v : Value} {l : List Int} (h : Rd w v l) : ∀ g, v.ownBlock = some g → g < w.heap.size := by
  obtain ⟨b, off, cap, rfl, h2, h3, h4, h5⟩ := h
  intro g hg
  cases hg
  exact h4
/-- what stands in a keep's own block. -/
def KCells (w : World) (K M : Nat) (n now f m : Int) : Prop := w.heap[K]? = some (.cells #[.int .i64 9, .func (.func 9) #[] #[], .map (some M), .int .i64 n, .int .i64 now, .int .i64 f, .int .i64 m] 51 (0, 0))
theorem KCells.c2 {w : World} {K M : Nat} {n now f m : Int} (h : KCells w K M n now f m) : w.cell? ⟨K, 2, none⟩ = some (.map (some M)) := by rw [cell_of_row w K 2 _ 51 _ h]; rfl
theorem KCells.c3 {w : World} {K M : Nat} {n now f m : Int} (h : KCells w K M n now f m) : w.cell? ⟨K, 3, none⟩ = some (.int .i64 n) := by rw [cell_of_row w K 3 _ 51 _ h]; rfl
theorem KCells.c4 {w : World} {K M : Nat} {n now f m : Int} (h : KCells w K M n now f m) : w.cell? ⟨K, 4, none⟩ = some (.int .i64 now) := by rw [cell_of_row w K 4 _ 51 _ h]; rfl
theorem KCells.fr {w : World} {K M : Nat} {n now f m : Int} (h : KCells w K M n now f m) (j : Nat) : w.frozen? ⟨K, j, none⟩ = false := frozen_of_row w K j _ 51 h
theorem grown_at {w w' : World} {v : Value} (h : w.grownBy w' v.ownBlock) {k : Nat} (hk : k < w.heap.size) (hv : v.ownBlock ≠ some k) : w'.heap[k]? = w.heap[k]? := h.block k hk (fun e => hv e.symm)
theorem news3 (w : World) (a b c : Value) (t : TypeId) : ∀ (j : Nat) (u : Value), [a, b, c][j]? = some u → (w.alloc (.cells #[a, b, c] t)).cell? ((⟨w.heap.size, 0, none⟩ : Addr).add j) = some u := by
  intro j u h
  have hadd : (⟨w.heap.size, 0, none⟩ : Addr).add j = ⟨w.heap.size, j, none⟩ := by unfold Addr.add; split <;> simp_all
  rw [hadd, cell_of_row _ _ j _ t _ (heap_alloc_new w _)]
  simpa using h
theorem one3 (b : Addr) (n c : Nat) (x y : Int) : ∀ u ∈ [Value.slice (some b) n c, .int .i64 x, .int .i64 y], u.oneCell' = true := by
  intro u hu
  simp only [List.mem_cons, List.not_mem_nil, or_false] at hu
  rcases hu with rfl | rfl | rfl <;> rfl
theorem putMap_kc {w : World} {K M : Nat} {n now f m : Int} (h : KCells w K M n now f m) (hne : K ≠ M) (o : Obj) : KCells (putMap w M o) K M n now f m := (putMap_off hne).trans h
theorem ownsRow_ge {w : World} {base : Nat} {e : TypeId} {size : Nat} {v : Value} {n : Nat} {xs : List Value} (h : w.ownsRow base e size v n xs) : ∀ g, v.ownBlock = some g → base ≤ g := by
  intro g hg
  rcases h.2 with h' | ⟨g', cap, cur, rfl, e2, -⟩
  · rw [h'.1] at hg; cases hg
  · cases hg; exact e2
theorem put_end {w w2 w3 w4 w5 w6 : World} {K M : Nat} {n now f m : Int} {es es2 : Array MapEntry} {c' base nE g5 cap5 b4 o4 q4 g4 : Nat} {v : Value} {xs : List Value} {l : List Int} {x : Int} (o : Obj)
    (hB3 : Below base w w3) (hH : w3.heap = w2.heap) (hfr2 : ∀ k, k < w.heap.size → k ≠ K → w2.heap[k]? = w.heap[k]?) (hsz2 : w.heap.size ≤ w2.heap.size) (hKl : K < w.heap.size) (hMl : M < w.heap.size) (hne : K ≠ M)
    (hbK : base ≤ K) (hbM : base ≤ M) (hbw : base ≤ w.heap.size) (hvK : v.ownBlock ≠ some K) (hvM : v.ownBlock ≠ some M) (hvl : ∀ g, v.ownBlock = some g → g < w.heap.size) (hvb : ∀ g, v.ownBlock = some g → base ≤ g)
    (hb4 : Below w3.heap.size w3 w4) (hk4 : Rd w4 (.slice (some ⟨b4, o4, none⟩) l.length q4) l) (hg4 : (Value.slice (some ⟨b4, o4, none⟩) l.length q4).ownBlock = some g4) (hg4' : w3.heap.size ≤ g4)
    (hgrow5 : (w4.alloc o).grownBy w5 v.ownBlock) (hat5 : v.ownBlock = some g5 ∨ g5 = (w4.alloc o).heap.size) (hlt5 : g5 < w5.heap.size) (hkc5 : KCells w5 K M n (now + 1) f m) (hmc5 : ∃ o', w5.heap[M]? = some o')
    (hown5 : w5.ownsRow base 55 3 (.slice (some ⟨g5, 0, none⟩) (nE + 1) cap5) (nE + 1) (xs ++ [.slice (some ⟨b4, o4, none⟩) l.length q4, .int .i64 x, .int .i64 (now + 1)])) (hw6 : w6 = putMap w5 M (.map es2 c')) :
    Below base w (w6.setCell ⟨K, 3, none⟩ (.int .i64 (n + 1))) ∧ (∀ k, k < w.heap.size → k ≠ K → k ≠ M → v.ownBlock ≠ some k → (w6.setCell ⟨K, 3, none⟩ (.int .i64 (n + 1))).heap[k]? = w.heap[k]?) ∧
      KeepAt (w6.setCell ⟨K, 3, none⟩ (.int .i64 (n + 1))) K M (n + 1) (now + 1) f m es2 c' ∧ (w6.setCell ⟨K, 3, none⟩ (.int .i64 (n + 1))).ownsRow base 55 3 (.slice (some ⟨g5, 0, none⟩) (nE + 1) cap5) (nE + 1) (xs ++ [.slice (some ⟨b4, o4, none⟩) l.length q4, .int .i64 x, .int .i64 (now + 1)]) ∧ g5 ≠ K ∧ g5 ≠ M ∧ g5 < (w6.setCell ⟨K, 3, none⟩ (.int .i64 (n + 1))).heap.size ∧
      Rd (w6.setCell ⟨K, 3, none⟩ (.int .i64 (n + 1))) (.slice (some ⟨b4, o4, none⟩) l.length q4) l ∧ (Value.slice (some ⟨b4, o4, none⟩) l.length q4).ownBlock ≠ some g5 ∧ (Value.slice (some ⟨b4, o4, none⟩) l.length q4).ownBlock ≠ some K ∧ (Value.slice (some ⟨b4, o4, none⟩) l.length q4).ownBlock ≠ some M := by
  have hs3 : w3.heap.size = w2.heap.size := by rw [hH]
  have hz4 := hb4.size
  have hz5 := hgrow5.size
  have hza : (w4.alloc o).heap.size = w4.heap.size + 1 := by simp
  have hg4lt := hk4.lt g4 hg4
  have hgv : ∀ g, v.ownBlock = some g → g ≠ g4 := fun g hg => by have := hvl g hg; omega
  have hg5K : g5 ≠ K := by rcases hat5 with h | h; (intro e; exact hvK (by rw [h, e])); omega
  have hg5M : g5 ≠ M := by rcases hat5 with h | h; (intro e; exact hvM (by rw [h, e])); omega
  have hg54 : g4 ≠ g5 := by rcases hat5 with h | h; (exact fun e => hgv g5 h e.symm); omega
  subst hw6
  have hoff : ∀ k, k ≠ K → k ≠ M → ((putMap w5 M (.map es2 c')).setCell ⟨K, 3, none⟩ (.int .i64 (n + 1))).heap[k]? = w5.heap[k]? := fun k h1 h2 => by
    rw [Below.heap_setCell _ _ _ _ (by simpa using h1), putMap_off h2]
  have hold : ∀ k, k < w3.heap.size → v.ownBlock ≠ some k → w5.heap[k]? = w3.heap[k]? := fun k h1 h2 => by
    rw [grown_at hgrow5 (by omega) h2, Below.heap_alloc _ _ _ (by omega), hb4.block k h1]
  have hkP := putMap_kc hkc5 hne (.map es2 c')
  obtain ⟨o', ho'⟩ := hmc5
  refine ⟨?_, ?_, ⟨?_, ?_, hne⟩, ?_, hg5K, hg5M, by simp [putMap_size]; omega, ?_, by rw [hg4]; exact fun e => hg54 (Option.some.inj e), by rw [hg4]; intro e; have := Option.some.inj e; omega, by rw [hg4]; intro e; have := Option.some.inj e; omega⟩
  · refine Below.setCell (p := ⟨K, 3, none⟩) (putMap_below ?_ hbM _) hbK _
    exact ((hB3.trans (hb4.mono (by omega))).alloc (by omega) o).grown hgrow5 (by omega) hvb
  · intro k h1 h2 h3 h4
    rw [hoff k h2 h3, hold k (by omega) h4, hH, hfr2 k h1 h2]
  · exact heap_setCell_same _ K 3 _ 51 _ hkP
  · rw [Below.heap_setCell _ _ _ _ (by simpa using hne.symm)]
    exact putMap_at ho'
  · exact ownsRow_mono hown5 (fun g hg => by cases hg; exact hoff g5 hg5K hg5M)
  · refine hk4.at (fun g hg => ?_) (by simp [putMap_size]; omega)
    rw [hg4] at hg
    cases hg
    rw [hoff g4 (by omega) (by omega), grown_at hgrow5 (by omega) (fun e => hgv g4 e rfl), Below.heap_alloc _ _ _ hg4lt]
set_option maxRecDepth 20000 in
set_option maxHeartbeats 2000000 in
theorem put_any (w : World) (K M : Nat) (n now f m : Int) (es : Array MapEntry) (c : Nat) (v key : Value) (l : List Int) (x : Int) (hn : 0 ≤ n ∧ n < 9) (hnow : 0 ≤ now ∧ now < 100)
   (hk : KeepAt w K M n now f m es c) (hkK : key.ownBlock ≠ some K) (hkey : ∃ b c, key = .slice (some ⟨b, 0, none⟩) 1 c) (hkr : Rd w key l) (hll : l.length ≤ 1000) (base nE : Nat) (xs : List Value) (hnE : nE ≤ 5) (hown : w.ownsRow base 55 3 v nE xs) (hbK : base ≤ K) (hbM : base ≤ M) (hbw : base ≤ w.heap.size) (hvK : v.ownBlock ≠ some K) (hvM : v.ownBlock ≠ some M) (hvl : ∀ g, v.ownBlock = some g → g < w.heap.size)
   (es' : Value → Array MapEntry) (c' : Nat) (UP : Hid (∀ (w' : World) (v' : Value), w'.heap[M]? = some (.map es c) → (Instr.mapUpdate 49 (.map (some M)) (.int .u64 7) v').run Try.prog w' = .ok () (putMap w' M (.map (es' v') c'))))
   (LK : Hid (∀ w' : World, w'.heap[M]? = some (.map es c) → (Instr.lookup 49 (.map (some M)) (.int .u64 7) false).run Try.prog w' = .ok v w'))
   (AT : Hid (∀ w' : World, (∀ k, k ≠ K → w'.heap[k]? = w.heap[k]?) → w'.heap.size = w.heap.size → Calls Try.prog 18 #[v, key] w' fun e w'' => e = .returned (.int .i64 (-1)) ∧ Below w'.heap.size w' w'')) :
   Calls Try.prog 10 #[.pointer (some ⟨K, 0, none⟩), key, .int .i64 x] w fun e w' => e = .returned (.int .i64 0) ∧ Below base w w' ∧ (∀ k, k < w.heap.size → k ≠ K → k ≠ M → v.ownBlock ≠ some k → w'.heap[k]? = w.heap[k]?) ∧ ∃ g cap k', KeepAt w' K M (n + 1) (now + 1) f m (es' (.slice (some ⟨g, 0, none⟩) (nE + 1) cap)) c' ∧ w'.ownsRow base 55 3 (.slice (some ⟨g, 0, none⟩) (nE + 1) cap) (nE + 1) (xs ++ [k', .int .i64 x, .int .i64 (now + 1)]) ∧ g ≠ K ∧ g ≠ M ∧ g < w'.heap.size ∧ Rd w' k' l ∧ k'.ownBlock ≠ some g ∧ k'.ownBlock ≠ some K ∧ k'.ownBlock ≠ some M := by
  obtain ⟨hkc, hmc, hne⟩ := hk
  obtain ⟨kb, kc, rfl⟩ := hkey
  have c0 : w.cell? ⟨K, 0, none⟩ = some (.int .i64 9) := by rw [cell_of_row w K 0 _ 51 _ hkc]; rfl
  have c1 : w.cell? ⟨K, 1, none⟩ = some (.func (.func 9) #[] #[]) := by rw [cell_of_row w K 1 _ 51 _ hkc]; rfl
  have c2 : w.cell? ⟨K, 2, none⟩ = some (.map (some M)) := by rw [cell_of_row w K 2 _ 51 _ hkc]; rfl
  have c3 : w.cell? ⟨K, 3, none⟩ = some (.int .i64 n) := by rw [cell_of_row w K 3 _ 51 _ hkc]; rfl
  have c4 : w.cell? ⟨K, 4, none⟩ = some (.int .i64 now) := by rw [cell_of_row w K 4 _ 51 _ hkc]; rfl
  have fr : w.frozen? ⟨K, 4, none⟩ = false := frozen_of_row w K 4 _ 51 hkc
  have hL := LK.out (w.setCell ⟨K, 4, none⟩ (.int .i64 (now + 1))) (by rw [Below.heap_setCell _ _ _ _ (by simpa using hne.symm)]; exact hmc)
  have HA := Lib.hid (AT.out (w.setCell ⟨K, 4, none⟩ (.int .i64 (now + 1))) (fun k hk => Below.heap_setCell _ _ _ _ (by simpa using hk)) (by simp))
  go_enter Try.func10, Try.ntmps10
  go_upto_region 9 with (first
    | (go_at_call 9; ((with_reducible refine (flat_any _ _).mono ?_); rintro e w' ⟨rfl, rfl⟩))
    | (go_at_call 18; ((with_reducible refine (HA.out).mono ?_); rintro e w2 ⟨rfl, hb2⟩)))
  have hkc1 : (w.setCell ⟨K, 4, none⟩ (.int .i64 (now + 1))).heap[K]? = some (.cells #[.int .i64 9, .func (.func 9) #[] #[], .map (some M), .int .i64 n, .int .i64 (now + 1), .int .i64 f, .int .i64 m] 51 (0, 0)) := heap_setCell_same w K 4 _ 51 _ hkc
  have hKl : K < w.heap.size := (Array.getElem?_eq_some_iff.1 hkc).1
  have hMl : M < w.heap.size := (Array.getElem?_eq_some_iff.1 hmc).1
  have hkc2 : w2.heap[K]? = some (.cells #[.int .i64 9, .func (.func 9) #[] #[], .map (some M), .int .i64 n, .int .i64 (now + 1), .int .i64 f, .int .i64 m] 51 (0, 0)) := by rw [hb2.block K (by simpa using hKl)]; exact hkc1
  have hmc2 : w2.heap[M]? = some (.map es c) := by rw [hb2.block M (by simpa using hMl), Below.heap_setCell _ _ _ _ (by simpa using hne.symm)]; exact hmc
  have hsz2 : w.heap.size ≤ w2.heap.size := by have := hb2.size; simpa using this
  have hb2' := hb2
  clear c0 c1 c2 c3 c4 fr hL HA hb2 hkc hmc hkc1
  have c0 : w2.cell? ⟨K, 0, none⟩ = some (.int .i64 9) := by rw [cell_of_row w2 K 0 _ 51 _ hkc2]; rfl
  have c2 : w2.cell? ⟨K, 2, none⟩ = some (.map (some M)) := by rw [cell_of_row w2 K 2 _ 51 _ hkc2]; rfl
  have c3 : w2.cell? ⟨K, 3, none⟩ = some (.int .i64 n) := by rw [cell_of_row w2 K 3 _ 51 _ hkc2]; rfl
  have c4 : w2.cell? ⟨K, 4, none⟩ = some (.int .i64 (now + 1)) := by rw [cell_of_row w2 K 4 _ 51 _ hkc2]; rfl
  have t9 : ¬ (9 : Int) ≤ n := by omega
  have t10 : decide ((9 : Int) ≤ n) = false := decide_eq_false t9
  have hfr2 : ∀ k, k < w.heap.size → k ≠ K → w2.heap[k]? = w.heap[k]? := fun k hk hkK => by rw [hb2'.block k (by simpa using hk)]; exact Below.heap_setCell _ _ _ _ (by simpa using hkK)
  have hown2 := ownsRow_mono (w' := w2) hown (fun g hg => hfr2 g (hvl g hg) (by intro e; exact hvK (by rw [hg, e])))
  have hkr2 := hkr.at (w' := w2) (fun g hg => hfr2 g (hkr.lt g hg) (by intro e; exact hkK (by rw [hg, e]))) hsz2
  go_quiet (fail)
  go_upto_region 11 with (fail)
  generalize hw3 : World.drewN w2 _ = w3
  obtain ⟨w5, hw5⟩ : ∃ w5, w5 = w3.drew := ⟨_, rfl⟩
  have hH : w3.drew.heap = w2.heap := by show w3.heap = w2.heap; rw [← hw3]; rfl
  have hB3 : Below base w w3.drew := by
    have h1 : Below base w w2 := ((Below.refl base w).setCell (p := ⟨K, 4, none⟩) hbK _).trans (hb2'.mono (by simpa using hbw))
    have h2 : Below base w w3 := by rw [← hw3]; exact ⟨h1.os, h1.tape, h1.output, h1.size, h1.block⟩
    exact h2.drew
  have hvb := ownsRow_ge hown
  have hkc3 : KCells w3.drew K M n (now + 1) f m := by unfold KCells; rw [hH]; exact hkc2
  have hkc0 : KCells w3 K M n (now + 1) f m := hkc3
  have hmc3 : w3.drew.heap[M]? = some (.map es c) := by rw [hH]; exact hmc2
  have hs3 : w3.drew.heap.size = w2.heap.size := by rw [hH]
  have hown3 := ownsRow_mono (w' := w3.drew) hown2 (fun g _ => by rw [hH])
  have hkr3 := hkr2.at (w' := w3.drew) (fun g _ => by rw [hH]) (by omega)
  have hLK3 := LK.out w3.drew hmc3
  have d2 := hkc0.c2
  have d4 := hkc0.c4
  have HD := Lib.hid hkc3
  have HM3 := Lib.hid hmc3
  have HK3 := Lib.hid hkr3
  have HO3 := Lib.hid hown3
  have HH := Lib.hid hH
  have HS3 := Lib.hid hs3
  obtain ⟨i0, hi0, hz0, hz1, hz2⟩ := info_parts Try.info55
  have HZ : Hid (i0.zero = some (.agg #[.slice none 0 0, .int .i64 0, .int .i64 0]) ∧ i0.size = 3 ∧ i0.bytes = 40) := Lib.hid ⟨hz0, hz1, hz2⟩
  have HI := Lib.hid hi0
  clear c0 c2 c3 c4 hkc2 hmc2 hkc3 hkc0 hmc3 hw3 hown2 hkr2 hown hkr hown3 hkr3 t9 t10 hH hs3 hi0 hz0 hz1 hz2 w5 hw5
  go_region_held3 (fun w' => w'.cell? ⟨K, 2, none⟩ = some (.map (some M)) ∧ w'.cell? ⟨K, 4, none⟩ = some (.int .i64 (now + 1))) (first | exact ⟨d2, d4⟩ | exact ⟨e2, e4⟩ | exact ⟨a2 _, a4 _⟩ | exact ⟨p2, p4⟩ | exact ⟨u2 _, u4 _⟩)
    (first
      | (refine step_append_lies (w4.alloc (.cells #[.slice (some ⟨b4, o4, none⟩) l.length q4, .int .i64 x, .int .i64 (now + 1)] 55)) rfl _ _ 53 rfl base 55 i0 (.agg #[.slice none 0 0, .int .i64 0, .int .i64 0]) 3 40 Try.underlying53 HI.out HZ.out.1 HZ.out.2.1 HZ.out.2.2 rfl (by decide) v nE xs rfl (hown4.alloc _) ⟨w4.heap.size, 0, none⟩ 1 1 [.slice (some ⟨b4, o4, none⟩) l.length q4, .int .i64 x, .int .i64 (now + 1)] rfl rfl (news3 w4 _ _ _ 55) (one3 _ _ _ _ _) (by decide) (by unfold maxLen; omega) (by omega) (by have := HS3.out; simp; omega) _ rfl ?_; intro g5 cap5 w5 hown5 hgrow5 hat5 hlt5; have hkc5 : KCells w5 K M n (now + 1) f m := (grown_at hgrow5 (k := K) (by have := HS3.out; simp; omega) hvK).trans ((Below.heap_alloc w4 _ K (by have := HS3.out; omega)).trans hkc4); have hmc5 : w5.heap[M]? = some (.map es c) := (grown_at hgrow5 (k := M) (by have := HS3.out; simp; omega) hvM).trans ((Below.heap_alloc w4 _ M (by have := HS3.out; omega)).trans hmc4); have hUP5 := UP.out w5 (.slice (some ⟨g5, 0, none⟩) (nE + 1) cap5) hmc5; have p2 := hkc5.c2; have p4 := hkc5.c4; have u2 : ∀ o, (putMap w5 M o).cell? ⟨K, 2, none⟩ = some (.map (some M)) := fun o => (putMap_kc hkc5 hne o).c2; have u4 : ∀ o, (putMap w5 M o).cell? ⟨K, 4, none⟩ = some (.int .i64 (now + 1)) := fun o => (putMap_kc hkc5 hne o).c4)
      | (go_at_call 20; refine (clone_any _ l w3.drew HK3.out hll).mono ?_; rintro e w4 ⟨⟨k4, rfl, hk4, g4, hg4, hg4'⟩, hb4⟩; have HK4 := Lib.hid hk4; obtain ⟨b4, o4, q4, rfl, -, -, -, -⟩ := hk4; have hz4 := hb4.size; have hkc4 : KCells w4 K M n (now + 1) f m := (hb4.block K (by have := HS3.out; omega)).trans HD.out; have hmc4 : w4.heap[M]? = some (.map es c) := (hb4.block M (by have := HS3.out; omega)).trans HM3.out; have hLK4 := LK.out w4 hmc4; have hLK4a : ∀ o, (Instr.lookup 49 (.map (some M)) (.int .u64 7) false).run Try.prog (w4.alloc o) = .ok v (w4.alloc o) := fun o => LK.out _ ((Below.heap_alloc w4 o M (by have := HS3.out; omega)).trans hmc4); have e2 := hkc4.c2; have e4 := hkc4.c4; have a2 : ∀ o, (w4.alloc o).cell? ⟨K, 2, none⟩ = some (.map (some M)) := fun o => KCells.c2 ((Below.heap_alloc w4 o K (by have := HS3.out; omega)).trans hkc4); have a4 : ∀ o, (w4.alloc o).cell? ⟨K, 4, none⟩ = some (.int .i64 (now + 1)) := fun o => KCells.c4 ((Below.heap_alloc w4 o K (by have := HS3.out; omega)).trans hkc4); have hown4 := ownsRow_mono (w' := w4) HO3.out (fun g hg => hb4.block g (by have := HS3.out; have := hvl g hg; omega)))
      | fail)
  all_goals
    have hkP := putMap_kc hkc5 hne (.map (es' (.slice (some ⟨g5, 0, none⟩) (nE + 1) cap5)) c')
    have hend := put_end (c' := c') (es2 := es' (.slice (some ⟨g5, 0, none⟩) (nE + 1) cap5)) (w6 := putMap w5 M (.map (es' (.slice (some ⟨g5, 0, none⟩) (nE + 1) cap5)) c')) (es := es) _ hB3 HH.out hfr2 hsz2 hKl hMl hne hbK hbM hbw hvK hvM hvl hvb hb4 HK4.out hg4 hg4' hgrow5 hat5 hlt5 hkc5 ⟨_, hmc5⟩ hown5 rfl
    have HEnd := Lib.hid hend
    have f3 := hkP.c3
    have ff := hkP.fr 3
    clear hend hkP
    generalize hw6 : putMap w5 M (.map (es' (.slice (some ⟨g5, 0, none⟩) (nE + 1) cap5)) c') = w6 at *
    go_wp2
    go_ret
    obtain ⟨r1, r2, r3, r4, r5, r6, r7, r8, r9, r10, r11⟩ := HEnd.out
    exact ⟨rfl, r1, r2, g5, cap5, _, r3, r4, r5, r6, r7, r8, r9, r10, r11⟩
end Go.Proofs.Ytebldhppnacdjab
