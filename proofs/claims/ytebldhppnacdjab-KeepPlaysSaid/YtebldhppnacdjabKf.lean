/- Walks: Put of a keep, of a key that is not there: with room, or behind drive. -/
import Derived.Test.YtebldhppnacdjabKj
import Derived.MapKept
import Derived.Deep.RegionHeld3
import Derived.Deep.DeepCutAuto
import Derived.Deep.CutBlock
import Derived.BigQuiet
import Derived.Deep.QuietTactic
import Derived.Deep.AppendLies
import Derived.Deep.RegionLaw
import Derived.Deep.RegionWith
set_option linter.unusedVariables false
namespace Go.Proofs.Ytebldhppnacdjab
open Go.RowKit
/-- what stands in a keep's own block. -/
def KC (w : World) (K M : Nat) (mo : Int) (N : Nat) (n now f m : Int) : Prop := w.heap[K]? = some (.cells #[.int .i64 mo, .func (.func N) #[] #[], .map (some M), .int .i64 n, .int .i64 now, .int .i64 f, .int .i64 m] 51 (0, 0))
/-- a keep, whatever it holds. -/
def KeepG (w : World) (K M : Nat) (mo : Int) (N : Nat) (n now f m : Int) (es : Array MapEntry) (c : Nat) : Prop := KC w K M mo N n now f m ∧ w.heap[M]? = some (.map es c) ∧ K ≠ M
theorem KC.c0 {w : World} {K M : Nat} {mo : Int} {N : Nat} {n now f m : Int} (h : KC w K M mo N n now f m) : w.cell? ⟨K, 0, none⟩ = some (.int .i64 mo) := by rw [cell_of_row w K 0 _ 51 _ h]; rfl
theorem KC.c1 {w : World} {K M : Nat} {mo : Int} {N : Nat} {n now f m : Int} (h : KC w K M mo N n now f m) : w.cell? ⟨K, 1, none⟩ = some (.func (.func N) #[] #[]) := by rw [cell_of_row w K 1 _ 51 _ h]; rfl
theorem KC.c2 {w : World} {K M : Nat} {mo : Int} {N : Nat} {n now f m : Int} (h : KC w K M mo N n now f m) : w.cell? ⟨K, 2, none⟩ = some (.map (some M)) := by rw [cell_of_row w K 2 _ 51 _ h]; rfl
theorem KC.c3 {w : World} {K M : Nat} {mo : Int} {N : Nat} {n now f m : Int} (h : KC w K M mo N n now f m) : w.cell? ⟨K, 3, none⟩ = some (.int .i64 n) := by rw [cell_of_row w K 3 _ 51 _ h]; rfl
theorem KC.c4 {w : World} {K M : Nat} {mo : Int} {N : Nat} {n now f m : Int} (h : KC w K M mo N n now f m) : w.cell? ⟨K, 4, none⟩ = some (.int .i64 now) := by rw [cell_of_row w K 4 _ 51 _ h]; rfl
theorem KC.c5 {w : World} {K M : Nat} {mo : Int} {N : Nat} {n now f m : Int} (h : KC w K M mo N n now f m) : w.cell? ⟨K, 5, none⟩ = some (.int .i64 f) := by rw [cell_of_row w K 5 _ 51 _ h]; rfl
theorem KC.c6 {w : World} {K M : Nat} {mo : Int} {N : Nat} {n now f m : Int} (h : KC w K M mo N n now f m) : w.cell? ⟨K, 6, none⟩ = some (.int .i64 m) := by rw [cell_of_row w K 6 _ 51 _ h]; rfl
theorem KC.s3 {w : World} {K M : Nat} {mo : Int} {N : Nat} {n now f m : Int} (h : KC w K M mo N n now f m) (y : Int) : KC (w.setCell ⟨K, 3, none⟩ (.int .i64 y)) K M mo N y now f m := heap_setCell_same w K 3 _ 51 _ h
theorem KC.s4 {w : World} {K M : Nat} {mo : Int} {N : Nat} {n now f m : Int} (h : KC w K M mo N n now f m) (y : Int) : KC (w.setCell ⟨K, 4, none⟩ (.int .i64 y)) K M mo N n y f m := heap_setCell_same w K 4 _ 51 _ h
theorem KC.s5 {w : World} {K M : Nat} {mo : Int} {N : Nat} {n now f m : Int} (h : KC w K M mo N n now f m) (y : Int) : KC (w.setCell ⟨K, 5, none⟩ (.int .i64 y)) K M mo N n now y m := heap_setCell_same w K 5 _ 51 _ h
theorem KC.s6 {w : World} {K M : Nat} {mo : Int} {N : Nat} {n now f m : Int} (h : KC w K M mo N n now f m) (y : Int) : KC (w.setCell ⟨K, 6, none⟩ (.int .i64 y)) K M mo N n now f y := heap_setCell_same w K 6 _ 51 _ h
theorem KC.fr {w : World} {K M : Nat} {mo : Int} {N : Nat} {n now f m : Int} (h : KC w K M mo N n now f m) (j : Nat) : w.frozen? ⟨K, j, none⟩ = false := frozen_of_row w K j _ 51 h
theorem KC.lt {w : World} {K M : Nat} {mo : Int} {N : Nat} {n now f m : Int} (h : KC w K M mo N n now f m) : K < w.heap.size := (Array.getElem?_eq_some_iff.1 h).1
theorem putMap_kc2 {w : World} {K M : Nat} {mo : Int} {N : Nat} {n now f m : Int} (h : KC w K M mo N n now f m) (hne : K ≠ M) (o : Obj) : KC (putMap w M o) K M mo N n now f m := (putMap_off hne).trans h
/-- the block that a key's bytes lie in, if it has any. -/
def kblk (v : Value) (l : List Int) : Option Nat := if l = [] then none else v.ownBlock
theorem kblk_own {v : Value} {l : List Int} {g : Nat} (h : kblk v l = some g) : v.ownBlock = some g := by
  unfold kblk at h
  split at h
  · cases h
  · exact h
theorem Row.atk {w w' : World} {v : Value} {l : List Int} (h : Row w v l) (hb : ∀ g, kblk v l = some g → w'.heap[g]? = w.heap[g]?) (hs : w.heap.size ≤ w'.heap.size) : Row w' v l := by
  rcases h with h | h
  · refine Or.inl ?_
    by_cases hl : l = []
    · obtain ⟨b, off, cap, h1, h2, h3, h4, h5⟩ := h
      exact ⟨b, off, cap, h1, h2, h3, by omega, fun j hj => by rw [hl] at hj; simp at hj⟩
    · exact h.at (fun g hg => hb g (by unfold kblk; rw [if_neg hl]; exact hg)) hs
  · exact Or.inr h
theorem Row.at {w w' : World} {v : Value} {l : List Int} (h : Row w v l) (hb : ∀ g, v.ownBlock = some g → w'.heap[g]? = w.heap[g]?) (hs : w.heap.size ≤ w'.heap.size) : Row w' v l := h.atk (fun g hg => hb g (kblk_own hg)) hs
theorem Row.ltk {w : World} {v : Value} {l : List Int} (h : Row w v l) : ∀ g, kblk v l = some g → g < w.heap.size := by
  rcases h with h | ⟨rfl, rfl⟩ | ⟨a, c, rfl, rfl⟩
  · exact fun g hg => h.lt g (kblk_own hg)
  · intro g hg; simp [kblk] at hg
  · intro g hg; simp [kblk] at hg
theorem append_none (w : World) (base : Nat) (t : TypeId) (ht : Try.prog.underlying t = some (.slice 5)) (ty : TypeId) (v : Value) (xs : List Int) (hown : Ow w base v xs) (hb : base ≤ w.heap.size) (a : Addr) (c : Nat) (hlen : xs.length ≤ 100000) :
    ∃ v' w', (Builtin.append_ #[t, t] ty #[v, .slice (some a) 0 c]).run Try.prog w = .ok v' w' ∧ Ow w' base v' xs ∧ Below base w w' ∧ base ≤ w'.heap.size := by
  obtain ⟨i0, hi, hz0, hz1, hz2⟩ := info_parts Try.info5
  obtain ⟨v', w', r1, r2, r3, r4⟩ := run_append_own (P := Try.prog) w base t ty 5 i0 (.int .u8 0) 1 1 ht hi hz0 hz1 hz2 rfl (by decide) v xs.length _ hown.1 a 0 c [] (by simp) (fun j u hj => by simp at hj) (by intro u hu; simp at hu) (by unfold maxLen; omega) (by omega) hb
  refine ⟨v', w', r1, ⟨by simpa using r2, fun h => hown.2 (r4.1 h).1⟩, ?_, ?_⟩
  · refine (Below.refl base w).grown r3 hb ?_
    intro k hk
    rcases hown.1.2 with ⟨h', _⟩ | ⟨g, cap, cur, rfl, hbg, _⟩
    · exact absurd h' hown.2
    · simp [Value.ownBlock] at hk; omega
  · have := r3.size; omega
theorem wpList_append_N {w : World} {ops : Array Oper} {rest : List Oper} {o : Oper} {a : Act} {Q : Exit → Act → World → Prop} (hgd : o.guard = none) (sl x : Operand) (t : TypeId)
    (ho : o.op = .call { callee := .builtin .append, args := #[sl, x], argTypes := #[t, t] }) (base : Nat) (ht : Try.prog.underlying t = some (.slice 5))
    (v : Value) (xs : List Int) (hs : a.eval sl = v) (hown : Ow w base v xs) (ad : Addr) (c : Nat) (hx : a.eval x = .slice (some ad) 0 c) (hb : base ≤ w.heap.size) (hlen : xs.length ≤ 100000)
    (h : ∀ v' w', Ow w' base v' xs → Below base w w' → base ≤ w'.heap.size → wpList Try.prog ops Q rest (a.put o.dst v') w') : wpList Try.prog ops Q (o :: rest) a w := by
  refine wpList_plain hgd fun K hK => ?_
  obtain ⟨v', w', hr, h2, h3, h4⟩ := append_none w base t ht o.type v xs hown hb ad c hlen
  unfold Oper.wp execOp
  simp only [ho, resolve, invoke, builtin, Sem.run_bind, Sem.run_pure, Result.andThen_ok, List.map_toArray, List.map_cons, List.map_nil, hs, hx, hr]
  exact hK _ _ (h v' w' h2 h3 h4)
theorem clone_empty (a : Addr) (c : Nat) (w : World) : Calls Try.prog 20 #[.slice (some a) 0 c] w fun e w' => (∃ v', e = .returned v' ∧ Rd w' v' [] ∧ ∃ g, v'.ownBlock = some g ∧ w.heap.size ≤ g) ∧ Below w.heap.size w w' := by
  have HO := Lib.hid (Ow_new w w.heap.size (Nat.le_refl _) [] #[] rfl (by simp))
  go_enter Try.func20, Try.ntmps20
  go_wp2_with (at_builtin; refine wpList_append_N rfl _ _ 29 rfl w.heap.size Try.underlying29 _ [] rfl HO.out a c rfl (by simp) (by simp) ?_; intro v' w' hown' hbel' hsz')
  have hbel : Below w.heap.size w w' := ((Below.refl _ _).alloc (Nat.le_refl _) _).trans hbel'
  have hrd := hown'.rd (by simp)
  have hblk := hown'.block
  go_wp2
  go_ret
  exact ⟨⟨_, rfl, hrd, hblk⟩, hbel⟩
theorem clone_row (v : Value) (l : List Int) (w : World) (h : Row w v l) (hl : l.length ≤ 1000) : Calls Try.prog 20 #[v] w fun e w' => (∃ a n c, e = .returned (.slice a n c) ∧ Row w' (.slice a n c) l ∧ ∀ g, (Value.slice a n c).ownBlock = some g → w.heap.size ≤ g ∧ g < w'.heap.size) ∧ Below w.heap.size w w' := by
  have hfin : ∀ (l : List Int) (e : Ending) (w' : World), ((∃ v', e = .returned v' ∧ Rd w' v' l ∧ ∃ g, v'.ownBlock = some g ∧ w.heap.size ≤ g) ∧ Below w.heap.size w w') → (∃ a n c, e = .returned (.slice a n c) ∧ Row w' (.slice a n c) l ∧ ∀ g, (Value.slice a n c).ownBlock = some g → w.heap.size ≤ g ∧ g < w'.heap.size) ∧ Below w.heap.size w w' := by
    rintro l e w' ⟨⟨v', rfl, hr, g, hg, hge⟩, hb⟩
    have hlt := hr.lt
    have hr2 := hr
    obtain ⟨b, off, cap, rfl, -⟩ := hr2
    refine ⟨⟨_, _, _, rfl, Or.inl hr, fun g' hg' => ?_⟩, hb⟩
    have := hlt g' hg'
    rw [hg] at hg'
    cases hg'
    exact ⟨hge, this⟩
  rcases h with h | ⟨rfl, rfl⟩ | ⟨a, c, rfl, rfl⟩
  · exact (clone_any v l w h hl).mono (hfin l)
  · refine (clone_nil w).mono ?_
    rintro e w' ⟨rfl, rfl⟩
    exact ⟨⟨none, 0, 0, rfl, Or.inr (Or.inl ⟨rfl, rfl⟩), fun g hg => by cases hg⟩, Below.refl _ _⟩
  · exact (clone_empty a c w).mono (hfin [])
theorem one3o (b : Option Addr) (n c : Nat) (x y : Int) : ∀ u ∈ [Value.slice b n c, .int .i64 x, .int .i64 y], u.oneCell' = true := by
  intro u hu
  simp only [List.mem_cons, List.not_mem_nil, or_false] at hu
  rcases hu with rfl | rfl | rfl <;> rfl
theorem drewN_heap (w : World) (k : Nat) : (World.drewN w k).heap = w.heap := rfl
theorem drewN_below (B : Nat) (w : World) (k : Nat) : Below B w (World.drewN w k) := ⟨rfl, rfl, rfl, Nat.le_refl _, fun _ _ => rfl⟩
/-- all that the end of Put asks of the world. -/
def Ready (base K M : Nat) (mo : Int) (N : Nat) (n now f m hh : Int) (key : Value) (l : List Int) (w : World) (es : Array MapEntry) (c : Nat) (v : Value) (nE : Nat) (xs : List Value) (es' : Value → Array MapEntry) (c' : Nat) : Prop :=
  KeepG w K M mo N n now f m es c ∧ base ≤ M ∧ base ≤ w.heap.size ∧ Row w key l ∧ nE ≤ 99999 ∧ w.ownsRow base 55 3 v nE xs ∧ v.ownBlock ≠ some K ∧ v.ownBlock ≠ some M ∧ (∀ g, v.ownBlock = some g → g < w.heap.size) ∧ (0 ≤ n ∧ n < 100000) ∧
  (∀ (w' : World) (v' : Value), w'.heap[M]? = some (.map es c) → (Instr.mapUpdate 49 (.map (some M)) (.int .u64 hh) v').run Try.prog w' = .ok () (putMap w' M (.map (es' v') c'))) ∧
  (∀ w' : World, w'.heap[M]? = some (.map es c) → (Instr.lookup 49 (.map (some M)) (.int .u64 hh) false).run Try.prog w' = .ok v w')
/-- how it ends. -/
def PutEnd (base K M : Nat) (mo : Int) (N : Nat) (n now f m x : Int) (l : List Int) (w : World) (v : Value) (nE : Nat) (xs : List Value) (es' : Value → Array MapEntry) (c' : Nat) (w' : World) : Prop :=
  Below base w w' ∧ (∀ k, k < w.heap.size → k ≠ K → k ≠ M → v.ownBlock ≠ some k → w'.heap[k]? = w.heap[k]?) ∧ ∃ (g cap : Nat) (k' : Value),
    KeepG w' K M mo N (n + 1) now f m (es' (.slice (some ⟨g, 0, none⟩) (nE + 1) cap)) c' ∧ w'.ownsRow base 55 3 (.slice (some ⟨g, 0, none⟩) (nE + 1) cap) (nE + 1) (xs ++ [k', .int .i64 x, .int .i64 now]) ∧
    (v.ownBlock = some g ∨ w.heap.size ≤ g) ∧ g ≠ K ∧ g ≠ M ∧ g < w'.heap.size ∧ Row w' k' l ∧ ∀ g4, k'.ownBlock = some g4 → w.heap.size ≤ g4 ∧ g4 < w'.heap.size ∧ g4 ≠ g
theorem put_end2 {w2 w3 w4 w5 w6 : World} {K M : Nat} {mo : Int} {N : Nat} {n now f m : Int} {es2 : Array MapEntry} {c' base nE g5 cap5 : Nat} {k4 : Value} {v : Value} {xs : List Value} {l : List Int} {x : Int} {es' : Value → Array MapEntry} (o : Obj)
    (hB3 : Below base w2 w3) (hH : w3.heap = w2.heap) (hKl : K < w2.heap.size) (hMl : M < w2.heap.size) (hne : K ≠ M)
    (hbK : base ≤ K) (hbM : base ≤ M) (hbw : base ≤ w2.heap.size) (hvK : v.ownBlock ≠ some K) (hvM : v.ownBlock ≠ some M) (hvl : ∀ g, v.ownBlock = some g → g < w2.heap.size) (hvb : ∀ g, v.ownBlock = some g → base ≤ g)
    (hb4 : Below w3.heap.size w3 w4) (hk4 : Row w4 k4 l) (hg4' : ∀ g, k4.ownBlock = some g → w3.heap.size ≤ g ∧ g < w4.heap.size)
    (hgrow5 : (w4.alloc o).grownBy w5 v.ownBlock) (hat5 : v.ownBlock = some g5 ∨ g5 = (w4.alloc o).heap.size) (hlt5 : g5 < w5.heap.size) (hkc5 : KC w5 K M mo N n now f m) (hmc5 : ∃ o', w5.heap[M]? = some o')
    (hown5 : w5.ownsRow base 55 3 (.slice (some ⟨g5, 0, none⟩) (nE + 1) cap5) (nE + 1) (xs ++ [k4, .int .i64 x, .int .i64 now])) (hes2 : es2 = es' (.slice (some ⟨g5, 0, none⟩) (nE + 1) cap5)) (hw6 : w6 = putMap w5 M (.map es2 c')) :
    PutEnd base K M mo N n now f m x l w2 v nE xs es' c' (w6.setCell ⟨K, 3, none⟩ (.int .i64 (n + 1))) := by
  have hs3 : w3.heap.size = w2.heap.size := by rw [hH]
  have hz4 := hb4.size
  have hz5 := hgrow5.size
  have hza : (w4.alloc o).heap.size = w4.heap.size + 1 := by simp
  have hgv : ∀ g g', v.ownBlock = some g → k4.ownBlock = some g' → g ≠ g' := fun g g' hg hg' => by have := hvl g hg; have := hg4' g' hg'; omega
  have hg5K : g5 ≠ K := by rcases hat5 with h | h; (intro e; exact hvK (by rw [h, e])); omega
  have hg5M : g5 ≠ M := by rcases hat5 with h | h; (intro e; exact hvM (by rw [h, e])); omega
  have hg54 : ∀ g', k4.ownBlock = some g' → g' ≠ g5 := fun g' hg' => by
    rcases hat5 with h | h
    · exact fun e => hgv g5 g' h hg' e.symm
    · have := hg4' g' hg'; omega
  subst hes2 hw6
  have hoff : ∀ k, k ≠ K → k ≠ M → ((putMap w5 M (.map (es' (.slice (some ⟨g5, 0, none⟩) (nE + 1) cap5)) c')).setCell ⟨K, 3, none⟩ (.int .i64 (n + 1))).heap[k]? = w5.heap[k]? := fun k h1 h2 => by
    rw [Below.heap_setCell _ _ _ _ (by simpa using h1), putMap_off h2]
  have hold : ∀ k, k < w3.heap.size → v.ownBlock ≠ some k → w5.heap[k]? = w3.heap[k]? := fun k h1 h2 => by
    rw [grown_at hgrow5 (by omega) h2, Below.heap_alloc _ _ _ (by omega), hb4.block k h1]
  have hkP := putMap_kc2 hkc5 hne (.map (es' (.slice (some ⟨g5, 0, none⟩) (nE + 1) cap5)) c')
  obtain ⟨o', ho'⟩ := hmc5
  refine ⟨?_, ?_, g5, cap5, k4, ⟨?_, ?_, hne⟩, ?_, ?_, hg5K, hg5M, by simp [putMap_size]; omega, ?_, fun g4 h4 => ⟨by have := hg4' g4 h4; omega, by have := hg4' g4 h4; simp [putMap_size]; omega, hg54 g4 h4⟩⟩
  · refine Below.setCell (p := ⟨K, 3, none⟩) (putMap_below ?_ hbM _) hbK _
    exact ((hB3.trans (hb4.mono (by omega))).alloc (by omega) o).grown hgrow5 (by omega) hvb
  · intro k h1 h2 h3 h4
    rw [hoff k h2 h3, hold k (by omega) h4, hH]
  · exact heap_setCell_same _ K 3 _ 51 _ hkP
  · rw [Below.heap_setCell _ _ _ _ (by simpa using hne.symm)]
    exact putMap_at ho'
  · exact ownsRow_mono hown5 (fun g hg => by cases hg; exact hoff g5 hg5K hg5M)
  · rcases hat5 with h | h
    · exact Or.inl h
    · exact Or.inr (by omega)
  · refine hk4.at (fun g hg => ?_) (by simp [putMap_size]; omega)
    have h4 := hg4' g hg
    rw [hoff g (by omega) (by omega), grown_at hgrow5 (by omega) (fun e => hgv g g e hg rfl), Below.heap_alloc _ _ _ h4.2]
set_option maxRecDepth 20000 in
set_option maxHeartbeats 4000000 in
theorem put_miss9 (w : World) (K M : Nat) (mo : Int) (hh : Int) (n now f m : Int) (es0 : Array MapEntry) (c0 : Nat) (v0 key : Value) (l : List Int) (x : Int) (hn : 0 ≤ n ∧ n < 100000) (hnow : 0 ≤ now ∧ now < 100000)
   (hk : KeepG w K M mo 9 n now f m es0 c0) (hkK : kblk key l ≠ some K) (HASH : Hid (∀ w' : World, Row w' key l → Calls Try.prog 9 #[key] w' fun e w'' => e = .returned (.int .u64 hh) ∧ w' = w'')) (hkr : Row w key l) (hll : l.length ≤ 1000) (base : Nat) (hbK : base ≤ K) (hbw : base ≤ w.heap.size)
   (LK0 : Hid (∀ w' : World, w'.heap[M]? = some (.map es0 c0) → (Instr.lookup 49 (.map (some M)) (.int .u64 hh) false).run Try.prog w' = .ok v0 w'))
   (AT : Hid (∀ w' : World, (∀ k, k ≠ K → w'.heap[k]? = w.heap[k]?) → w'.heap.size = w.heap.size → Calls Try.prog 18 #[v0, key] w' fun e w'' => e = .returned (.int .i64 (-1)) ∧ Below w'.heap.size w' w''))
   (R : World → Array MapEntry → Nat → Value → Nat → List Value → (Value → Array MapEntry) → Nat → Int → Prop)
   (HR : Hid (∀ w3 es c v nE xs es' c' n', R w3 es c v nE xs es' c' n' → Ready base K M mo 9 n' (now + 1) f m hh key l w3 es c v nE xs es' c'))
   (ROOM : Hid (n < mo → ∀ w2 : World, KC w2 K M mo 9 n (now + 1) f m → Below base w w2 → (∀ k, k < w.heap.size → k ≠ K → w2.heap[k]? = w.heap[k]?) → ∃ es c v nE xs es' c' n', R w2 es c v nE xs es' c' n'))
   (FULL : Hid (mo ≤ n → ∀ w2 : World, KC w2 K M mo 9 n (now + 1) f m → Below base w w2 → (∀ k, k < w.heap.size → k ≠ K → w2.heap[k]? = w.heap[k]?) → Calls Try.prog 19 #[.pointer (some ⟨K, 0, none⟩)] w2 fun e w3 => e = .returned (.tuple #[]) ∧ ∃ es c v nE xs es' c' n', R w3 es c v nE xs es' c' n')) :
   Calls Try.prog 10 #[.pointer (some ⟨K, 0, none⟩), key, .int .i64 x] w fun e w' => e = .returned (.int .i64 0) ∧ ∃ w3 es c v nE xs es' c' n', R w3 es c v nE xs es' c' n' ∧ PutEnd base K M mo 9 n' (now + 1) f m x l w3 v nE xs es' c' w' := by
  obtain ⟨hkc, hmc, hne⟩ := hk
  have hKl : K < w.heap.size := hkc.lt
  have hMl : M < w.heap.size := (Array.getElem?_eq_some_iff.1 hmc).1
  have HR1 : Hid (Row (w.setCell ⟨K, 4, none⟩ (.int .i64 (now + 1))) key l) := Lib.hid (hkr.atk (fun g hg => Below.heap_setCell _ _ _ _ (by intro e; exact hkK (by rw [hg, show g = K from e]))) (by simp))
  clear hkr
  obtain ⟨ka, kn, kcp, rfl⟩ := HR1.out.slice
  have q1 := hkc.c1
  have q2 := hkc.c2
  have q4 := hkc.c4
  have fr := hkc.fr 4
  have hL := LK0.out (w.setCell ⟨K, 4, none⟩ (.int .i64 (now + 1))) (by rw [Below.heap_setCell _ _ _ _ (by simpa using hne.symm)]; exact hmc)
  have HA := Lib.hid (AT.out (w.setCell ⟨K, 4, none⟩ (.int .i64 (now + 1))) (fun k hk => Below.heap_setCell _ _ _ _ (by simpa using hk)) (by simp))
  go_enter Try.func10, Try.ntmps10
  go_upto_region 9 with (first
    | (go_at_call 9; ((with_reducible refine (HASH.out _ HR1.out).mono ?_); rintro e w' ⟨rfl, rfl⟩))
    | (go_at_call 18; ((with_reducible refine (HA.out).mono ?_); rintro e w2 ⟨rfl, hb2⟩)))
  have hkc2 : KC w2 K M mo 9 n (now + 1) f m := (hb2.block K (by simpa using hKl)).trans (hkc.s4 (now + 1))
  have hfr2 : ∀ k, k < w.heap.size → k ≠ K → w2.heap[k]? = w.heap[k]? := fun k hk hkK => by rw [hb2.block k (by simpa using hk)]; exact Below.heap_setCell _ _ _ _ (by simpa using hkK)
  have hB2 : Below base w w2 := ((Below.refl base w).setCell (p := ⟨K, 4, none⟩) hbK _).trans (hb2.mono (by simpa using hbw))
  have HRO := Lib.hid (fun h : n < mo => ROOM.out h w2 hkc2 hB2 hfr2)
  have HFU := Lib.hid (fun (h : mo ≤ n) (w2' : World) (he : w2'.heap = w2.heap) (hb : Below base w2 w2') => FULL.out h w2' (by unfold KC; rw [he]; exact hkc2) (hB2.trans hb) (fun k h1 h2 => by rw [he]; exact hfr2 k h1 h2))
  have q0 := hkc2.c0
  have q3 := hkc2.c3
  clear q1 q2 q4 fr hL HA hb2 hkc hmc hKl hMl hkc2 hfr2 hB2 HR1 LK0 AT HASH ROOM FULL
  rcases Int.lt_or_le n mo with hlt | hle
  · have t9 : ¬ mo ≤ n := by omega
    have t10 : decide (mo ≤ n) = false := decide_eq_false t9
    obtain ⟨es, c, v, nE, xs, es', c', n', hR⟩ := HRO.out hlt
    have HRR := Lib.hid hR
    obtain ⟨⟨hkc2, hmc2, -⟩, hbM, hbw2, hkr2, hnE, hown2, hvK, hvM, hvl, hn', hUP, hLK⟩ := HR.out _ _ _ _ _ _ _ _ _ hR
    clear hR
    go_quiet (fail)
    go_upto_region 11 with (fail)
    generalize hw3 : World.drewN w2 _ = w3
    have hH : w3.drew.heap = w2.heap := by show w3.heap = w2.heap; rw [← hw3]; rfl
    have hB3 : Below base w2 w3.drew := by
      have h1 : Below base w2 w2 := Below.refl _ _
      have h2 : Below base w2 w3 := by rw [← hw3]; exact ⟨h1.os, h1.tape, h1.output, h1.size, h1.block⟩
      exact h2.drew
    clear hw3 t9 t10
    have hvb := ownsRow_ge hown2
    have hKl : K < w2.heap.size := hkc2.lt
    have hMl : M < w2.heap.size := (Array.getElem?_eq_some_iff.1 hmc2).1
    have hkc3 : KC w3.drew K M mo 9 n' (now + 1) f m := by unfold KC; rw [hH]; exact hkc2
    have hkc0 : KC w3 K M mo 9 n' (now + 1) f m := hkc3
    have hmc3 : w3.drew.heap[M]? = some (.map es c) := by rw [hH]; exact hmc2
    have hs3 : w3.drew.heap.size = w2.heap.size := by rw [hH]
    have hown3 := ownsRow_mono (w' := w3.drew) hown2 (fun g _ => by rw [hH])
    have hkr3 := hkr2.at (w' := w3.drew) (fun g _ => by rw [hH]) (by omega)
    have hLK3 := hLK w3.drew hmc3
    have UP := Lib.hid hUP
    have LK := Lib.hid hLK
    have d2 := hkc0.c2
    have d4 := hkc0.c4
    have HD := Lib.hid hkc3
    have HM3 := Lib.hid hmc3
    have HK3 := Lib.hid hkr3
    have HO3 := Lib.hid hown3
    have HH := Lib.hid hH
    have HS3 := Lib.hid hs3
    obtain ⟨i0, hi0, hz0, hz1, hz2⟩ := info_parts Try.info55
    have HZ : Hid (i0.zero = some (.agg #[.slice none 0 0, .int .i64 0, .int .i64 0]) ∧ i0.size = 3 ∧ i0.bytes = 40) := Lib.hid ⟨hz0, hz1, hz2⟩
    have HI := Lib.hid hi0
    clear q0 q3 hkc2 hmc2 hkc3 hkc0 hmc3 hown2 hkr2 hown3 hkr3 hH hs3 hi0 hz0 hz1 hz2 hUP hLK
    go_region_held3 (fun w' => w'.cell? ⟨K, 2, none⟩ = some (.map (some M)) ∧ w'.cell? ⟨K, 4, none⟩ = some (.int .i64 (now + 1))) (first | exact ⟨d2, d4⟩ | exact ⟨e2, e4⟩ | exact ⟨a2 _, a4' _⟩ | exact ⟨p2, p4⟩ | exact ⟨u2 _, u4 _⟩)
      (first
        | (refine step_append_lies (w4.alloc (.cells #[.slice a4 n4 q4, .int .i64 x, .int .i64 (now + 1)] 55)) rfl _ _ 53 rfl base 55 i0 (.agg #[.slice none 0 0, .int .i64 0, .int .i64 0]) 3 40 Try.underlying53 HI.out HZ.out.1 HZ.out.2.1 HZ.out.2.2 rfl (by decide) v nE xs rfl (hown4.alloc _) ⟨w4.heap.size, 0, none⟩ 1 1 [.slice a4 n4 q4, .int .i64 x, .int .i64 (now + 1)] rfl rfl (news3 w4 _ _ _ 55) (one3o _ _ _ _ _) (by decide) (by unfold maxLen; omega) (by omega) (by have := HS3.out; simp; omega) _ rfl ?_; intro g5 cap5 w5 hown5 hgrow5 hat5 hlt5; have hkc5 : KC w5 K M mo 9 n' (now + 1) f m := (grown_at hgrow5 (k := K) (by have := HS3.out; simp; omega) hvK).trans ((Below.heap_alloc w4 _ K (by have := HS3.out; omega)).trans hkc4); have hmc5 : w5.heap[M]? = some (.map es c) := (grown_at hgrow5 (k := M) (by have := HS3.out; simp; omega) hvM).trans ((Below.heap_alloc w4 _ M (by have := HS3.out; omega)).trans hmc4); have hUP5 := UP.out w5 (.slice (some ⟨g5, 0, none⟩) (nE + 1) cap5) hmc5; have p2 := hkc5.c2; have p4 := hkc5.c4; have u2 : ∀ o, (putMap w5 M o).cell? ⟨K, 2, none⟩ = some (.map (some M)) := fun o => (putMap_kc2 hkc5 hne o).c2; have u4 : ∀ o, (putMap w5 M o).cell? ⟨K, 4, none⟩ = some (.int .i64 (now + 1)) := fun o => (putMap_kc2 hkc5 hne o).c4)
        | (go_at_call 20; refine (clone_row _ l w3.drew HK3.out hll).mono ?_; rintro e w4 ⟨⟨a4, n4, q4, rfl, hk4, hg4'⟩, hb4⟩; have HK4 := Lib.hid hk4; have HG4 := Lib.hid hg4'; clear hk4 hg4'; have hz4 := hb4.size; have hkc4 : KC w4 K M mo 9 n' (now + 1) f m := (hb4.block K (by have := HS3.out; omega)).trans HD.out; have hmc4 : w4.heap[M]? = some (.map es c) := (hb4.block M (by have := HS3.out; omega)).trans HM3.out; have hLK4 := LK.out w4 hmc4; have hLK4a : ∀ o, (Instr.lookup 49 (.map (some M)) (.int .u64 hh) false).run Try.prog (w4.alloc o) = .ok v (w4.alloc o) := fun o => LK.out _ ((Below.heap_alloc w4 o M (by have := HS3.out; omega)).trans hmc4); have e2 := hkc4.c2; have e4 := hkc4.c4; have a2 : ∀ o, (w4.alloc o).cell? ⟨K, 2, none⟩ = some (.map (some M)) := fun o => KC.c2 ((Below.heap_alloc w4 o K (by have := HS3.out; omega)).trans hkc4); have a4' : ∀ o, (w4.alloc o).cell? ⟨K, 4, none⟩ = some (.int .i64 (now + 1)) := fun o => KC.c4 ((Below.heap_alloc w4 o K (by have := HS3.out; omega)).trans hkc4); have hown4 := ownsRow_mono (w' := w4) HO3.out (fun g hg => hb4.block g (by have := HS3.out; have := hvl g hg; omega)))
        | fail)
    all_goals
      have hkP := putMap_kc2 hkc5 hne (.map (es' (.slice (some ⟨g5, 0, none⟩) (nE + 1) cap5)) c')
      have hend := put_end2 (es' := es') (c' := c') (es2 := es' (.slice (some ⟨g5, 0, none⟩) (nE + 1) cap5)) (w6 := putMap w5 M (.map (es' (.slice (some ⟨g5, 0, none⟩) (nE + 1) cap5)) c')) _ hB3 HH.out hKl hMl hne hbK hbM hbw2 hvK hvM hvl hvb hb4 HK4.out HG4.out hgrow5 hat5 hlt5 hkc5 ⟨_, hmc5⟩ hown5 rfl rfl
      have HEnd := Lib.hid hend
      have f3 := hkP.c3
      have ff := hkP.fr 3
      clear hend hkP
      generalize hw6 : putMap w5 M (.map (es' (.slice (some ⟨g5, 0, none⟩) (nE + 1) cap5)) c') = w6 at *
      go_wp2
      go_ret
      exact ⟨rfl, w2, es, c, v, nE, xs, es', c', n', HRR.out, HEnd.out⟩
  · have t10 : decide (mo ≤ n) = true := decide_eq_true hle
    go_quiet (fail)
    go_upto_region 11 with (go_loud (go_at_call 19; ((with_reducible refine (HFU.out hle _ (drewN_heap _ _) (drewN_below _ _ _)).mono ?_); rintro e w3 ⟨rfl, es, c, v, nE, xs, es', c', n', hR⟩)))
    have HRR := Lib.hid hR
    obtain ⟨⟨hkc2, hmc2, -⟩, hbM, hbw2, hkr2, hnE, hown2, hvK, hvM, hvl, hn', hUP, hLK⟩ := HR.out _ _ _ _ _ _ _ _ _ hR
    have hH : w3.drew.heap = w3.heap := rfl
    have hB3 : Below base w3 w3.drew := (Below.refl _ _).drew
    clear hR t10
    have hvb := ownsRow_ge hown2
    have hKl : K < w3.heap.size := hkc2.lt
    have hMl : M < w3.heap.size := (Array.getElem?_eq_some_iff.1 hmc2).1
    have hkc3 : KC w3.drew K M mo 9 n' (now + 1) f m := by unfold KC; rw [hH]; exact hkc2
    have hkc0 : KC w3 K M mo 9 n' (now + 1) f m := hkc3
    have hmc3 : w3.drew.heap[M]? = some (.map es c) := by rw [hH]; exact hmc2
    have hs3 : w3.drew.heap.size = w3.heap.size := by rw [hH]
    have hown3 := ownsRow_mono (w' := w3.drew) hown2 (fun g _ => by rw [hH])
    have hkr3 := hkr2.at (w' := w3.drew) (fun g _ => by rw [hH]) (by omega)
    have hLK3 := hLK w3.drew hmc3
    have UP := Lib.hid hUP
    have LK := Lib.hid hLK
    have d2 := hkc0.c2
    have d4 := hkc0.c4
    have HD := Lib.hid hkc3
    have HM3 := Lib.hid hmc3
    have HK3 := Lib.hid hkr3
    have HO3 := Lib.hid hown3
    have HH := Lib.hid hH
    have HS3 := Lib.hid hs3
    obtain ⟨i0, hi0, hz0, hz1, hz2⟩ := info_parts Try.info55
    have HZ : Hid (i0.zero = some (.agg #[.slice none 0 0, .int .i64 0, .int .i64 0]) ∧ i0.size = 3 ∧ i0.bytes = 40) := Lib.hid ⟨hz0, hz1, hz2⟩
    have HI := Lib.hid hi0
    clear q0 q3 hkc2 hmc2 hkc3 hkc0 hmc3 hown2 hkr2 hown3 hkr3 hH hs3 hi0 hz0 hz1 hz2 hUP hLK
    go_region_held3 (fun w' => w'.cell? ⟨K, 2, none⟩ = some (.map (some M)) ∧ w'.cell? ⟨K, 4, none⟩ = some (.int .i64 (now + 1))) (first | exact ⟨d2, d4⟩ | exact ⟨e2, e4⟩ | exact ⟨a2 _, a4' _⟩ | exact ⟨p2, p4⟩ | exact ⟨u2 _, u4 _⟩)
      (first
        | (refine step_append_lies (w4.alloc (.cells #[.slice a4 n4 q4, .int .i64 x, .int .i64 (now + 1)] 55)) rfl _ _ 53 rfl base 55 i0 (.agg #[.slice none 0 0, .int .i64 0, .int .i64 0]) 3 40 Try.underlying53 HI.out HZ.out.1 HZ.out.2.1 HZ.out.2.2 rfl (by decide) v nE xs rfl (hown4.alloc _) ⟨w4.heap.size, 0, none⟩ 1 1 [.slice a4 n4 q4, .int .i64 x, .int .i64 (now + 1)] rfl rfl (news3 w4 _ _ _ 55) (one3o _ _ _ _ _) (by decide) (by unfold maxLen; omega) (by omega) (by have := HS3.out; simp; omega) _ rfl ?_; intro g5 cap5 w5 hown5 hgrow5 hat5 hlt5; have hkc5 : KC w5 K M mo 9 n' (now + 1) f m := (grown_at hgrow5 (k := K) (by have := HS3.out; simp; omega) hvK).trans ((Below.heap_alloc w4 _ K (by have := HS3.out; omega)).trans hkc4); have hmc5 : w5.heap[M]? = some (.map es c) := (grown_at hgrow5 (k := M) (by have := HS3.out; simp; omega) hvM).trans ((Below.heap_alloc w4 _ M (by have := HS3.out; omega)).trans hmc4); have hUP5 := UP.out w5 (.slice (some ⟨g5, 0, none⟩) (nE + 1) cap5) hmc5; have p2 := hkc5.c2; have p4 := hkc5.c4; have u2 : ∀ o, (putMap w5 M o).cell? ⟨K, 2, none⟩ = some (.map (some M)) := fun o => (putMap_kc2 hkc5 hne o).c2; have u4 : ∀ o, (putMap w5 M o).cell? ⟨K, 4, none⟩ = some (.int .i64 (now + 1)) := fun o => (putMap_kc2 hkc5 hne o).c4)
        | (go_at_call 20; refine (clone_row _ l w3.drew HK3.out hll).mono ?_; rintro e w4 ⟨⟨a4, n4, q4, rfl, hk4, hg4'⟩, hb4⟩; have HK4 := Lib.hid hk4; have HG4 := Lib.hid hg4'; clear hk4 hg4'; have hz4 := hb4.size; have hkc4 : KC w4 K M mo 9 n' (now + 1) f m := (hb4.block K (by have := HS3.out; omega)).trans HD.out; have hmc4 : w4.heap[M]? = some (.map es c) := (hb4.block M (by have := HS3.out; omega)).trans HM3.out; have hLK4 := LK.out w4 hmc4; have hLK4a : ∀ o, (Instr.lookup 49 (.map (some M)) (.int .u64 hh) false).run Try.prog (w4.alloc o) = .ok v (w4.alloc o) := fun o => LK.out _ ((Below.heap_alloc w4 o M (by have := HS3.out; omega)).trans hmc4); have e2 := hkc4.c2; have e4 := hkc4.c4; have a2 : ∀ o, (w4.alloc o).cell? ⟨K, 2, none⟩ = some (.map (some M)) := fun o => KC.c2 ((Below.heap_alloc w4 o K (by have := HS3.out; omega)).trans hkc4); have a4' : ∀ o, (w4.alloc o).cell? ⟨K, 4, none⟩ = some (.int .i64 (now + 1)) := fun o => KC.c4 ((Below.heap_alloc w4 o K (by have := HS3.out; omega)).trans hkc4); have hown4 := ownsRow_mono (w' := w4) HO3.out (fun g hg => hb4.block g (by have := HS3.out; have := hvl g hg; omega)))
        | fail)
    all_goals
      have hkP := putMap_kc2 hkc5 hne (.map (es' (.slice (some ⟨g5, 0, none⟩) (nE + 1) cap5)) c')
      have hend := put_end2 (es' := es') (c' := c') (es2 := es' (.slice (some ⟨g5, 0, none⟩) (nE + 1) cap5)) (w6 := putMap w5 M (.map (es' (.slice (some ⟨g5, 0, none⟩) (nE + 1) cap5)) c')) _ hB3 HH.out hKl hMl hne hbK hbM hbw2 hvK hvM hvl hvb hb4 HK4.out HG4.out hgrow5 hat5 hlt5 hkc5 ⟨_, hmc5⟩ hown5 rfl rfl
      have HEnd := Lib.hid hend
      have f3 := hkP.c3
      have ff := hkP.fr 3
      clear hend hkP
      generalize hw6 : putMap w5 M (.map (es' (.slice (some ⟨g5, 0, none⟩) (nE + 1) cap5)) c') = w6 at *
      go_wp2
      go_ret
      exact ⟨rfl, w3, es, c, v, nE, xs, es', c', n', HRR.out, HEnd.out⟩
set_option maxRecDepth 20000 in
set_option maxHeartbeats 4000000 in
theorem put_miss13 (w : World) (K M : Nat) (mo : Int) (hh : Int) (n now f m : Int) (es0 : Array MapEntry) (c0 : Nat) (v0 key : Value) (l : List Int) (x : Int) (hn : 0 ≤ n ∧ n < 100000) (hnow : 0 ≤ now ∧ now < 100000)
   (hk : KeepG w K M mo 13 n now f m es0 c0) (hkK : kblk key l ≠ some K) (HASH : Hid (∀ w' : World, Row w' key l → Calls Try.prog 13 #[key] w' fun e w'' => e = .returned (.int .u64 hh) ∧ w' = w'')) (hkr : Row w key l) (hll : l.length ≤ 1000) (base : Nat) (hbK : base ≤ K) (hbw : base ≤ w.heap.size)
   (LK0 : Hid (∀ w' : World, w'.heap[M]? = some (.map es0 c0) → (Instr.lookup 49 (.map (some M)) (.int .u64 hh) false).run Try.prog w' = .ok v0 w'))
   (AT : Hid (∀ w' : World, (∀ k, k ≠ K → w'.heap[k]? = w.heap[k]?) → w'.heap.size = w.heap.size → Calls Try.prog 18 #[v0, key] w' fun e w'' => e = .returned (.int .i64 (-1)) ∧ Below w'.heap.size w' w''))
   (R : World → Array MapEntry → Nat → Value → Nat → List Value → (Value → Array MapEntry) → Nat → Int → Prop)
   (HR : Hid (∀ w3 es c v nE xs es' c' n', R w3 es c v nE xs es' c' n' → Ready base K M mo 13 n' (now + 1) f m hh key l w3 es c v nE xs es' c'))
   (ROOM : Hid (n < mo → ∀ w2 : World, KC w2 K M mo 13 n (now + 1) f m → Below base w w2 → (∀ k, k < w.heap.size → k ≠ K → w2.heap[k]? = w.heap[k]?) → ∃ es c v nE xs es' c' n', R w2 es c v nE xs es' c' n'))
   (FULL : Hid (mo ≤ n → ∀ w2 : World, KC w2 K M mo 13 n (now + 1) f m → Below base w w2 → (∀ k, k < w.heap.size → k ≠ K → w2.heap[k]? = w.heap[k]?) → Calls Try.prog 19 #[.pointer (some ⟨K, 0, none⟩)] w2 fun e w3 => e = .returned (.tuple #[]) ∧ ∃ es c v nE xs es' c' n', R w3 es c v nE xs es' c' n')) :
   Calls Try.prog 10 #[.pointer (some ⟨K, 0, none⟩), key, .int .i64 x] w fun e w' => e = .returned (.int .i64 0) ∧ ∃ w3 es c v nE xs es' c' n', R w3 es c v nE xs es' c' n' ∧ PutEnd base K M mo 13 n' (now + 1) f m x l w3 v nE xs es' c' w' := by
  obtain ⟨hkc, hmc, hne⟩ := hk
  have hKl : K < w.heap.size := hkc.lt
  have hMl : M < w.heap.size := (Array.getElem?_eq_some_iff.1 hmc).1
  have HR1 : Hid (Row (w.setCell ⟨K, 4, none⟩ (.int .i64 (now + 1))) key l) := Lib.hid (hkr.atk (fun g hg => Below.heap_setCell _ _ _ _ (by intro e; exact hkK (by rw [hg, show g = K from e]))) (by simp))
  clear hkr
  obtain ⟨ka, kn, kcp, rfl⟩ := HR1.out.slice
  have q1 := hkc.c1
  have q2 := hkc.c2
  have q4 := hkc.c4
  have fr := hkc.fr 4
  have hL := LK0.out (w.setCell ⟨K, 4, none⟩ (.int .i64 (now + 1))) (by rw [Below.heap_setCell _ _ _ _ (by simpa using hne.symm)]; exact hmc)
  have HA := Lib.hid (AT.out (w.setCell ⟨K, 4, none⟩ (.int .i64 (now + 1))) (fun k hk => Below.heap_setCell _ _ _ _ (by simpa using hk)) (by simp))
  go_enter Try.func10, Try.ntmps10
  go_upto_region 9 with (first
    | (go_at_call 13; ((with_reducible refine (HASH.out _ HR1.out).mono ?_); rintro e w' ⟨rfl, rfl⟩))
    | (go_at_call 18; ((with_reducible refine (HA.out).mono ?_); rintro e w2 ⟨rfl, hb2⟩)))
  have hkc2 : KC w2 K M mo 13 n (now + 1) f m := (hb2.block K (by simpa using hKl)).trans (hkc.s4 (now + 1))
  have hfr2 : ∀ k, k < w.heap.size → k ≠ K → w2.heap[k]? = w.heap[k]? := fun k hk hkK => by rw [hb2.block k (by simpa using hk)]; exact Below.heap_setCell _ _ _ _ (by simpa using hkK)
  have hB2 : Below base w w2 := ((Below.refl base w).setCell (p := ⟨K, 4, none⟩) hbK _).trans (hb2.mono (by simpa using hbw))
  have HRO := Lib.hid (fun h : n < mo => ROOM.out h w2 hkc2 hB2 hfr2)
  have HFU := Lib.hid (fun (h : mo ≤ n) (w2' : World) (he : w2'.heap = w2.heap) (hb : Below base w2 w2') => FULL.out h w2' (by unfold KC; rw [he]; exact hkc2) (hB2.trans hb) (fun k h1 h2 => by rw [he]; exact hfr2 k h1 h2))
  have q0 := hkc2.c0
  have q3 := hkc2.c3
  clear q1 q2 q4 fr hL HA hb2 hkc hmc hKl hMl hkc2 hfr2 hB2 HR1 LK0 AT HASH ROOM FULL
  rcases Int.lt_or_le n mo with hlt | hle
  · have t9 : ¬ mo ≤ n := by omega
    have t10 : decide (mo ≤ n) = false := decide_eq_false t9
    obtain ⟨es, c, v, nE, xs, es', c', n', hR⟩ := HRO.out hlt
    have HRR := Lib.hid hR
    obtain ⟨⟨hkc2, hmc2, -⟩, hbM, hbw2, hkr2, hnE, hown2, hvK, hvM, hvl, hn', hUP, hLK⟩ := HR.out _ _ _ _ _ _ _ _ _ hR
    clear hR
    go_quiet (fail)
    go_upto_region 11 with (fail)
    generalize hw3 : World.drewN w2 _ = w3
    have hH : w3.drew.heap = w2.heap := by show w3.heap = w2.heap; rw [← hw3]; rfl
    have hB3 : Below base w2 w3.drew := by
      have h1 : Below base w2 w2 := Below.refl _ _
      have h2 : Below base w2 w3 := by rw [← hw3]; exact ⟨h1.os, h1.tape, h1.output, h1.size, h1.block⟩
      exact h2.drew
    clear hw3 t9 t10
    have hvb := ownsRow_ge hown2
    have hKl : K < w2.heap.size := hkc2.lt
    have hMl : M < w2.heap.size := (Array.getElem?_eq_some_iff.1 hmc2).1
    have hkc3 : KC w3.drew K M mo 13 n' (now + 1) f m := by unfold KC; rw [hH]; exact hkc2
    have hkc0 : KC w3 K M mo 13 n' (now + 1) f m := hkc3
    have hmc3 : w3.drew.heap[M]? = some (.map es c) := by rw [hH]; exact hmc2
    have hs3 : w3.drew.heap.size = w2.heap.size := by rw [hH]
    have hown3 := ownsRow_mono (w' := w3.drew) hown2 (fun g _ => by rw [hH])
    have hkr3 := hkr2.at (w' := w3.drew) (fun g _ => by rw [hH]) (by omega)
    have hLK3 := hLK w3.drew hmc3
    have UP := Lib.hid hUP
    have LK := Lib.hid hLK
    have d2 := hkc0.c2
    have d4 := hkc0.c4
    have HD := Lib.hid hkc3
    have HM3 := Lib.hid hmc3
    have HK3 := Lib.hid hkr3
    have HO3 := Lib.hid hown3
    have HH := Lib.hid hH
    have HS3 := Lib.hid hs3
    obtain ⟨i0, hi0, hz0, hz1, hz2⟩ := info_parts Try.info55
    have HZ : Hid (i0.zero = some (.agg #[.slice none 0 0, .int .i64 0, .int .i64 0]) ∧ i0.size = 3 ∧ i0.bytes = 40) := Lib.hid ⟨hz0, hz1, hz2⟩
    have HI := Lib.hid hi0
    clear q0 q3 hkc2 hmc2 hkc3 hkc0 hmc3 hown2 hkr2 hown3 hkr3 hH hs3 hi0 hz0 hz1 hz2 hUP hLK
    go_region_held3 (fun w' => w'.cell? ⟨K, 2, none⟩ = some (.map (some M)) ∧ w'.cell? ⟨K, 4, none⟩ = some (.int .i64 (now + 1))) (first | exact ⟨d2, d4⟩ | exact ⟨e2, e4⟩ | exact ⟨a2 _, a4' _⟩ | exact ⟨p2, p4⟩ | exact ⟨u2 _, u4 _⟩)
      (first
        | (refine step_append_lies (w4.alloc (.cells #[.slice a4 n4 q4, .int .i64 x, .int .i64 (now + 1)] 55)) rfl _ _ 53 rfl base 55 i0 (.agg #[.slice none 0 0, .int .i64 0, .int .i64 0]) 3 40 Try.underlying53 HI.out HZ.out.1 HZ.out.2.1 HZ.out.2.2 rfl (by decide) v nE xs rfl (hown4.alloc _) ⟨w4.heap.size, 0, none⟩ 1 1 [.slice a4 n4 q4, .int .i64 x, .int .i64 (now + 1)] rfl rfl (news3 w4 _ _ _ 55) (one3o _ _ _ _ _) (by decide) (by unfold maxLen; omega) (by omega) (by have := HS3.out; simp; omega) _ rfl ?_; intro g5 cap5 w5 hown5 hgrow5 hat5 hlt5; have hkc5 : KC w5 K M mo 13 n' (now + 1) f m := (grown_at hgrow5 (k := K) (by have := HS3.out; simp; omega) hvK).trans ((Below.heap_alloc w4 _ K (by have := HS3.out; omega)).trans hkc4); have hmc5 : w5.heap[M]? = some (.map es c) := (grown_at hgrow5 (k := M) (by have := HS3.out; simp; omega) hvM).trans ((Below.heap_alloc w4 _ M (by have := HS3.out; omega)).trans hmc4); have hUP5 := UP.out w5 (.slice (some ⟨g5, 0, none⟩) (nE + 1) cap5) hmc5; have p2 := hkc5.c2; have p4 := hkc5.c4; have u2 : ∀ o, (putMap w5 M o).cell? ⟨K, 2, none⟩ = some (.map (some M)) := fun o => (putMap_kc2 hkc5 hne o).c2; have u4 : ∀ o, (putMap w5 M o).cell? ⟨K, 4, none⟩ = some (.int .i64 (now + 1)) := fun o => (putMap_kc2 hkc5 hne o).c4)
        | (go_at_call 20; refine (clone_row _ l w3.drew HK3.out hll).mono ?_; rintro e w4 ⟨⟨a4, n4, q4, rfl, hk4, hg4'⟩, hb4⟩; have HK4 := Lib.hid hk4; have HG4 := Lib.hid hg4'; clear hk4 hg4'; have hz4 := hb4.size; have hkc4 : KC w4 K M mo 13 n' (now + 1) f m := (hb4.block K (by have := HS3.out; omega)).trans HD.out; have hmc4 : w4.heap[M]? = some (.map es c) := (hb4.block M (by have := HS3.out; omega)).trans HM3.out; have hLK4 := LK.out w4 hmc4; have hLK4a : ∀ o, (Instr.lookup 49 (.map (some M)) (.int .u64 hh) false).run Try.prog (w4.alloc o) = .ok v (w4.alloc o) := fun o => LK.out _ ((Below.heap_alloc w4 o M (by have := HS3.out; omega)).trans hmc4); have e2 := hkc4.c2; have e4 := hkc4.c4; have a2 : ∀ o, (w4.alloc o).cell? ⟨K, 2, none⟩ = some (.map (some M)) := fun o => KC.c2 ((Below.heap_alloc w4 o K (by have := HS3.out; omega)).trans hkc4); have a4' : ∀ o, (w4.alloc o).cell? ⟨K, 4, none⟩ = some (.int .i64 (now + 1)) := fun o => KC.c4 ((Below.heap_alloc w4 o K (by have := HS3.out; omega)).trans hkc4); have hown4 := ownsRow_mono (w' := w4) HO3.out (fun g hg => hb4.block g (by have := HS3.out; have := hvl g hg; omega)))
        | fail)
    all_goals
      have hkP := putMap_kc2 hkc5 hne (.map (es' (.slice (some ⟨g5, 0, none⟩) (nE + 1) cap5)) c')
      have hend := put_end2 (es' := es') (c' := c') (es2 := es' (.slice (some ⟨g5, 0, none⟩) (nE + 1) cap5)) (w6 := putMap w5 M (.map (es' (.slice (some ⟨g5, 0, none⟩) (nE + 1) cap5)) c')) _ hB3 HH.out hKl hMl hne hbK hbM hbw2 hvK hvM hvl hvb hb4 HK4.out HG4.out hgrow5 hat5 hlt5 hkc5 ⟨_, hmc5⟩ hown5 rfl rfl
      have HEnd := Lib.hid hend
      have f3 := hkP.c3
      have ff := hkP.fr 3
      clear hend hkP
      generalize hw6 : putMap w5 M (.map (es' (.slice (some ⟨g5, 0, none⟩) (nE + 1) cap5)) c') = w6 at *
      go_wp2
      go_ret
      exact ⟨rfl, w2, es, c, v, nE, xs, es', c', n', HRR.out, HEnd.out⟩
  · have t10 : decide (mo ≤ n) = true := decide_eq_true hle
    go_quiet (fail)
    go_upto_region 11 with (go_loud (go_at_call 19; ((with_reducible refine (HFU.out hle _ (drewN_heap _ _) (drewN_below _ _ _)).mono ?_); rintro e w3 ⟨rfl, es, c, v, nE, xs, es', c', n', hR⟩)))
    have HRR := Lib.hid hR
    obtain ⟨⟨hkc2, hmc2, -⟩, hbM, hbw2, hkr2, hnE, hown2, hvK, hvM, hvl, hn', hUP, hLK⟩ := HR.out _ _ _ _ _ _ _ _ _ hR
    have hH : w3.drew.heap = w3.heap := rfl
    have hB3 : Below base w3 w3.drew := (Below.refl _ _).drew
    clear hR t10
    have hvb := ownsRow_ge hown2
    have hKl : K < w3.heap.size := hkc2.lt
    have hMl : M < w3.heap.size := (Array.getElem?_eq_some_iff.1 hmc2).1
    have hkc3 : KC w3.drew K M mo 13 n' (now + 1) f m := by unfold KC; rw [hH]; exact hkc2
    have hkc0 : KC w3 K M mo 13 n' (now + 1) f m := hkc3
    have hmc3 : w3.drew.heap[M]? = some (.map es c) := by rw [hH]; exact hmc2
    have hs3 : w3.drew.heap.size = w3.heap.size := by rw [hH]
    have hown3 := ownsRow_mono (w' := w3.drew) hown2 (fun g _ => by rw [hH])
    have hkr3 := hkr2.at (w' := w3.drew) (fun g _ => by rw [hH]) (by omega)
    have hLK3 := hLK w3.drew hmc3
    have UP := Lib.hid hUP
    have LK := Lib.hid hLK
    have d2 := hkc0.c2
    have d4 := hkc0.c4
    have HD := Lib.hid hkc3
    have HM3 := Lib.hid hmc3
    have HK3 := Lib.hid hkr3
    have HO3 := Lib.hid hown3
    have HH := Lib.hid hH
    have HS3 := Lib.hid hs3
    obtain ⟨i0, hi0, hz0, hz1, hz2⟩ := info_parts Try.info55
    have HZ : Hid (i0.zero = some (.agg #[.slice none 0 0, .int .i64 0, .int .i64 0]) ∧ i0.size = 3 ∧ i0.bytes = 40) := Lib.hid ⟨hz0, hz1, hz2⟩
    have HI := Lib.hid hi0
    clear q0 q3 hkc2 hmc2 hkc3 hkc0 hmc3 hown2 hkr2 hown3 hkr3 hH hs3 hi0 hz0 hz1 hz2 hUP hLK
    go_region_held3 (fun w' => w'.cell? ⟨K, 2, none⟩ = some (.map (some M)) ∧ w'.cell? ⟨K, 4, none⟩ = some (.int .i64 (now + 1))) (first | exact ⟨d2, d4⟩ | exact ⟨e2, e4⟩ | exact ⟨a2 _, a4' _⟩ | exact ⟨p2, p4⟩ | exact ⟨u2 _, u4 _⟩)
      (first
        | (refine step_append_lies (w4.alloc (.cells #[.slice a4 n4 q4, .int .i64 x, .int .i64 (now + 1)] 55)) rfl _ _ 53 rfl base 55 i0 (.agg #[.slice none 0 0, .int .i64 0, .int .i64 0]) 3 40 Try.underlying53 HI.out HZ.out.1 HZ.out.2.1 HZ.out.2.2 rfl (by decide) v nE xs rfl (hown4.alloc _) ⟨w4.heap.size, 0, none⟩ 1 1 [.slice a4 n4 q4, .int .i64 x, .int .i64 (now + 1)] rfl rfl (news3 w4 _ _ _ 55) (one3o _ _ _ _ _) (by decide) (by unfold maxLen; omega) (by omega) (by have := HS3.out; simp; omega) _ rfl ?_; intro g5 cap5 w5 hown5 hgrow5 hat5 hlt5; have hkc5 : KC w5 K M mo 13 n' (now + 1) f m := (grown_at hgrow5 (k := K) (by have := HS3.out; simp; omega) hvK).trans ((Below.heap_alloc w4 _ K (by have := HS3.out; omega)).trans hkc4); have hmc5 : w5.heap[M]? = some (.map es c) := (grown_at hgrow5 (k := M) (by have := HS3.out; simp; omega) hvM).trans ((Below.heap_alloc w4 _ M (by have := HS3.out; omega)).trans hmc4); have hUP5 := UP.out w5 (.slice (some ⟨g5, 0, none⟩) (nE + 1) cap5) hmc5; have p2 := hkc5.c2; have p4 := hkc5.c4; have u2 : ∀ o, (putMap w5 M o).cell? ⟨K, 2, none⟩ = some (.map (some M)) := fun o => (putMap_kc2 hkc5 hne o).c2; have u4 : ∀ o, (putMap w5 M o).cell? ⟨K, 4, none⟩ = some (.int .i64 (now + 1)) := fun o => (putMap_kc2 hkc5 hne o).c4)
        | (go_at_call 20; refine (clone_row _ l w3.drew HK3.out hll).mono ?_; rintro e w4 ⟨⟨a4, n4, q4, rfl, hk4, hg4'⟩, hb4⟩; have HK4 := Lib.hid hk4; have HG4 := Lib.hid hg4'; clear hk4 hg4'; have hz4 := hb4.size; have hkc4 : KC w4 K M mo 13 n' (now + 1) f m := (hb4.block K (by have := HS3.out; omega)).trans HD.out; have hmc4 : w4.heap[M]? = some (.map es c) := (hb4.block M (by have := HS3.out; omega)).trans HM3.out; have hLK4 := LK.out w4 hmc4; have hLK4a : ∀ o, (Instr.lookup 49 (.map (some M)) (.int .u64 hh) false).run Try.prog (w4.alloc o) = .ok v (w4.alloc o) := fun o => LK.out _ ((Below.heap_alloc w4 o M (by have := HS3.out; omega)).trans hmc4); have e2 := hkc4.c2; have e4 := hkc4.c4; have a2 : ∀ o, (w4.alloc o).cell? ⟨K, 2, none⟩ = some (.map (some M)) := fun o => KC.c2 ((Below.heap_alloc w4 o K (by have := HS3.out; omega)).trans hkc4); have a4' : ∀ o, (w4.alloc o).cell? ⟨K, 4, none⟩ = some (.int .i64 (now + 1)) := fun o => KC.c4 ((Below.heap_alloc w4 o K (by have := HS3.out; omega)).trans hkc4); have hown4 := ownsRow_mono (w' := w4) HO3.out (fun g hg => hb4.block g (by have := HS3.out; have := hvl g hg; omega)))
        | fail)
    all_goals
      have hkP := putMap_kc2 hkc5 hne (.map (es' (.slice (some ⟨g5, 0, none⟩) (nE + 1) cap5)) c')
      have hend := put_end2 (es' := es') (c' := c') (es2 := es' (.slice (some ⟨g5, 0, none⟩) (nE + 1) cap5)) (w6 := putMap w5 M (.map (es' (.slice (some ⟨g5, 0, none⟩) (nE + 1) cap5)) c')) _ hB3 HH.out hKl hMl hne hbK hbM hbw2 hvK hvM hvl hvb hb4 HK4.out HG4.out hgrow5 hat5 hlt5 hkc5 ⟨_, hmc5⟩ hown5 rfl rfl
      have HEnd := Lib.hid hend
      have f3 := hkP.c3
      have ff := hkP.fr 3
      clear hend hkP
      generalize hw6 : putMap w5 M (.map (es' (.slice (some ⟨g5, 0, none⟩) (nE + 1) cap5)) c') = w6 at *
      go_wp2
      go_ret
      exact ⟨rfl, w3, es, c, v, nE, xs, es', c', n', HRR.out, HEnd.out⟩
set_option maxRecDepth 20000 in
set_option maxHeartbeats 4000000 in
theorem put_miss14 (w : World) (K M : Nat) (mo : Int) (hh : Int) (n now f m : Int) (es0 : Array MapEntry) (c0 : Nat) (v0 key : Value) (l : List Int) (x : Int) (hn : 0 ≤ n ∧ n < 100000) (hnow : 0 ≤ now ∧ now < 100000)
   (hk : KeepG w K M mo 14 n now f m es0 c0) (hkK : kblk key l ≠ some K) (HASH : Hid (∀ w' : World, Row w' key l → Calls Try.prog 14 #[key] w' fun e w'' => e = .returned (.int .u64 hh) ∧ w' = w'')) (hkr : Row w key l) (hll : l.length ≤ 1000) (base : Nat) (hbK : base ≤ K) (hbw : base ≤ w.heap.size)
   (LK0 : Hid (∀ w' : World, w'.heap[M]? = some (.map es0 c0) → (Instr.lookup 49 (.map (some M)) (.int .u64 hh) false).run Try.prog w' = .ok v0 w'))
   (AT : Hid (∀ w' : World, (∀ k, k ≠ K → w'.heap[k]? = w.heap[k]?) → w'.heap.size = w.heap.size → Calls Try.prog 18 #[v0, key] w' fun e w'' => e = .returned (.int .i64 (-1)) ∧ Below w'.heap.size w' w''))
   (R : World → Array MapEntry → Nat → Value → Nat → List Value → (Value → Array MapEntry) → Nat → Int → Prop)
   (HR : Hid (∀ w3 es c v nE xs es' c' n', R w3 es c v nE xs es' c' n' → Ready base K M mo 14 n' (now + 1) f m hh key l w3 es c v nE xs es' c'))
   (ROOM : Hid (n < mo → ∀ w2 : World, KC w2 K M mo 14 n (now + 1) f m → Below base w w2 → (∀ k, k < w.heap.size → k ≠ K → w2.heap[k]? = w.heap[k]?) → ∃ es c v nE xs es' c' n', R w2 es c v nE xs es' c' n'))
   (FULL : Hid (mo ≤ n → ∀ w2 : World, KC w2 K M mo 14 n (now + 1) f m → Below base w w2 → (∀ k, k < w.heap.size → k ≠ K → w2.heap[k]? = w.heap[k]?) → Calls Try.prog 19 #[.pointer (some ⟨K, 0, none⟩)] w2 fun e w3 => e = .returned (.tuple #[]) ∧ ∃ es c v nE xs es' c' n', R w3 es c v nE xs es' c' n')) :
   Calls Try.prog 10 #[.pointer (some ⟨K, 0, none⟩), key, .int .i64 x] w fun e w' => e = .returned (.int .i64 0) ∧ ∃ w3 es c v nE xs es' c' n', R w3 es c v nE xs es' c' n' ∧ PutEnd base K M mo 14 n' (now + 1) f m x l w3 v nE xs es' c' w' := by
  obtain ⟨hkc, hmc, hne⟩ := hk
  have hKl : K < w.heap.size := hkc.lt
  have hMl : M < w.heap.size := (Array.getElem?_eq_some_iff.1 hmc).1
  have HR1 : Hid (Row (w.setCell ⟨K, 4, none⟩ (.int .i64 (now + 1))) key l) := Lib.hid (hkr.atk (fun g hg => Below.heap_setCell _ _ _ _ (by intro e; exact hkK (by rw [hg, show g = K from e]))) (by simp))
  clear hkr
  obtain ⟨ka, kn, kcp, rfl⟩ := HR1.out.slice
  have q1 := hkc.c1
  have q2 := hkc.c2
  have q4 := hkc.c4
  have fr := hkc.fr 4
  have hL := LK0.out (w.setCell ⟨K, 4, none⟩ (.int .i64 (now + 1))) (by rw [Below.heap_setCell _ _ _ _ (by simpa using hne.symm)]; exact hmc)
  have HA := Lib.hid (AT.out (w.setCell ⟨K, 4, none⟩ (.int .i64 (now + 1))) (fun k hk => Below.heap_setCell _ _ _ _ (by simpa using hk)) (by simp))
  go_enter Try.func10, Try.ntmps10
  go_upto_region 9 with (first
    | (go_at_call 14; ((with_reducible refine (HASH.out _ HR1.out).mono ?_); rintro e w' ⟨rfl, rfl⟩))
    | (go_at_call 18; ((with_reducible refine (HA.out).mono ?_); rintro e w2 ⟨rfl, hb2⟩)))
  have hkc2 : KC w2 K M mo 14 n (now + 1) f m := (hb2.block K (by simpa using hKl)).trans (hkc.s4 (now + 1))
  have hfr2 : ∀ k, k < w.heap.size → k ≠ K → w2.heap[k]? = w.heap[k]? := fun k hk hkK => by rw [hb2.block k (by simpa using hk)]; exact Below.heap_setCell _ _ _ _ (by simpa using hkK)
  have hB2 : Below base w w2 := ((Below.refl base w).setCell (p := ⟨K, 4, none⟩) hbK _).trans (hb2.mono (by simpa using hbw))
  have HRO := Lib.hid (fun h : n < mo => ROOM.out h w2 hkc2 hB2 hfr2)
  have HFU := Lib.hid (fun (h : mo ≤ n) (w2' : World) (he : w2'.heap = w2.heap) (hb : Below base w2 w2') => FULL.out h w2' (by unfold KC; rw [he]; exact hkc2) (hB2.trans hb) (fun k h1 h2 => by rw [he]; exact hfr2 k h1 h2))
  have q0 := hkc2.c0
  have q3 := hkc2.c3
  clear q1 q2 q4 fr hL HA hb2 hkc hmc hKl hMl hkc2 hfr2 hB2 HR1 LK0 AT HASH ROOM FULL
  rcases Int.lt_or_le n mo with hlt | hle
  · have t9 : ¬ mo ≤ n := by omega
    have t10 : decide (mo ≤ n) = false := decide_eq_false t9
    obtain ⟨es, c, v, nE, xs, es', c', n', hR⟩ := HRO.out hlt
    have HRR := Lib.hid hR
    obtain ⟨⟨hkc2, hmc2, -⟩, hbM, hbw2, hkr2, hnE, hown2, hvK, hvM, hvl, hn', hUP, hLK⟩ := HR.out _ _ _ _ _ _ _ _ _ hR
    clear hR
    go_quiet (fail)
    go_upto_region 11 with (fail)
    generalize hw3 : World.drewN w2 _ = w3
    have hH : w3.drew.heap = w2.heap := by show w3.heap = w2.heap; rw [← hw3]; rfl
    have hB3 : Below base w2 w3.drew := by
      have h1 : Below base w2 w2 := Below.refl _ _
      have h2 : Below base w2 w3 := by rw [← hw3]; exact ⟨h1.os, h1.tape, h1.output, h1.size, h1.block⟩
      exact h2.drew
    clear hw3 t9 t10
    have hvb := ownsRow_ge hown2
    have hKl : K < w2.heap.size := hkc2.lt
    have hMl : M < w2.heap.size := (Array.getElem?_eq_some_iff.1 hmc2).1
    have hkc3 : KC w3.drew K M mo 14 n' (now + 1) f m := by unfold KC; rw [hH]; exact hkc2
    have hkc0 : KC w3 K M mo 14 n' (now + 1) f m := hkc3
    have hmc3 : w3.drew.heap[M]? = some (.map es c) := by rw [hH]; exact hmc2
    have hs3 : w3.drew.heap.size = w2.heap.size := by rw [hH]
    have hown3 := ownsRow_mono (w' := w3.drew) hown2 (fun g _ => by rw [hH])
    have hkr3 := hkr2.at (w' := w3.drew) (fun g _ => by rw [hH]) (by omega)
    have hLK3 := hLK w3.drew hmc3
    have UP := Lib.hid hUP
    have LK := Lib.hid hLK
    have d2 := hkc0.c2
    have d4 := hkc0.c4
    have HD := Lib.hid hkc3
    have HM3 := Lib.hid hmc3
    have HK3 := Lib.hid hkr3
    have HO3 := Lib.hid hown3
    have HH := Lib.hid hH
    have HS3 := Lib.hid hs3
    obtain ⟨i0, hi0, hz0, hz1, hz2⟩ := info_parts Try.info55
    have HZ : Hid (i0.zero = some (.agg #[.slice none 0 0, .int .i64 0, .int .i64 0]) ∧ i0.size = 3 ∧ i0.bytes = 40) := Lib.hid ⟨hz0, hz1, hz2⟩
    have HI := Lib.hid hi0
    clear q0 q3 hkc2 hmc2 hkc3 hkc0 hmc3 hown2 hkr2 hown3 hkr3 hH hs3 hi0 hz0 hz1 hz2 hUP hLK
    go_region_held3 (fun w' => w'.cell? ⟨K, 2, none⟩ = some (.map (some M)) ∧ w'.cell? ⟨K, 4, none⟩ = some (.int .i64 (now + 1))) (first | exact ⟨d2, d4⟩ | exact ⟨e2, e4⟩ | exact ⟨a2 _, a4' _⟩ | exact ⟨p2, p4⟩ | exact ⟨u2 _, u4 _⟩)
      (first
        | (refine step_append_lies (w4.alloc (.cells #[.slice a4 n4 q4, .int .i64 x, .int .i64 (now + 1)] 55)) rfl _ _ 53 rfl base 55 i0 (.agg #[.slice none 0 0, .int .i64 0, .int .i64 0]) 3 40 Try.underlying53 HI.out HZ.out.1 HZ.out.2.1 HZ.out.2.2 rfl (by decide) v nE xs rfl (hown4.alloc _) ⟨w4.heap.size, 0, none⟩ 1 1 [.slice a4 n4 q4, .int .i64 x, .int .i64 (now + 1)] rfl rfl (news3 w4 _ _ _ 55) (one3o _ _ _ _ _) (by decide) (by unfold maxLen; omega) (by omega) (by have := HS3.out; simp; omega) _ rfl ?_; intro g5 cap5 w5 hown5 hgrow5 hat5 hlt5; have hkc5 : KC w5 K M mo 14 n' (now + 1) f m := (grown_at hgrow5 (k := K) (by have := HS3.out; simp; omega) hvK).trans ((Below.heap_alloc w4 _ K (by have := HS3.out; omega)).trans hkc4); have hmc5 : w5.heap[M]? = some (.map es c) := (grown_at hgrow5 (k := M) (by have := HS3.out; simp; omega) hvM).trans ((Below.heap_alloc w4 _ M (by have := HS3.out; omega)).trans hmc4); have hUP5 := UP.out w5 (.slice (some ⟨g5, 0, none⟩) (nE + 1) cap5) hmc5; have p2 := hkc5.c2; have p4 := hkc5.c4; have u2 : ∀ o, (putMap w5 M o).cell? ⟨K, 2, none⟩ = some (.map (some M)) := fun o => (putMap_kc2 hkc5 hne o).c2; have u4 : ∀ o, (putMap w5 M o).cell? ⟨K, 4, none⟩ = some (.int .i64 (now + 1)) := fun o => (putMap_kc2 hkc5 hne o).c4)
        | (go_at_call 20; refine (clone_row _ l w3.drew HK3.out hll).mono ?_; rintro e w4 ⟨⟨a4, n4, q4, rfl, hk4, hg4'⟩, hb4⟩; have HK4 := Lib.hid hk4; have HG4 := Lib.hid hg4'; clear hk4 hg4'; have hz4 := hb4.size; have hkc4 : KC w4 K M mo 14 n' (now + 1) f m := (hb4.block K (by have := HS3.out; omega)).trans HD.out; have hmc4 : w4.heap[M]? = some (.map es c) := (hb4.block M (by have := HS3.out; omega)).trans HM3.out; have hLK4 := LK.out w4 hmc4; have hLK4a : ∀ o, (Instr.lookup 49 (.map (some M)) (.int .u64 hh) false).run Try.prog (w4.alloc o) = .ok v (w4.alloc o) := fun o => LK.out _ ((Below.heap_alloc w4 o M (by have := HS3.out; omega)).trans hmc4); have e2 := hkc4.c2; have e4 := hkc4.c4; have a2 : ∀ o, (w4.alloc o).cell? ⟨K, 2, none⟩ = some (.map (some M)) := fun o => KC.c2 ((Below.heap_alloc w4 o K (by have := HS3.out; omega)).trans hkc4); have a4' : ∀ o, (w4.alloc o).cell? ⟨K, 4, none⟩ = some (.int .i64 (now + 1)) := fun o => KC.c4 ((Below.heap_alloc w4 o K (by have := HS3.out; omega)).trans hkc4); have hown4 := ownsRow_mono (w' := w4) HO3.out (fun g hg => hb4.block g (by have := HS3.out; have := hvl g hg; omega)))
        | fail)
    all_goals
      have hkP := putMap_kc2 hkc5 hne (.map (es' (.slice (some ⟨g5, 0, none⟩) (nE + 1) cap5)) c')
      have hend := put_end2 (es' := es') (c' := c') (es2 := es' (.slice (some ⟨g5, 0, none⟩) (nE + 1) cap5)) (w6 := putMap w5 M (.map (es' (.slice (some ⟨g5, 0, none⟩) (nE + 1) cap5)) c')) _ hB3 HH.out hKl hMl hne hbK hbM hbw2 hvK hvM hvl hvb hb4 HK4.out HG4.out hgrow5 hat5 hlt5 hkc5 ⟨_, hmc5⟩ hown5 rfl rfl
      have HEnd := Lib.hid hend
      have f3 := hkP.c3
      have ff := hkP.fr 3
      clear hend hkP
      generalize hw6 : putMap w5 M (.map (es' (.slice (some ⟨g5, 0, none⟩) (nE + 1) cap5)) c') = w6 at *
      go_wp2
      go_ret
      exact ⟨rfl, w2, es, c, v, nE, xs, es', c', n', HRR.out, HEnd.out⟩
  · have t10 : decide (mo ≤ n) = true := decide_eq_true hle
    go_quiet (fail)
    go_upto_region 11 with (go_loud (go_at_call 19; ((with_reducible refine (HFU.out hle _ (drewN_heap _ _) (drewN_below _ _ _)).mono ?_); rintro e w3 ⟨rfl, es, c, v, nE, xs, es', c', n', hR⟩)))
    have HRR := Lib.hid hR
    obtain ⟨⟨hkc2, hmc2, -⟩, hbM, hbw2, hkr2, hnE, hown2, hvK, hvM, hvl, hn', hUP, hLK⟩ := HR.out _ _ _ _ _ _ _ _ _ hR
    have hH : w3.drew.heap = w3.heap := rfl
    have hB3 : Below base w3 w3.drew := (Below.refl _ _).drew
    clear hR t10
    have hvb := ownsRow_ge hown2
    have hKl : K < w3.heap.size := hkc2.lt
    have hMl : M < w3.heap.size := (Array.getElem?_eq_some_iff.1 hmc2).1
    have hkc3 : KC w3.drew K M mo 14 n' (now + 1) f m := by unfold KC; rw [hH]; exact hkc2
    have hkc0 : KC w3 K M mo 14 n' (now + 1) f m := hkc3
    have hmc3 : w3.drew.heap[M]? = some (.map es c) := by rw [hH]; exact hmc2
    have hs3 : w3.drew.heap.size = w3.heap.size := by rw [hH]
    have hown3 := ownsRow_mono (w' := w3.drew) hown2 (fun g _ => by rw [hH])
    have hkr3 := hkr2.at (w' := w3.drew) (fun g _ => by rw [hH]) (by omega)
    have hLK3 := hLK w3.drew hmc3
    have UP := Lib.hid hUP
    have LK := Lib.hid hLK
    have d2 := hkc0.c2
    have d4 := hkc0.c4
    have HD := Lib.hid hkc3
    have HM3 := Lib.hid hmc3
    have HK3 := Lib.hid hkr3
    have HO3 := Lib.hid hown3
    have HH := Lib.hid hH
    have HS3 := Lib.hid hs3
    obtain ⟨i0, hi0, hz0, hz1, hz2⟩ := info_parts Try.info55
    have HZ : Hid (i0.zero = some (.agg #[.slice none 0 0, .int .i64 0, .int .i64 0]) ∧ i0.size = 3 ∧ i0.bytes = 40) := Lib.hid ⟨hz0, hz1, hz2⟩
    have HI := Lib.hid hi0
    clear q0 q3 hkc2 hmc2 hkc3 hkc0 hmc3 hown2 hkr2 hown3 hkr3 hH hs3 hi0 hz0 hz1 hz2 hUP hLK
    go_region_held3 (fun w' => w'.cell? ⟨K, 2, none⟩ = some (.map (some M)) ∧ w'.cell? ⟨K, 4, none⟩ = some (.int .i64 (now + 1))) (first | exact ⟨d2, d4⟩ | exact ⟨e2, e4⟩ | exact ⟨a2 _, a4' _⟩ | exact ⟨p2, p4⟩ | exact ⟨u2 _, u4 _⟩)
      (first
        | (refine step_append_lies (w4.alloc (.cells #[.slice a4 n4 q4, .int .i64 x, .int .i64 (now + 1)] 55)) rfl _ _ 53 rfl base 55 i0 (.agg #[.slice none 0 0, .int .i64 0, .int .i64 0]) 3 40 Try.underlying53 HI.out HZ.out.1 HZ.out.2.1 HZ.out.2.2 rfl (by decide) v nE xs rfl (hown4.alloc _) ⟨w4.heap.size, 0, none⟩ 1 1 [.slice a4 n4 q4, .int .i64 x, .int .i64 (now + 1)] rfl rfl (news3 w4 _ _ _ 55) (one3o _ _ _ _ _) (by decide) (by unfold maxLen; omega) (by omega) (by have := HS3.out; simp; omega) _ rfl ?_; intro g5 cap5 w5 hown5 hgrow5 hat5 hlt5; have hkc5 : KC w5 K M mo 14 n' (now + 1) f m := (grown_at hgrow5 (k := K) (by have := HS3.out; simp; omega) hvK).trans ((Below.heap_alloc w4 _ K (by have := HS3.out; omega)).trans hkc4); have hmc5 : w5.heap[M]? = some (.map es c) := (grown_at hgrow5 (k := M) (by have := HS3.out; simp; omega) hvM).trans ((Below.heap_alloc w4 _ M (by have := HS3.out; omega)).trans hmc4); have hUP5 := UP.out w5 (.slice (some ⟨g5, 0, none⟩) (nE + 1) cap5) hmc5; have p2 := hkc5.c2; have p4 := hkc5.c4; have u2 : ∀ o, (putMap w5 M o).cell? ⟨K, 2, none⟩ = some (.map (some M)) := fun o => (putMap_kc2 hkc5 hne o).c2; have u4 : ∀ o, (putMap w5 M o).cell? ⟨K, 4, none⟩ = some (.int .i64 (now + 1)) := fun o => (putMap_kc2 hkc5 hne o).c4)
        | (go_at_call 20; refine (clone_row _ l w3.drew HK3.out hll).mono ?_; rintro e w4 ⟨⟨a4, n4, q4, rfl, hk4, hg4'⟩, hb4⟩; have HK4 := Lib.hid hk4; have HG4 := Lib.hid hg4'; clear hk4 hg4'; have hz4 := hb4.size; have hkc4 : KC w4 K M mo 14 n' (now + 1) f m := (hb4.block K (by have := HS3.out; omega)).trans HD.out; have hmc4 : w4.heap[M]? = some (.map es c) := (hb4.block M (by have := HS3.out; omega)).trans HM3.out; have hLK4 := LK.out w4 hmc4; have hLK4a : ∀ o, (Instr.lookup 49 (.map (some M)) (.int .u64 hh) false).run Try.prog (w4.alloc o) = .ok v (w4.alloc o) := fun o => LK.out _ ((Below.heap_alloc w4 o M (by have := HS3.out; omega)).trans hmc4); have e2 := hkc4.c2; have e4 := hkc4.c4; have a2 : ∀ o, (w4.alloc o).cell? ⟨K, 2, none⟩ = some (.map (some M)) := fun o => KC.c2 ((Below.heap_alloc w4 o K (by have := HS3.out; omega)).trans hkc4); have a4' : ∀ o, (w4.alloc o).cell? ⟨K, 4, none⟩ = some (.int .i64 (now + 1)) := fun o => KC.c4 ((Below.heap_alloc w4 o K (by have := HS3.out; omega)).trans hkc4); have hown4 := ownsRow_mono (w' := w4) HO3.out (fun g hg => hb4.block g (by have := HS3.out; have := hvl g hg; omega)))
        | fail)
    all_goals
      have hkP := putMap_kc2 hkc5 hne (.map (es' (.slice (some ⟨g5, 0, none⟩) (nE + 1) cap5)) c')
      have hend := put_end2 (es' := es') (c' := c') (es2 := es' (.slice (some ⟨g5, 0, none⟩) (nE + 1) cap5)) (w6 := putMap w5 M (.map (es' (.slice (some ⟨g5, 0, none⟩) (nE + 1) cap5)) c')) _ hB3 HH.out hKl hMl hne hbK hbM hbw2 hvK hvM hvl hvb hb4 HK4.out HG4.out hgrow5 hat5 hlt5 hkc5 ⟨_, hmc5⟩ hown5 rfl rfl
      have HEnd := Lib.hid hend
      have f3 := hkP.c3
      have ff := hkP.fr 3
      clear hend hkP
      generalize hw6 : putMap w5 M (.map (es' (.slice (some ⟨g5, 0, none⟩) (nE + 1) cap5)) c') = w6 at *
      go_wp2
      go_ret
      exact ⟨rfl, w3, es, c, v, nE, xs, es', c', n', HRR.out, HEnd.out⟩
end Go.Proofs.Ytebldhppnacdjab
