/- Walks: note; the uses. Walks: shapes, named, term: of the two terms that graph.head makes. Walks: tree.Check of the tree that graph.head makes. Walks: typed, and the first half of graph.head. -/
import Derived.Test.YtifilhkkgkihpaaGreatDoorAs02
set_option linter.unusedSimpArgs false
set_option linter.unusedVariables false
set_option linter.unusedSimpArgs false
set_option linter.unusedVariables false
namespace Go.Proofs.YtifilhkkgkihpaaGreatDoor
open Go.RowKit
def uRow (U : List Int) : Array Value := (U.map (Value.int .i64)).toArray
def bump (U : List Int) (k : Nat) : List Int := U.set k (U.getD k 0 + 1)
def bumps (U : List Int) (KS : List Nat) : List Int := KS.foldl bump U
theorem bump_len (U : List Int) (k : Nat) : (bump U k).length = U.length := by simp [bump]
theorem bumps_len (U : List Int) (KS : List Nat) : (bumps U KS).length = U.length := by
  unfold bumps
  induction KS generalizing U with
  | nil => rfl
  | cons k l ih => rw [List.foldl_cons, ih, bump_len]
theorem bumps_snoc (U : List Int) (KS : List Nat) (k : Nat) : bumps U (KS ++ [k]) = bump (bumps U KS) k := by simp [bumps]
/-- each is between 0 and B. -/
def Small (B : Int) (U : List Int) : Prop := ∀ x ∈ U, 0 ≤ x ∧ x ≤ B
theorem small_getD {B : Int} {U : List Int} (h : Small B U) (hB : 0 ≤ B) (k : Nat) : 0 ≤ U.getD k 0 ∧ U.getD k 0 ≤ B := by
  rw [List.getD_eq_getElem?_getD]
  cases hk : U[k]? with
  | none => simp [hB]
  | some x => exact h x (List.mem_of_getElem? hk)
theorem small_bump {B : Int} {U : List Int} (h : Small B U) (hB : 0 ≤ B) (k : Nat) : Small (B + 1) (bump U k) := by
  intro x hx
  unfold bump at hx
  rcases List.mem_or_eq_of_mem_set hx with h' | rfl
  · have := h x h'; omega
  · have := small_getD h hB k; omega
theorem small_bumps {B : Int} (KS : List Nat) : ∀ {U : List Int} {B : Int}, Small B U → 0 ≤ B → Small (B + KS.length) (bumps U KS) := by
  induction KS with
  | nil => intro U B h hB; simpa [bumps] using h
  | cons k l ih =>
    intro U B h hB
    have := ih (small_bump h hB k) (by omega)
    have e : bumps (bump U k) l = bumps U (k :: l) := rfl
    rw [e] at this
    simp only [List.length_cons]
    have e2 : B + 1 + (l.length : Int) = B + ((l.length + 1 : Nat) : Int) := by omega
    rw [← e2]; exact this
theorem uRow_get (U : List Int) (k : Nat) (hk : k < U.length) : (uRow U)[k]? = some (.int .i64 (U.getD k 0)) := by
  unfold uRow
  simp [hk]
theorem uRow_set (U : List Int) (k : Nat) (x : Int) : (uRow U).setIfInBounds k (.int .i64 x) = uRow (U.set k x) := by
  unfold uRow
  simp [List.map_set]
theorem set_heap (w : World) (T k : Nat) (U : List Int) (x : Int) (h : w.heap[T]? = some (.cells (uRow U) 3 (0, 0))) : (w.setCell ⟨T, k, none⟩ (.int .i64 x)).heap[T]? = some (.cells (uRow (U.set k x)) 3 (0, 0)) := by
  rw [heap_setCell_same _ T k _ 3 _ h]
  congr 2
  exact uRow_set U k x
set_option maxRecDepth 20000 in
theorem note_some (w : World) (T n c g o m kc : Nat) (b : Int) (U : List Int) (KS : List Nat) (hU : U.length = n) (hT : w.heap[T]? = some (.cells (uRow U) 3 (0, 0))) (hm : m = KS.length) (hgl : g < w.heap.size) (hgT : g ≠ T) (hc : Hid (∀ (j k : Nat), KS[j]? = some k → w.cell? ⟨g, o + j, none⟩ = some (.int .i64 (k : Int)))) (hk : Hid (∀ k ∈ KS, k < n ∧ (k : Int) < b)) (hs : Hid (Small 1000 U)) (hn : n ≤ 100000) (hm1 : m ≤ 1000) :
    Calls Tryz.prog 118 #[.slice (some ⟨T, 0, none⟩) n c, .slice (some ⟨g, o, none⟩) m kc, .int .i64 b] w fun e w' => e = .returned (.bool true) ∧ w'.heap[T]? = some (.cells (uRow (bumps U KS)) 3 (0, 0)) ∧ w.grownBy w' (some T) := by
  have HU := Lib.hid hU
  have HT := Lib.hid hT
  have HM := Lib.hid hm
  have HGL := Lib.hid hgl
  have HGT := Lib.hid hgT
  clear hU hT hm hgl hgT
  go_enter Tryz.func118, Tryz.ntmps118
  go_wp2
  go_loopw [11] (fun s11 wr => ∃ j : Nat, j ≤ m ∧ s11 = .int .i64 (j : Int) ∧ Hid (wr.heap[T]? = some (.cells (uRow (bumps U (KS.take j))) 3 (0, 0))) ∧ Hid (w.grownBy wr (some T))) (fun s11 _ => m - (intOf s11).toNat)
  case atStart => exact ⟨0, Nat.zero_le _, rfl, HT, Lib.hid ⟨rfl, rfl, rfl, Nat.le_refl _, fun _ _ _ => rfl⟩⟩
  case round =>
    obtain ⟨j, hj, rfl, HTR, HG⟩ := hrel
    have hwj : IntKind.i64.wrap ((j : Int) + 1) = (j : Int) + 1 := by rw [IntKind.wrap_i64]; omega
    by_cases hlt : j < m
    · have hlt2 : (j : Int) < m := by omega
      obtain ⟨k, hkj⟩ : ∃ k, KS[j]? = some k := ⟨_, List.getElem?_eq_getElem (by rw [← HM.out]; exact hlt)⟩
      have ac : wr.cell? ⟨g, o + j, none⟩ = some (.int .i64 (k : Int)) := by
        rw [← hc.out j k hkj]
        exact World.cell?_of_block (HG.out.block g HGL.out (fun e => HGT.out (Option.some.inj e)))
      obtain ⟨hkn, hkb⟩ := hk.out k (List.mem_of_getElem? hkj)
      have hkn2 : (k : Int) < n := by omega
      have hst : KS.take (j + 1) = KS.take j ++ [k] := by rw [List.take_add_one, hkj]; rfl
      have hlen : (bumps U (KS.take j)).length = n := by rw [bumps_len]; exact HU.out
      have hsm := small_getD (small_bumps (B := 1000) (KS.take j) hs.out (by omega)) (by omega) k
      have hlt3 : (KS.take j).length ≤ 1000 := by rw [List.length_take]; omega
      generalize hx : (bumps U (KS.take j)).getD k 0 = x at hsm
      have at1 : wr.cell? ⟨T, k, none⟩ = some (.int .i64 x) := by rw [cell_of_row _ T k _ 3 _ HTR.out, uRow_get _ _ (by rw [hlen]; exact hkn), hx]
      have fr1 : wr.frozen? ⟨T, k, none⟩ = false := frozen_of_row _ _ k _ 3 HTR.out
      have hwx : IntKind.i64.wrap (x + 1) = x + 1 := by rw [IntKind.wrap_i64]; omega
      have HST := Lib.hid hst
      have HX := Lib.hid hx
      clear hkj hst hlen hsm hlt3 hx
      go_wp2
      go_roundw
      case rel => exact ⟨j + 1, by omega, by go_num, Lib.hid (by
        rw [HST.out, bumps_snoc, set_heap _ _ _ _ _ HTR.out]
        unfold bump
        rw [HX.out]), Lib.hid (HG.out.trans ⟨rfl, rfl, rfl, by simp, fun i hi hne => Below.heap_setCell _ _ _ _ (fun e => hne (by rw [e]))⟩)⟩
      case measure => simp [intOf]; omega
    · have hlt2 : ¬ (j : Int) < m := by omega
      obtain rfl : j = m := by omega
      go_wp2
      go_ret
      exact ⟨rfl, by have := HTR.out; rwa [List.take_of_length_le (by rw [← HM.out]; exact Nat.le_refl _)] at this, HG.out⟩
theorem note_zero (w : World) (T n c kc : Nat) (b : Int) (ka : Option Addr) : Calls Tryz.prog 118 #[.slice (some ⟨T, 0, none⟩) n c, .slice ka 0 kc, .int .i64 b] w fun e w' => e = .returned (.bool true) ∧ w = w' := by
  go_enter Tryz.func118, Tryz.ntmps118
  go_wp2
  go_loop [11] (fun s11 => s11 = .int .i64 0) (fun _ => 0)
  case atStart => exact rfl
  case round =>
    obtain rfl := hrel
    go_wp2
    go_ret
    exact ⟨rfl, rfl⟩
/-- are all 1? -/
theorem odd_any (x : Int) (w : World) : Calls Tryz.prog 121 #[.int .i64 x] w fun e w' => e = .returned (.bool (x != 1)) ∧ w = w' := by
  go_enter Tryz.func121, Tryz.ntmps121
  go_wp2
  go_ret
  exact ⟨by simp, rfl⟩
theorem oddx_ones (w : World) (T n c : Nat) (U : List Int) (hU : U.length = n) (hT : w.heap[T]? = some (.cells (uRow U) 3 (0, 0))) (h1 : Hid (∀ x ∈ U, x = 1)) (hn : n ≤ 100000) :
    Calls Tryz.prog 159 #[.slice (some ⟨T, 0, none⟩) n c, .func (.func 121) #[] #[]] w fun e w' => e = .returned (.int .i64 (-1)) ∧ w = w' := by
  have HU := Lib.hid hU
  have HT := Lib.hid hT
  clear hU hT
  go_enter Tryz.func159, Tryz.ntmps159
  go_wp2
  go_loop [8] (fun s8 => ∃ j : Nat, j ≤ n ∧ s8 = .int .i64 (j : Int)) (fun s8 => n - (intOf s8).toNat)
  case atStart => exact ⟨0, Nat.zero_le _, rfl⟩
  case round =>
    obtain ⟨j, hj, rfl⟩ := hrel
    have hwj : IntKind.i64.wrap ((j : Int) + 1) = (j : Int) + 1 := by rw [IntKind.wrap_i64]; omega
    by_cases hlt : j < n
    · have hlt2 : (j : Int) < n := by omega
      have ac : w.cell? ⟨T, j, none⟩ = some (.int .i64 1) := by
        rw [cell_of_row _ T j _ 3 _ HT.out, uRow_get _ _ (by rw [HU.out]; exact hlt)]
        have hj' : j < U.length := by rw [HU.out]; exact hlt
        rw [List.getD_eq_getElem?_getD, List.getElem?_eq_getElem hj']
        simp [h1.out _ (List.getElem_mem hj')]
      go_wp2_with (go_at_call 121; ((with_reducible refine (odd_any _ _).mono ?_); rintro e w' ⟨rfl, rfl⟩))
      go_round
      case rel => exact ⟨j + 1, by omega, by go_num⟩
      case measure => simp [intOf]; omega
    · have hlt2 : ¬ (j : Int) < n := by omega
      go_wp2
      go_ret
      exact ⟨rfl, rfl⟩
theorem odds_ones (w : World) (T n c : Nat) (U : List Int) (hU : U.length = n) (hT : w.heap[T]? = some (.cells (uRow U) 3 (0, 0))) (h1 : ∀ x ∈ U, x = 1) (hn : n ≤ 100000) :
    Calls Tryz.prog 122 #[.slice (some ⟨T, 0, none⟩) n c, .func (.func 121) #[] #[]] w fun e w' => e = .returned (.bool false) ∧ w = w' := by
  have HI := Lib.hid (oddx_ones w T n c U hU hT (Lib.hid h1) hn)
  clear hU hT h1
  go_enter Tryz.func122, Tryz.ntmps122
  go_wp2_with (go_at_call 159; refine HI.out.mono ?_; rintro e w' ⟨rfl, rfl⟩)
  go_ret
  exact ⟨by simp, rfl⟩
end Go.Proofs.YtifilhkkgkihpaaGreatDoor
set_option linter.unusedSimpArgs false
set_option linter.unusedVariables false
namespace Go.Proofs.YtifilhkkgkihpaaGreatDoor
open Go.RowKit
theorem results_172 {fn : Func} {p u : Tmp} (h : fn.results = #[.cell p 223, .tmp u]) (tmps : Array Value) (w : World) (g : Nat) (cs : Array Value) (hp : tmps.getD p undef = .pointer (some ⟨g, 0, none⟩)) (hg : w.heap[g]? = some (.cells cs 223 (0, 0))) (hi : cs.size = 6) :
    (results fn tmps).run Tryz.prog w = .ok (.tuple #[.agg cs, tmps.getD u undef]) w := by
  have hi2 : (Tryz.prog.info? 223).map (·.size) = some cs.size := by rw [hi]; kernel_rfl
  rw [results_cell_tmp h, hp]
  simp [asAddr, run_loadVar_row w g 223 223 cs (0, 0) _ hg Tryz.underlying223 rfl hi2]
theorem shapes_1 (w : World) : Calls Tryz.prog 151 #[.int .i64 1] w fun e w' => e = .returned (.tuple #[.agg #[.bool false, .bool true, .bool false, .bool false, .int .i64 0, .int .i64 0], .bool true]) ∧ Below w.heap.size w w' := by
  have HR : Hid ((w.alloc (.cells #[.bool false, .bool false, .bool false, .bool false, .int .i64 0, .int .i64 0] 223)).heap[w.heap.size]? = some (.cells #[.bool false, .bool false, .bool false, .bool false, .int .i64 0, .int .i64 0] 223 (0, 0))) := Lib.hid (heap_alloc_new w _)
  have HB : Hid (Below w.heap.size w (w.alloc (.cells #[.bool false, .bool false, .bool false, .bool false, .int .i64 0, .int .i64 0] 223))) := Lib.hid ((Below.refl _ _).alloc (Nat.le_refl _) _)
  go_enter Tryz.func151, Tryz.ntmps151
  go_upto_region 1 with (fail)
  generalize (w.alloc (.cells #[.bool false, .bool false, .bool false, .bool false, .int .i64 0, .int .i64 0] 223)) = w3 at *
  go_wp2_with (refine wpList_store_row rfl 223 _ _ rfl w.heap.size _ rfl rfl 223 _ HR.out (by kernel_rfl) rfl (by simp [Value.oneCell']) ?_)
  (try simp only [Exit.inBlock, Exit.then])
  exact bodyPost_ret (v := .tuple #[.agg #[.bool false, .bool true, .bool false, .bool false, .int .i64 0, .int .i64 0], .bool true]) (results_172 (fn := Tryz.f151) (p := 2) (u := 3) rfl _ _ w.heap.size _ rfl (setRow_heap _ _ _ _ _ _ HR.out) rfl) rfl ⟨rfl, HB.out.os, HB.out.tape, HB.out.output, by rw [setRow_size]; exact HB.out.size, fun k hk => (setRow_other _ _ _ _ (by omega)).trans (HB.out.block k hk)⟩
theorem shapes_15 (w : World) : Calls Tryz.prog 151 #[.int .i64 15] w fun e w' => e = .returned (.tuple #[.agg #[.bool false, .bool false, .bool false, .bool false, .int .i64 1, .int .i64 1], .bool true]) ∧ Below w.heap.size w w' := by
  have HR : Hid ((w.alloc (.cells #[.bool false, .bool false, .bool false, .bool false, .int .i64 0, .int .i64 0] 223)).heap[w.heap.size]? = some (.cells #[.bool false, .bool false, .bool false, .bool false, .int .i64 0, .int .i64 0] 223 (0, 0))) := Lib.hid (heap_alloc_new w _)
  have HB : Hid (Below w.heap.size w (w.alloc (.cells #[.bool false, .bool false, .bool false, .bool false, .int .i64 0, .int .i64 0] 223))) := Lib.hid ((Below.refl _ _).alloc (Nat.le_refl _) _)
  go_enter Tryz.func151, Tryz.ntmps151
  go_upto_region 1 with (fail)
  generalize (w.alloc (.cells #[.bool false, .bool false, .bool false, .bool false, .int .i64 0, .int .i64 0] 223)) = w3 at *
  go_wp2_with (refine wpList_store_row rfl 223 _ _ rfl w.heap.size _ rfl rfl 223 _ HR.out (by kernel_rfl) rfl (by simp [Value.oneCell']) ?_)
  (try simp only [Exit.inBlock, Exit.then])
  exact bodyPost_ret (v := .tuple #[.agg #[.bool false, .bool false, .bool false, .bool false, .int .i64 1, .int .i64 1], .bool true]) (results_172 (fn := Tryz.f151) (p := 2) (u := 3) rfl _ _ w.heap.size _ rfl (setRow_heap _ _ _ _ _ _ HR.out) rfl) rfl ⟨rfl, HB.out.os, HB.out.tape, HB.out.output, by rw [setRow_size]; exact HB.out.size, fun k hk => (setRow_other _ _ _ _ (by omega)).trans (HB.out.block k hk)⟩
theorem named_1 (w : World) : Calls Tryz.prog 152 #[.agg #[.int .i64 1, .int .i64 0, .string ⟨#[]⟩, .int .i64 0, .int .u64 0, .slice none 0 0, .slice none 0 0, .slice none 0 0]] w fun e w' => e = .returned (.bool true) ∧ Below w.heap.size w w' := by
  have HB : Hid (Below w.heap.size w (w.alloc (.cells #[.int .i64 1, .int .i64 0, .string ⟨#[]⟩, .int .i64 0, .int .u64 0, .slice none 0 0, .slice none 0 0, .slice none 0 0] 156))) := Lib.hid ((Below.refl _ _).alloc (Nat.le_refl _) _)
  go_enter Tryz.func152, Tryz.ntmps152
  go_wp2
  go_ret
  exact ⟨by simp, HB.out⟩
set_option maxRecDepth 20000 in
set_option maxHeartbeats 1000000 in
theorem term_1 (w : World) : Calls Tryz.prog 117 #[.agg #[.int .i64 1, .int .i64 0, .string ⟨#[]⟩, .int .i64 0, .int .u64 0, .slice none 0 0, .slice none 0 0, .slice none 0 0]] w fun e w' => e = .returned (.bool true) ∧ Below w.heap.size w w' := by
  have HB : Hid (Below w.heap.size w (w.alloc (.cells #[.int .i64 1, .int .i64 0, .string ⟨#[]⟩, .int .i64 0, .int .u64 0, .slice none 0 0, .slice none 0 0, .slice none 0 0] 156))) := Lib.hid ((Below.refl _ _).alloc (Nat.le_refl _) _)
  have HN : Hid ((w.alloc (.cells #[.int .i64 1, .int .i64 0, .string ⟨#[]⟩, .int .i64 0, .int .u64 0, .slice none 0 0, .slice none 0 0, .slice none 0 0] 156)).heap[w.heap.size]? = some (.cells #[.int .i64 1, .int .i64 0, .string ⟨#[]⟩, .int .i64 0, .int .u64 0, .slice none 0 0, .slice none 0 0, .slice none 0 0] 156 (0, 0))) := Lib.hid (heap_alloc_new w _)
  go_enter Tryz.func117, Tryz.ntmps117
  go_upto_region 1 with (fail)
  generalize (w.alloc (.cells #[.int .i64 1, .int .i64 0, .string ⟨#[]⟩, .int .i64 0, .int .u64 0, .slice none 0 0, .slice none 0 0, .slice none 0 0] 156)) = w1 at *
  have b0 : w1.cell? ⟨w.heap.size, 0, none⟩ = some (.int .i64 1) := by rw [cell_of_row _ _ 0 _ 156 _ HN.out]; rfl
  go_upto_region 2 with (go_at_call 151; refine (shapes_1 _).mono ?_; rintro e w2 ⟨rfl, hb2⟩)
  clear b0
  have HS : Hid ((w2.alloc (.cells #[.bool false, .bool true, .bool false, .bool false, .int .i64 0, .int .i64 0] 223)).heap[w2.heap.size]? = some (.cells #[.bool false, .bool true, .bool false, .bool false, .int .i64 0, .int .i64 0] 223 (0, 0))) := Lib.hid (heap_alloc_new w2 _)
  have HN3 : Hid ((w2.alloc (.cells #[.bool false, .bool true, .bool false, .bool false, .int .i64 0, .int .i64 0] 223)).heap[w.heap.size]? = some (.cells #[.int .i64 1, .int .i64 0, .string ⟨#[]⟩, .int .i64 0, .int .u64 0, .slice none 0 0, .slice none 0 0, .slice none 0 0] 156 (0, 0))) := Lib.hid (by
    have h1 := (Array.getElem?_eq_some_iff.1 HN.out).1
    rw [Below.heap_alloc _ _ _ (by have := hb2.size; omega), hb2.block _ h1]
    exact HN.out)
  have HB3 : Hid (Below w.heap.size w (w2.alloc (.cells #[.bool false, .bool true, .bool false, .bool false, .int .i64 0, .int .i64 0] 223))) := Lib.hid ((HB.out.trans (hb2.mono HB.out.size)).alloc (Nat.le_trans HB.out.size hb2.size) _)
  clear hb2
  generalize w2.heap.size = S2 at *
  generalize (w2.alloc (.cells #[.bool false, .bool true, .bool false, .bool false, .int .i64 0, .int .i64 0] 223)) = w3 at *
  have a0 : w3.cell? ⟨w.heap.size, 0, none⟩ = some (.int .i64 1) := by rw [cell_of_row _ _ 0 _ 156 _ HN3.out]; rfl
  have a1 : w3.cell? ⟨w.heap.size, 1, none⟩ = some (.int .i64 0) := by rw [cell_of_row _ _ 1 _ 156 _ HN3.out]; rfl
  have a2 : w3.cell? ⟨w.heap.size, 2, none⟩ = some (.string ⟨#[]⟩) := by rw [cell_of_row _ _ 2 _ 156 _ HN3.out]; rfl
  have a3 : w3.cell? ⟨w.heap.size, 3, none⟩ = some (.int .i64 0) := by rw [cell_of_row _ _ 3 _ 156 _ HN3.out]; rfl
  have a4 : w3.cell? ⟨w.heap.size, 4, none⟩ = some (.int .u64 0) := by rw [cell_of_row _ _ 4 _ 156 _ HN3.out]; rfl
  have a5 : w3.cell? ⟨w.heap.size, 5, none⟩ = some (.slice none 0 0) := by rw [cell_of_row _ _ 5 _ 156 _ HN3.out]; rfl
  have a6 : w3.cell? ⟨w.heap.size, 6, none⟩ = some (.slice none 0 0) := by rw [cell_of_row _ _ 6 _ 156 _ HN3.out]; rfl
  have a7 : w3.cell? ⟨w.heap.size, 7, none⟩ = some (.slice none 0 0) := by rw [cell_of_row _ _ 7 _ 156 _ HN3.out]; rfl
  have e0 : w3.cell? ⟨S2, 0, none⟩ = some (.bool false) := by rw [cell_of_row _ _ 0 _ 223 _ HS.out]; rfl
  have e1 : w3.cell? ⟨S2, 1, none⟩ = some (.bool true) := by rw [cell_of_row _ _ 1 _ 223 _ HS.out]; rfl
  have e2 : w3.cell? ⟨S2, 2, none⟩ = some (.bool false) := by rw [cell_of_row _ _ 2 _ 223 _ HS.out]; rfl
  have e3 : w3.cell? ⟨S2, 3, none⟩ = some (.bool false) := by rw [cell_of_row _ _ 3 _ 223 _ HS.out]; rfl
  have e4 : w3.cell? ⟨S2, 4, none⟩ = some (.int .i64 0) := by rw [cell_of_row _ _ 4 _ 223 _ HS.out]; rfl
  have e5 : w3.cell? ⟨S2, 5, none⟩ = some (.int .i64 0) := by rw [cell_of_row _ _ 5 _ 223 _ HS.out]; rfl
  go_wp2_with (go_at_call 152; refine (named_1 _).mono ?_; rintro e w5 ⟨rfl, hb5⟩; have hn5 := (hb5.block w.heap.size (Array.getElem?_eq_some_iff.1 HN3.out).1).trans HN3.out; have hs5 := (hb5.block S2 (Array.getElem?_eq_some_iff.1 HS.out).1).trans HS.out; have c0 : w5.cell? ⟨w.heap.size, 0, none⟩ = some (.int .i64 1) := (by rw [cell_of_row _ _ 0 _ 156 _ hn5]; rfl); have c1 : w5.cell? ⟨w.heap.size, 1, none⟩ = some (.int .i64 0) := (by rw [cell_of_row _ _ 1 _ 156 _ hn5]; rfl); have c2 : w5.cell? ⟨w.heap.size, 2, none⟩ = some (.string ⟨#[]⟩) := (by rw [cell_of_row _ _ 2 _ 156 _ hn5]; rfl); have c3 : w5.cell? ⟨w.heap.size, 3, none⟩ = some (.int .i64 0) := (by rw [cell_of_row _ _ 3 _ 156 _ hn5]; rfl); have c4 : w5.cell? ⟨w.heap.size, 4, none⟩ = some (.int .u64 0) := (by rw [cell_of_row _ _ 4 _ 156 _ hn5]; rfl); have c5 : w5.cell? ⟨w.heap.size, 5, none⟩ = some (.slice none 0 0) := (by rw [cell_of_row _ _ 5 _ 156 _ hn5]; rfl); have c6 : w5.cell? ⟨w.heap.size, 6, none⟩ = some (.slice none 0 0) := (by rw [cell_of_row _ _ 6 _ 156 _ hn5]; rfl); have c7 : w5.cell? ⟨w.heap.size, 7, none⟩ = some (.slice none 0 0) := (by rw [cell_of_row _ _ 7 _ 156 _ hn5]; rfl); have d0 : w5.cell? ⟨S2, 0, none⟩ = some (.bool false) := (by rw [cell_of_row _ _ 0 _ 223 _ hs5]; rfl); have d1 : w5.cell? ⟨S2, 1, none⟩ = some (.bool true) := (by rw [cell_of_row _ _ 1 _ 223 _ hs5]; rfl); have d2 : w5.cell? ⟨S2, 2, none⟩ = some (.bool false) := (by rw [cell_of_row _ _ 2 _ 223 _ hs5]; rfl); have d3 : w5.cell? ⟨S2, 3, none⟩ = some (.bool false) := (by rw [cell_of_row _ _ 3 _ 223 _ hs5]; rfl); have d4 : w5.cell? ⟨S2, 4, none⟩ = some (.int .i64 0) := (by rw [cell_of_row _ _ 4 _ 223 _ hs5]; rfl); have d5 : w5.cell? ⟨S2, 5, none⟩ = some (.int .i64 0) := (by rw [cell_of_row _ _ 5 _ 223 _ hs5]; rfl); have HB5 := Lib.hid (HB3.out.trans (hb5.mono HB3.out.size)); clear hn5 hs5 hb5)
  go_quiet (fail)
  go_wp2
  go_ret
  exact ⟨by simp, HB5.out.os, HB5.out.tape, HB5.out.output, HB5.out.size, HB5.out.block⟩
theorem named_15 (w : World) (gk gt : Nat) : Calls Tryz.prog 152 #[.agg #[.int .i64 15, .int .i64 0, .string ⟨#[]⟩, .int .i64 0, .int .u64 0, .slice none 0 0, .slice (some ⟨gk, 0, none⟩) 1 1, .slice (some ⟨gt, 0, none⟩) 1 1]] w fun e w' => e = .returned (.bool true) ∧ Below w.heap.size w w' := by
  have HB : Hid (Below w.heap.size w (w.alloc (.cells #[.int .i64 15, .int .i64 0, .string ⟨#[]⟩, .int .i64 0, .int .u64 0, .slice none 0 0, .slice (some ⟨gk, 0, none⟩) 1 1, .slice (some ⟨gt, 0, none⟩) 1 1] 156))) := Lib.hid ((Below.refl _ _).alloc (Nat.le_refl _) _)
  go_enter Tryz.func152, Tryz.ntmps152
  go_wp2
  go_ret
  exact ⟨by simp, HB.out⟩
set_option maxRecDepth 20000 in
set_option maxHeartbeats 1000000 in
theorem term_15 (w : World) (gk gt : Nat) : Calls Tryz.prog 117 #[.agg #[.int .i64 15, .int .i64 0, .string ⟨#[]⟩, .int .i64 0, .int .u64 0, .slice none 0 0, .slice (some ⟨gk, 0, none⟩) 1 1, .slice (some ⟨gt, 0, none⟩) 1 1]] w fun e w' => e = .returned (.bool true) ∧ Below w.heap.size w w' := by
  have HB : Hid (Below w.heap.size w (w.alloc (.cells #[.int .i64 15, .int .i64 0, .string ⟨#[]⟩, .int .i64 0, .int .u64 0, .slice none 0 0, .slice (some ⟨gk, 0, none⟩) 1 1, .slice (some ⟨gt, 0, none⟩) 1 1] 156))) := Lib.hid ((Below.refl _ _).alloc (Nat.le_refl _) _)
  have HN : Hid ((w.alloc (.cells #[.int .i64 15, .int .i64 0, .string ⟨#[]⟩, .int .i64 0, .int .u64 0, .slice none 0 0, .slice (some ⟨gk, 0, none⟩) 1 1, .slice (some ⟨gt, 0, none⟩) 1 1] 156)).heap[w.heap.size]? = some (.cells #[.int .i64 15, .int .i64 0, .string ⟨#[]⟩, .int .i64 0, .int .u64 0, .slice none 0 0, .slice (some ⟨gk, 0, none⟩) 1 1, .slice (some ⟨gt, 0, none⟩) 1 1] 156 (0, 0))) := Lib.hid (heap_alloc_new w _)
  go_enter Tryz.func117, Tryz.ntmps117
  go_upto_region 1 with (fail)
  generalize (w.alloc (.cells #[.int .i64 15, .int .i64 0, .string ⟨#[]⟩, .int .i64 0, .int .u64 0, .slice none 0 0, .slice (some ⟨gk, 0, none⟩) 1 1, .slice (some ⟨gt, 0, none⟩) 1 1] 156)) = w1 at *
  have b0 : w1.cell? ⟨w.heap.size, 0, none⟩ = some (.int .i64 15) := by rw [cell_of_row _ _ 0 _ 156 _ HN.out]; rfl
  go_upto_region 2 with (go_at_call 151; refine (shapes_15 _).mono ?_; rintro e w2 ⟨rfl, hb2⟩)
  clear b0
  have HS : Hid ((w2.alloc (.cells #[.bool false, .bool false, .bool false, .bool false, .int .i64 1, .int .i64 1] 223)).heap[w2.heap.size]? = some (.cells #[.bool false, .bool false, .bool false, .bool false, .int .i64 1, .int .i64 1] 223 (0, 0))) := Lib.hid (heap_alloc_new w2 _)
  have HN3 : Hid ((w2.alloc (.cells #[.bool false, .bool false, .bool false, .bool false, .int .i64 1, .int .i64 1] 223)).heap[w.heap.size]? = some (.cells #[.int .i64 15, .int .i64 0, .string ⟨#[]⟩, .int .i64 0, .int .u64 0, .slice none 0 0, .slice (some ⟨gk, 0, none⟩) 1 1, .slice (some ⟨gt, 0, none⟩) 1 1] 156 (0, 0))) := Lib.hid (by
    have h1 := (Array.getElem?_eq_some_iff.1 HN.out).1
    rw [Below.heap_alloc _ _ _ (by have := hb2.size; omega), hb2.block _ h1]
    exact HN.out)
  have HB3 : Hid (Below w.heap.size w (w2.alloc (.cells #[.bool false, .bool false, .bool false, .bool false, .int .i64 1, .int .i64 1] 223))) := Lib.hid ((HB.out.trans (hb2.mono HB.out.size)).alloc (Nat.le_trans HB.out.size hb2.size) _)
  clear hb2
  generalize w2.heap.size = S2 at *
  generalize (w2.alloc (.cells #[.bool false, .bool false, .bool false, .bool false, .int .i64 1, .int .i64 1] 223)) = w3 at *
  have a0 : w3.cell? ⟨w.heap.size, 0, none⟩ = some (.int .i64 15) := by rw [cell_of_row _ _ 0 _ 156 _ HN3.out]; rfl
  have a1 : w3.cell? ⟨w.heap.size, 1, none⟩ = some (.int .i64 0) := by rw [cell_of_row _ _ 1 _ 156 _ HN3.out]; rfl
  have a2 : w3.cell? ⟨w.heap.size, 2, none⟩ = some (.string ⟨#[]⟩) := by rw [cell_of_row _ _ 2 _ 156 _ HN3.out]; rfl
  have a3 : w3.cell? ⟨w.heap.size, 3, none⟩ = some (.int .i64 0) := by rw [cell_of_row _ _ 3 _ 156 _ HN3.out]; rfl
  have a4 : w3.cell? ⟨w.heap.size, 4, none⟩ = some (.int .u64 0) := by rw [cell_of_row _ _ 4 _ 156 _ HN3.out]; rfl
  have a5 : w3.cell? ⟨w.heap.size, 5, none⟩ = some (.slice none 0 0) := by rw [cell_of_row _ _ 5 _ 156 _ HN3.out]; rfl
  have a6 : w3.cell? ⟨w.heap.size, 6, none⟩ = some (.slice (some ⟨gk, 0, none⟩) 1 1) := by rw [cell_of_row _ _ 6 _ 156 _ HN3.out]; rfl
  have a7 : w3.cell? ⟨w.heap.size, 7, none⟩ = some (.slice (some ⟨gt, 0, none⟩) 1 1) := by rw [cell_of_row _ _ 7 _ 156 _ HN3.out]; rfl
  have e0 : w3.cell? ⟨S2, 0, none⟩ = some (.bool false) := by rw [cell_of_row _ _ 0 _ 223 _ HS.out]; rfl
  have e1 : w3.cell? ⟨S2, 1, none⟩ = some (.bool false) := by rw [cell_of_row _ _ 1 _ 223 _ HS.out]; rfl
  have e2 : w3.cell? ⟨S2, 2, none⟩ = some (.bool false) := by rw [cell_of_row _ _ 2 _ 223 _ HS.out]; rfl
  have e3 : w3.cell? ⟨S2, 3, none⟩ = some (.bool false) := by rw [cell_of_row _ _ 3 _ 223 _ HS.out]; rfl
  have e4 : w3.cell? ⟨S2, 4, none⟩ = some (.int .i64 1) := by rw [cell_of_row _ _ 4 _ 223 _ HS.out]; rfl
  have e5 : w3.cell? ⟨S2, 5, none⟩ = some (.int .i64 1) := by rw [cell_of_row _ _ 5 _ 223 _ HS.out]; rfl
  go_wp2_with (go_at_call 152; refine (named_15 _ _ _).mono ?_; rintro e w5 ⟨rfl, hb5⟩; have hn5 := (hb5.block w.heap.size (Array.getElem?_eq_some_iff.1 HN3.out).1).trans HN3.out; have hs5 := (hb5.block S2 (Array.getElem?_eq_some_iff.1 HS.out).1).trans HS.out; have c0 : w5.cell? ⟨w.heap.size, 0, none⟩ = some (.int .i64 15) := (by rw [cell_of_row _ _ 0 _ 156 _ hn5]; rfl); have c1 : w5.cell? ⟨w.heap.size, 1, none⟩ = some (.int .i64 0) := (by rw [cell_of_row _ _ 1 _ 156 _ hn5]; rfl); have c2 : w5.cell? ⟨w.heap.size, 2, none⟩ = some (.string ⟨#[]⟩) := (by rw [cell_of_row _ _ 2 _ 156 _ hn5]; rfl); have c3 : w5.cell? ⟨w.heap.size, 3, none⟩ = some (.int .i64 0) := (by rw [cell_of_row _ _ 3 _ 156 _ hn5]; rfl); have c4 : w5.cell? ⟨w.heap.size, 4, none⟩ = some (.int .u64 0) := (by rw [cell_of_row _ _ 4 _ 156 _ hn5]; rfl); have c5 : w5.cell? ⟨w.heap.size, 5, none⟩ = some (.slice none 0 0) := (by rw [cell_of_row _ _ 5 _ 156 _ hn5]; rfl); have c6 : w5.cell? ⟨w.heap.size, 6, none⟩ = some (.slice (some ⟨gk, 0, none⟩) 1 1) := (by rw [cell_of_row _ _ 6 _ 156 _ hn5]; rfl); have c7 : w5.cell? ⟨w.heap.size, 7, none⟩ = some (.slice (some ⟨gt, 0, none⟩) 1 1) := (by rw [cell_of_row _ _ 7 _ 156 _ hn5]; rfl); have d0 : w5.cell? ⟨S2, 0, none⟩ = some (.bool false) := (by rw [cell_of_row _ _ 0 _ 223 _ hs5]; rfl); have d1 : w5.cell? ⟨S2, 1, none⟩ = some (.bool false) := (by rw [cell_of_row _ _ 1 _ 223 _ hs5]; rfl); have d2 : w5.cell? ⟨S2, 2, none⟩ = some (.bool false) := (by rw [cell_of_row _ _ 2 _ 223 _ hs5]; rfl); have d3 : w5.cell? ⟨S2, 3, none⟩ = some (.bool false) := (by rw [cell_of_row _ _ 3 _ 223 _ hs5]; rfl); have d4 : w5.cell? ⟨S2, 4, none⟩ = some (.int .i64 1) := (by rw [cell_of_row _ _ 4 _ 223 _ hs5]; rfl); have d5 : w5.cell? ⟨S2, 5, none⟩ = some (.int .i64 1) := (by rw [cell_of_row _ _ 5 _ 223 _ hs5]; rfl); have HB5 := Lib.hid (HB3.out.trans (hb5.mono HB3.out.size)); clear hn5 hs5 hb5)
  go_quiet (fail)
  go_wp2
  go_ret
  exact ⟨by simp, HB5.out.os, HB5.out.tape, HB5.out.output, HB5.out.size, HB5.out.block⟩
end Go.Proofs.YtifilhkkgkihpaaGreatDoor
set_option linter.unusedSimpArgs false
set_option linter.unusedVariables false
namespace Go.Proofs.YtifilhkkgkihpaaGreatDoor
open Go.RowKit
def uZ (n : Nat) : Array Value := uRow (List.replicate n 0)
theorem Tryz.info3 : (Tryz.prog.info? 3).map (fun i => (i.zero, i.size, i.bytes)) = some (some (.int .i64 0), 1, 8) := by kernel_rfl
theorem make_run (n : Nat) (hn : n ≤ 100000) (w : World) : (Instr.makeSlice 186 (.int .i64 (n : Int)) (.int .i64 (n : Int))).run Tryz.prog w = .ok (.slice (some ⟨w.heap.size, 0, none⟩) n n) (w.alloc (.cells (uZ n) 3)) := by
  obtain ⟨i0, hi, hz0, hz1, hz2⟩ := info_parts Tryz.info3
  have := run_make (P := Tryz.prog) w 186 3 i0 (.int .i64 0) Tryz.underlying186 hi hz0 .i64 .i64 (n : Int) (n : Int) (by omega) (Int.le_refl _) (by rw [hz2]; omega) (by omega)
  rw [this, hz1]
  have hc : madeCells (Value.int .i64 0).cells (n * 1) = uZ n := by
    rw [Nat.mul_one]
    apply Array.toList_inj.1
    rw [show (Value.int .i64 0).cells = #[Value.int .i64 0] from rfl]
    have := toList_madeCells_one (.int .i64 0) n
    unfold uZ uRow
    rw [List.map_replicate]
    exact this
  simp only [Int.toNat_natCast, hc]
theorem bumps_range (m : Nat) : ∀ (U : List Int), m ≤ U.length → ∀ i, (bumps U (List.range m))[i]? = (U[i]?).map fun x => if i < m then x + 1 else x := by
  induction m with
  | zero => intro U h i; simp [bumps]
  | succ m ih =>
    intro U h i
    rw [List.range_succ, bumps_snoc]
    unfold bump
    have hm := ih U (by omega)
    rw [List.getElem?_set]
    have hl : (bumps U (List.range m)).length = U.length := bumps_len _ _
    by_cases he : m = i
    · subst he
      rw [if_pos rfl, if_pos (by rw [hl]; omega), List.getD_eq_getElem?_getD, hm m, List.getElem?_eq_getElem (by omega)]
      simp
    · rw [if_neg he, hm i]
      cases U[i]? with
      | none => rfl
      | some x =>
        simp only [Option.map_some]
        by_cases h1 : i < m
        · rw [if_pos h1, if_pos (by omega)]
        · rw [if_neg h1, if_neg (by omega)]
/-- what all the types are used at the end. -/
def U0 (k : Nat) : List Int := bump (List.replicate (k + 1) 0) k
theorem U0_len (k : Nat) : (U0 k).length = k + 1 := by unfold U0; rw [bump_len]; simp
theorem U0_ones (k : Nat) : ∀ x ∈ bumps (U0 k) (List.range k), x = 1 := by
  intro x hx
  obtain ⟨i, hi⟩ := List.getElem?_of_mem hx
  rw [bumps_range k (U0 k) (by rw [U0_len]; omega) i] at hi
  unfold U0 bump at hi
  rw [List.getElem?_set] at hi
  by_cases he : k = i
  · subst he
    simp at hi
    omega
  · rw [if_neg he, List.getElem?_replicate] at hi
    split at hi
    · simp at hi
      omega
    · simp at hi
      omega
theorem U0_small (k : Nat) : Small 1000 (U0 k) := by
  have h0 : Small 0 (List.replicate (k + 1) (0 : Int)) := fun x hx => by
    have := List.eq_of_mem_replicate hx
    omega
  have := small_bump h0 (by omega) k
  intro x hx
  have := this x hx
  omega
theorem zeros_small (n : Nat) : Small 1000 (List.replicate n (0 : Int)) := fun x hx => by
  have := List.eq_of_mem_replicate hx
  omega
/-- the tree's box, and the uses, as they lie. -/
structure Mid (w wr : World) (C : Array Value) (T1 T2 : Nat) (U1 U2 : List Int) : Prop where
  box : wr.heap[w.heap.size]? = some (.cells C 108 (0, 0))
  t1 : wr.heap[T1]? = some (.cells (uRow U1) 3 (0, 0))
  t2 : wr.heap[T2]? = some (.cells (uRow U2) 3 (0, 0))
  ne : T1 ≠ T2
  l1 : w.heap.size < T1
  l2 : w.heap.size < T2
  below : Below w.heap.size w wr
theorem Mid.lt {w wr : World} {C : Array Value} {T1 T2 : Nat} {U1 U2 : List Int} (h : Mid w wr C T1 T2 U1 U2) : w.heap.size < wr.heap.size ∧ T1 < wr.heap.size ∧ T2 < wr.heap.size :=
  ⟨(Array.getElem?_eq_some_iff.1 h.box).1, (Array.getElem?_eq_some_iff.1 h.t1).1, (Array.getElem?_eq_some_iff.1 h.t2).1⟩
theorem Mid.on {w wr w' : World} {C : Array Value} {T1 T2 : Nat} {U1 U2 : List Int} (h : Mid w wr C T1 T2 U1 U2) (hb : Below wr.heap.size wr w') : Mid w w' C T1 T2 U1 U2 :=
  ⟨(hb.block _ h.lt.1).trans h.box, (hb.block _ h.lt.2.1).trans h.t1, (hb.block _ h.lt.2.2).trans h.t2, h.ne, h.l1, h.l2, h.below.trans (hb.mono h.below.size)⟩
theorem Mid.alloc {w wr : World} {C : Array Value} {T1 T2 : Nat} {U1 U2 : List Int} (h : Mid w wr C T1 T2 U1 U2) (o : Obj) : Mid w (wr.alloc o) C T1 T2 U1 U2 := h.on ((Below.refl _ _).alloc (Nat.le_refl _) _)
theorem Mid.n1 {w wr w' : World} {C : Array Value} {T1 T2 : Nat} {U1 U2 V : List Int} (h : Mid w wr C T1 T2 U1 U2) (hg : wr.grownBy w' (some T1)) (ht : w'.heap[T1]? = some (.cells (uRow V) 3 (0, 0))) : Mid w w' C T1 T2 V U2 :=
  ⟨(hg.block _ h.lt.1 (fun e => by have := h.l1; have := Option.some.inj e; omega)).trans h.box, ht, (hg.block _ h.lt.2.2 (fun e => h.ne (Option.some.inj e).symm)).trans h.t2, h.ne, h.l1, h.l2, h.below.grown hg h.below.size (fun k hk => by cases hk; have := h.l1; omega)⟩
theorem Mid.n2 {w wr w' : World} {C : Array Value} {T1 T2 : Nat} {U1 U2 V : List Int} (h : Mid w wr C T1 T2 U1 U2) (hg : wr.grownBy w' (some T2)) (ht : w'.heap[T2]? = some (.cells (uRow V) 3 (0, 0))) : Mid w w' C T1 T2 U1 V :=
  ⟨(hg.block _ h.lt.1 (fun e => by have := h.l2; have := Option.some.inj e; omega)).trans h.box, (hg.block _ h.lt.2.1 (fun e => h.ne (Option.some.inj e))).trans h.t1, ht, h.ne, h.l1, h.l2, h.below.grown hg h.below.size (fun k hk => by cases hk; have := h.l2; omega)⟩
/-- the tree as it lies ahead of the call. -/
structure TreeIn (w : World) (gn gk gt gy k : Nat) (kd : Int) (na : Option Addr) (nn nc : Nat) (aq : Option Addr) (cq : Nat) (op : Bool) : Prop where
  n0 : ∀ i u, ([.int .i64 1, .int .i64 0, .string ⟨#[]⟩, .int .i64 0, .int .u64 0, .slice none 0 0, .slice none 0 0, .slice none 0 0, .int .i64 15, .int .i64 0, .string ⟨#[]⟩, .int .i64 0, .int .u64 0, .slice none 0 0, .slice (some ⟨gk, 0, none⟩) 1 1, .slice (some ⟨gt, 0, none⟩) 1 1] : List Value)[i]? = some u → w.cell? ⟨gn, i, none⟩ = some u
  ty : ∀ i j u, i < k → ([.int .i64 0, .int .i64 0, .string ⟨#[]⟩, .slice none 0 0, .slice none 0 0, .bool false] : List Value)[j]? = some u → w.cell? ⟨gy, i * 6 + j, none⟩ = some u
  tl : ∀ j u, ([.int .i64 kd, .int .i64 0, .string ⟨#[]⟩, .slice na nn nc, .slice aq k cq, .bool op] : List Value)[j]? = some u → w.cell? ⟨gy, k * 6 + j, none⟩ = some u
  kk : w.cell? ⟨gk, 0, none⟩ = some (.int .i64 0)
  kt : w.cell? ⟨gt, 0, none⟩ = some (.int .i64 (k : Int))
  kq : k = 0 ∨ ∃ gq, aq = some ⟨gq, 0, none⟩ ∧ gq < w.heap.size ∧ ∀ j, j < k → w.cell? ⟨gq, j, none⟩ = some (.int .i64 (j : Int))
  ln : gn < w.heap.size
  lk : gk < w.heap.size
  lt : gt < w.heap.size
  ly : gy < w.heap.size
def errB (b : Bool) : Int := if b then 0 else 14
def ErrPost (w : World) (b : Bool) (e : Ending) (w' : World) : Prop := e = .returned (.int .i64 (errB b)) ∧ Below w.heap.size w w'
theorem note_kids (w w5 : World) (T n k cq : Nat) (aq : Option Addr) (hT : w5.heap[T]? = some (.cells (uRow (U0 k)) 3 (0, 0))) (hn : k + 1 = n) (hq : k = 0 ∨ ∃ gq, aq = some ⟨gq, 0, none⟩ ∧ gq < w.heap.size ∧ ∀ j, j < k → w.cell? ⟨gq, j, none⟩ = some (.int .i64 (j : Int))) (hb : Below w.heap.size w w5) (hl : w.heap.size < T) (hk : k ≤ 1000) :
    Calls Tryz.prog 118 #[.slice (some ⟨T, 0, none⟩) n n, .slice aq k cq, .int .i64 (k : Int)] w5 fun e w' => e = .returned (.bool true) ∧ w'.heap[T]? = some (.cells (uRow (bumps (U0 k) (List.range k))) 3 (0, 0)) ∧ w5.grownBy w' (some T) := by
  rcases hq with rfl | ⟨gq, rfl, hg, hc⟩
  · refine (note_zero w5 T n n cq _ aq).mono ?_
    rintro e w' ⟨rfl, rfl⟩
    exact ⟨rfl, hT, ⟨rfl, rfl, rfl, Nat.le_refl _, fun _ _ _ => rfl⟩⟩
  · exact note_some w5 T n n gq 0 k cq (k : Int) (U0 k) (List.range k) (by rw [U0_len]; exact hn) hT (by simp) (Nat.lt_of_lt_of_le hg hb.size) (by omega) (Lib.hid (fun j q hj => by
      obtain ⟨h1, h2⟩ := List.getElem?_eq_some_iff.1 hj
      simp at h1 h2
      subst h2
      rw [Nat.zero_add]
      exact (hb.cell (p := ⟨gq, j, none⟩) hg).trans (hc j h1))) (Lib.hid (fun q hq => by
      have := List.mem_range.1 hq
      omega)) (Lib.hid (U0_small k)) (by omega) hk
set_option maxRecDepth 20000 in
set_option maxHeartbeats 4000000 in
theorem tree_check (w : World) (gn gk gt gy cy k : Nat) (kd : Int) (na : Option Addr) (nn nc : Nat) (NS : List ByteArray) (aq : Option Addr) (cq : Nat) (op : Bool) (hT : TreeIn w gn gk gt gy k kd na nn nc aq cq op) (hk : k ≤ 1000) (hN : NamesAt w na nn NS) (hn : nn ≤ 100000) (hz : ∀ s ∈ NS, s.size ≤ 100000) (hr : risesB NS = true) (h10 : kd ≠ 10) :
    Calls Tryz.prog 96 #[.agg #[.slice (some ⟨gn, 0, none⟩) 2 2, .slice (some ⟨gy, 0, none⟩) (k + 1) cy, .slice none 0 0]] w (ErrPost w (typB kd op nn k NS)) := by
  have HT := Lib.hid hT
  have HN := Lib.hid hN
  have HZ := Lib.hid hz
  have HR := Lib.hid hr
  have H10 := Lib.hid h10
  have HM0 : Hid (∀ o1 o2 V1 V2, o1 = Obj.cells (uRow V1) 3 → o2 = Obj.cells (uRow V2) 3 → (((w.alloc (.cells #[.slice (some ⟨gn, 0, none⟩) 2 2, .slice (some ⟨gy, 0, none⟩) (k + 1) cy, .slice none 0 0] 108)).alloc o1).alloc o2).heap[w.heap.size]? = some (.cells #[.slice (some ⟨gn, 0, none⟩) 2 2, .slice (some ⟨gy, 0, none⟩) (k + 1) cy, .slice none 0 0] 108 (0, 0)) ∧ (((w.alloc (.cells #[.slice (some ⟨gn, 0, none⟩) 2 2, .slice (some ⟨gy, 0, none⟩) (k + 1) cy, .slice none 0 0] 108)).alloc o1).alloc o2).heap[w.heap.size + 1]? = some o1 ∧ (((w.alloc (.cells #[.slice (some ⟨gn, 0, none⟩) 2 2, .slice (some ⟨gy, 0, none⟩) (k + 1) cy, .slice none 0 0] 108)).alloc o1).alloc o2).heap[w.heap.size + 1 + 1]? = some o2 ∧ Below w.heap.size w (((w.alloc (.cells #[.slice (some ⟨gn, 0, none⟩) 2 2, .slice (some ⟨gy, 0, none⟩) (k + 1) cy, .slice none 0 0] 108)).alloc o1).alloc o2)) := Lib.hid (fun o1 o2 V1 V2 e1 e2 => by
    refine ⟨?_, ?_, ?_, (((Below.refl _ _).alloc (Nat.le_refl _) _).alloc (by simp) _).alloc (by simp; omega) _⟩
    · rw [Below.heap_alloc _ _ _ (by simp; omega), Below.heap_alloc _ _ _ (by simp)]; exact heap_alloc_new w _
    · rw [Below.heap_alloc _ _ _ (by simp)]
      have := heap_alloc_new (w.alloc (.cells #[.slice (some ⟨gn, 0, none⟩) 2 2, .slice (some ⟨gy, 0, none⟩) (k + 1) cy, .slice none 0 0] 108)) o1
      simpa using this
    · have := heap_alloc_new ((w.alloc (.cells #[.slice (some ⟨gn, 0, none⟩) 2 2, .slice (some ⟨gy, 0, none⟩) (k + 1) cy, .slice none 0 0] 108)).alloc o1) o2
      simpa using this)
  generalize hNN : k + 1 = NN at *
  have hk2 : (NN : Int) ≤ 65536 := by omega
  have hm2 : ∀ w : World, (Instr.makeSlice 186 (.int .i64 2) (.int .i64 2)).run Tryz.prog w = .ok (.slice (some ⟨w.heap.size, 0, none⟩) 2 2) (w.alloc (.cells (uZ 2) 3)) := fun w => make_run 2 (by omega) w
  have hmN : ∀ w : World, (Instr.makeSlice 186 (.int .i64 (NN : Int)) (.int .i64 (NN : Int))).run Tryz.prog w = .ok (.slice (some ⟨w.heap.size, 0, none⟩) NN NN) (w.alloc (.cells (uZ NN) 3)) := fun w => make_run NN (by omega) w
  have HNN := Lib.hid hNN
  clear hNN hT hN hz hr h10
  go_enter Tryz.func96, Tryz.ntmps96
  go_upto_region 3 with (fail)
  go_cut [3, 4] (fun t3 t4 wc => ∃ T1 T2 : Nat, t3 = .slice (some ⟨T1, 0, none⟩) 2 2 ∧ t4 = .slice (some ⟨T2, 0, none⟩) NN NN ∧ Hid (Mid w wc #[.slice (some ⟨gn, 0, none⟩) 2 2, .slice (some ⟨gy, 0, none⟩) NN cy, .slice none 0 0] T1 T2 [0, 0] (List.replicate NN 0)))
  case first =>
    go_region
    · go_wp2
      go_meet
      case rel =>
        obtain ⟨q1, q2, q3, q4⟩ := HM0.out (.cells (uZ 2) 3) (.cells (uZ NN) 3) [0, 0] (List.replicate NN 0) rfl rfl
        exact ⟨_, _, rfl, rfl, Lib.hid ⟨q1, q2, q3, by omega, by omega, by omega, q4.drew⟩⟩
    · go_wp2
      go_meet
      case rel =>
        obtain ⟨q1, q2, q3, q4⟩ := HM0.out (.cells (uZ NN) 3) (.cells (uZ 2) 3) (List.replicate NN 0) [0, 0] rfl rfl
        exact ⟨_, _, rfl, rfl, Lib.hid ⟨q1, q3, q2, by omega, by omega, by omega, q4.drew⟩⟩
  case rest =>
    obtain ⟨T1, T2, rfl, rfl, HM⟩ := hcut
    clear hm2 hmN HM0
    have x0 : wc.cell? ⟨w.heap.size, 0, none⟩ = some (.slice (some ⟨gn, 0, none⟩) 2 2) := by rw [cell_of_row _ _ 0 _ 108 _ HM.out.box]; rfl
    go_wp2
    clear x0
    go_loopw [39] (fun s39 wr => (s39 = .int .i64 0 ∧ Hid (Mid w wr #[.slice (some ⟨gn, 0, none⟩) 2 2, .slice (some ⟨gy, 0, none⟩) NN cy, .slice none 0 0] T1 T2 [0, 0] (List.replicate NN 0))) ∨ (s39 = .int .i64 1 ∧ Hid (Mid w wr #[.slice (some ⟨gn, 0, none⟩) 2 2, .slice (some ⟨gy, 0, none⟩) NN cy, .slice none 0 0] T1 T2 [0, 0] (List.replicate NN 0))) ∨ (s39 = .int .i64 2 ∧ Hid (Mid w wr #[.slice (some ⟨gn, 0, none⟩) 2 2, .slice (some ⟨gy, 0, none⟩) NN cy, .slice none 0 0] T1 T2 [1, 0] (U0 k)))) (fun s39 _ => 2 - (intOf s39).toNat)
    case atStart => exact Or.inl ⟨rfl, HM⟩
    case round =>
      clear HM
      rcases hrel with ⟨rfl, HM⟩ | ⟨rfl, HM⟩ | ⟨rfl, HM⟩
      · have n0 : wr.cell? ⟨gn, 0, none⟩ = some (.int .i64 1) := by rw [← HT.out.n0 0 _ rfl]; exact HM.out.below.cell (p := ⟨gn, 0, none⟩) HT.out.ln
        have n1 : wr.cell? ⟨gn, 1, none⟩ = some (.int .i64 0) := by rw [← HT.out.n0 1 _ rfl]; exact HM.out.below.cell (p := ⟨gn, 1, none⟩) HT.out.ln
        have n2 : wr.cell? ⟨gn, 2, none⟩ = some (.string ⟨#[]⟩) := by rw [← HT.out.n0 2 _ rfl]; exact HM.out.below.cell (p := ⟨gn, 2, none⟩) HT.out.ln
        have n3 : wr.cell? ⟨gn, 3, none⟩ = some (.int .i64 0) := by rw [← HT.out.n0 3 _ rfl]; exact HM.out.below.cell (p := ⟨gn, 3, none⟩) HT.out.ln
        have n4 : wr.cell? ⟨gn, 4, none⟩ = some (.int .u64 0) := by rw [← HT.out.n0 4 _ rfl]; exact HM.out.below.cell (p := ⟨gn, 4, none⟩) HT.out.ln
        have n5 : wr.cell? ⟨gn, 5, none⟩ = some (.slice none 0 0) := by rw [← HT.out.n0 5 _ rfl]; exact HM.out.below.cell (p := ⟨gn, 5, none⟩) HT.out.ln
        have n6 : wr.cell? ⟨gn, 6, none⟩ = some (.slice none 0 0) := by rw [← HT.out.n0 6 _ rfl]; exact HM.out.below.cell (p := ⟨gn, 6, none⟩) HT.out.ln
        have n7 : wr.cell? ⟨gn, 7, none⟩ = some (.slice none 0 0) := by rw [← HT.out.n0 7 _ rfl]; exact HM.out.below.cell (p := ⟨gn, 7, none⟩) HT.out.ln
        have HNB : Hid ((wr.alloc (.cells #[.int .i64 1, .int .i64 0, .string ⟨#[]⟩, .int .i64 0, .int .u64 0, .slice none 0 0, .slice none 0 0, .slice none 0 0] 156)).heap[wr.heap.size]? = some (.cells #[.int .i64 1, .int .i64 0, .string ⟨#[]⟩, .int .i64 0, .int .u64 0, .slice none 0 0, .slice none 0 0, .slice none 0 0] 156 (0, 0))) := Lib.hid (heap_alloc_new wr _)
        have HMA := Lib.hid (HM.out.alloc (.cells #[.int .i64 1, .int .i64 0, .string ⟨#[]⟩, .int .i64 0, .int .u64 0, .slice none 0 0, .slice none 0 0, .slice none 0 0] 156))
        have HLT : Hid (T1 < wr.heap.size ∧ T2 < wr.heap.size ∧ w.heap.size < wr.heap.size) := Lib.hid ⟨HM.out.lt.2.1, HM.out.lt.2.2, HM.out.lt.1⟩
        go_upto_region 7 with (fail)
        clear n0 n1 n2 n3 n4 n5 n6 n7
        generalize (wr.alloc (.cells #[.int .i64 1, .int .i64 0, .string ⟨#[]⟩, .int .i64 0, .int .u64 0, .slice none 0 0, .slice none 0 0, .slice none 0 0] 156)) = wa at *
        generalize wr.heap.size = B6 at *
        have p0 : wa.cell? ⟨B6, 0, none⟩ = some (.int .i64 1) := (by rw [cell_of_row _ _ 0 _ 156 _ HNB.out]; rfl)
        have p1 : wa.cell? ⟨B6, 1, none⟩ = some (.int .i64 0) := (by rw [cell_of_row _ _ 1 _ 156 _ HNB.out]; rfl)
        have p2 : wa.cell? ⟨B6, 2, none⟩ = some (.string ⟨#[]⟩) := (by rw [cell_of_row _ _ 2 _ 156 _ HNB.out]; rfl)
        have p3 : wa.cell? ⟨B6, 3, none⟩ = some (.int .i64 0) := (by rw [cell_of_row _ _ 3 _ 156 _ HNB.out]; rfl)
        have p4 : wa.cell? ⟨B6, 4, none⟩ = some (.int .u64 0) := (by rw [cell_of_row _ _ 4 _ 156 _ HNB.out]; rfl)
        have p5 : wa.cell? ⟨B6, 5, none⟩ = some (.slice none 0 0) := (by rw [cell_of_row _ _ 5 _ 156 _ HNB.out]; rfl)
        have p6 : wa.cell? ⟨B6, 6, none⟩ = some (.slice none 0 0) := (by rw [cell_of_row _ _ 6 _ 156 _ HNB.out]; rfl)
        have p7 : wa.cell? ⟨B6, 7, none⟩ = some (.slice none 0 0) := (by rw [cell_of_row _ _ 7 _ 156 _ HNB.out]; rfl)
        have x1 : wa.cell? ⟨w.heap.size, 1, none⟩ = some (.slice (some ⟨gy, 0, none⟩) NN cy) := by rw [cell_of_row _ _ 1 _ 108 _ HMA.out.box]; rfl
        go_wp2_with (first | (go_at_call 117; refine (term_1 _).mono ?_; rintro e w5 ⟨rfl, hb5⟩; have HM5 := Lib.hid (HMA.out.on hb5); have HN5 := Lib.hid ((hb5.block B6 (Array.getElem?_eq_some_iff.1 HNB.out).1).trans HNB.out); have r6 : w5.cell? ⟨B6, 6, none⟩ = some (.slice none 0 0) := (by rw [cell_of_row _ _ 6 _ 156 _ HN5.out]; rfl); have r7 : w5.cell? ⟨B6, 7, none⟩ = some (.slice none 0 0) := (by rw [cell_of_row _ _ 7 _ 156 _ HN5.out]; rfl); have x5 : w5.cell? ⟨w.heap.size, 1, none⟩ = some (.slice (some ⟨gy, 0, none⟩) NN cy) := (by rw [cell_of_row _ _ 1 _ 108 _ HM5.out.box]; rfl); clear hb5) | (go_at_call 118; refine (note_zero _ _ _ _ _ _ _).mono ?_; rintro e w' ⟨rfl, rfl⟩))
        go_roundw
        case rel => exact Or.inr (Or.inl ⟨rfl, HM5⟩)
        case measure => simp [intOf]
      · have n0 : wr.cell? ⟨gn, 8, none⟩ = some (.int .i64 15) := by rw [← HT.out.n0 8 _ rfl]; exact HM.out.below.cell (p := ⟨gn, 8, none⟩) HT.out.ln
        have n1 : wr.cell? ⟨gn, 9, none⟩ = some (.int .i64 0) := by rw [← HT.out.n0 9 _ rfl]; exact HM.out.below.cell (p := ⟨gn, 9, none⟩) HT.out.ln
        have n2 : wr.cell? ⟨gn, 10, none⟩ = some (.string ⟨#[]⟩) := by rw [← HT.out.n0 10 _ rfl]; exact HM.out.below.cell (p := ⟨gn, 10, none⟩) HT.out.ln
        have n3 : wr.cell? ⟨gn, 11, none⟩ = some (.int .i64 0) := by rw [← HT.out.n0 11 _ rfl]; exact HM.out.below.cell (p := ⟨gn, 11, none⟩) HT.out.ln
        have n4 : wr.cell? ⟨gn, 12, none⟩ = some (.int .u64 0) := by rw [← HT.out.n0 12 _ rfl]; exact HM.out.below.cell (p := ⟨gn, 12, none⟩) HT.out.ln
        have n5 : wr.cell? ⟨gn, 13, none⟩ = some (.slice none 0 0) := by rw [← HT.out.n0 13 _ rfl]; exact HM.out.below.cell (p := ⟨gn, 13, none⟩) HT.out.ln
        have n6 : wr.cell? ⟨gn, 14, none⟩ = some (.slice (some ⟨gk, 0, none⟩) 1 1) := by rw [← HT.out.n0 14 _ rfl]; exact HM.out.below.cell (p := ⟨gn, 14, none⟩) HT.out.ln
        have n7 : wr.cell? ⟨gn, 15, none⟩ = some (.slice (some ⟨gt, 0, none⟩) 1 1) := by rw [← HT.out.n0 15 _ rfl]; exact HM.out.below.cell (p := ⟨gn, 15, none⟩) HT.out.ln
        have HNB : Hid ((wr.alloc (.cells #[.int .i64 15, .int .i64 0, .string ⟨#[]⟩, .int .i64 0, .int .u64 0, .slice none 0 0, .slice (some ⟨gk, 0, none⟩) 1 1, .slice (some ⟨gt, 0, none⟩) 1 1] 156)).heap[wr.heap.size]? = some (.cells #[.int .i64 15, .int .i64 0, .string ⟨#[]⟩, .int .i64 0, .int .u64 0, .slice none 0 0, .slice (some ⟨gk, 0, none⟩) 1 1, .slice (some ⟨gt, 0, none⟩) 1 1] 156 (0, 0))) := Lib.hid (heap_alloc_new wr _)
        have HMA := Lib.hid (HM.out.alloc (.cells #[.int .i64 15, .int .i64 0, .string ⟨#[]⟩, .int .i64 0, .int .u64 0, .slice none 0 0, .slice (some ⟨gk, 0, none⟩) 1 1, .slice (some ⟨gt, 0, none⟩) 1 1] 156))
        have HLT : Hid (T1 < wr.heap.size ∧ T2 < wr.heap.size ∧ w.heap.size < wr.heap.size) := Lib.hid ⟨HM.out.lt.2.1, HM.out.lt.2.2, HM.out.lt.1⟩
        go_upto_region 7 with (fail)
        clear n0 n1 n2 n3 n4 n5 n6 n7
        generalize (wr.alloc (.cells #[.int .i64 15, .int .i64 0, .string ⟨#[]⟩, .int .i64 0, .int .u64 0, .slice none 0 0, .slice (some ⟨gk, 0, none⟩) 1 1, .slice (some ⟨gt, 0, none⟩) 1 1] 156)) = wa at *
        generalize wr.heap.size = B6 at *
        have p0 : wa.cell? ⟨B6, 0, none⟩ = some (.int .i64 15) := (by rw [cell_of_row _ _ 0 _ 156 _ HNB.out]; rfl)
        have p1 : wa.cell? ⟨B6, 1, none⟩ = some (.int .i64 0) := (by rw [cell_of_row _ _ 1 _ 156 _ HNB.out]; rfl)
        have p2 : wa.cell? ⟨B6, 2, none⟩ = some (.string ⟨#[]⟩) := (by rw [cell_of_row _ _ 2 _ 156 _ HNB.out]; rfl)
        have p3 : wa.cell? ⟨B6, 3, none⟩ = some (.int .i64 0) := (by rw [cell_of_row _ _ 3 _ 156 _ HNB.out]; rfl)
        have p4 : wa.cell? ⟨B6, 4, none⟩ = some (.int .u64 0) := (by rw [cell_of_row _ _ 4 _ 156 _ HNB.out]; rfl)
        have p5 : wa.cell? ⟨B6, 5, none⟩ = some (.slice none 0 0) := (by rw [cell_of_row _ _ 5 _ 156 _ HNB.out]; rfl)
        have p6 : wa.cell? ⟨B6, 6, none⟩ = some (.slice (some ⟨gk, 0, none⟩) 1 1) := (by rw [cell_of_row _ _ 6 _ 156 _ HNB.out]; rfl)
        have p7 : wa.cell? ⟨B6, 7, none⟩ = some (.slice (some ⟨gt, 0, none⟩) 1 1) := (by rw [cell_of_row _ _ 7 _ 156 _ HNB.out]; rfl)
        have x1 : wa.cell? ⟨w.heap.size, 1, none⟩ = some (.slice (some ⟨gy, 0, none⟩) NN cy) := by rw [cell_of_row _ _ 1 _ 108 _ HMA.out.box]; rfl
        go_wp2_with (first | (go_at_call 117; refine (term_15 _ _ _).mono ?_; rintro e w5 ⟨rfl, hb5⟩; have HM5 := Lib.hid (HMA.out.on hb5); have HN5 := Lib.hid ((hb5.block B6 (Array.getElem?_eq_some_iff.1 HNB.out).1).trans HNB.out); have r6 : w5.cell? ⟨B6, 6, none⟩ = some (.slice (some ⟨gk, 0, none⟩) 1 1) := (by rw [cell_of_row _ _ 6 _ 156 _ HN5.out]; rfl); have r7 : w5.cell? ⟨B6, 7, none⟩ = some (.slice (some ⟨gt, 0, none⟩) 1 1) := (by rw [cell_of_row _ _ 7 _ 156 _ HN5.out]; rfl); have x5 : w5.cell? ⟨w.heap.size, 1, none⟩ = some (.slice (some ⟨gy, 0, none⟩) NN cy) := (by rw [cell_of_row _ _ 1 _ 108 _ HM5.out.box]; rfl); clear hb5; have HA1 := Lib.hid (show gk < w5.heap.size from Nat.lt_of_lt_of_le HT.out.lk HM5.out.below.size); have HA2 := Lib.hid (show gk ≠ T1 from (by have h1 := HT.out.lk; have h2 := HM5.out.l1; omega)); have HA3 : Hid (∀ (j q : Nat), [0][j]? = some q → w5.cell? ⟨gk, 0 + j, none⟩ = some (.int .i64 (q : Int))) := Lib.hid (fun j q hj => by (have hj0 : j = 0 := by (have := (List.getElem?_eq_some_iff.1 hj).1; simp at this; exact this)); subst hj0; simp at hj; subst hj; exact (HM5.out.below.cell (p := ⟨gk, 0, none⟩) HT.out.lk).trans HT.out.kk); have HA4 : Hid (∀ q ∈ [0], q < 2 ∧ ((q : Nat) : Int) < 1) := Lib.hid (by simp); have HA5 : Hid (Small 1000 [0, 0]) := Lib.hid (zeros_small 2); have HK1 : Hid (Calls Tryz.prog 118 #[.slice (some ⟨T1, 0, none⟩) 2 2, .slice (some ⟨gk, 0, none⟩) 1 1, .int .i64 1] w5 fun e w' => e = .returned (.bool true) ∧ w'.heap[T1]? = some (.cells (uRow (bumps [0, 0] [0])) 3 (0, 0)) ∧ w5.grownBy w' (some T1)) := Lib.hid (note_some w5 T1 2 2 gk 0 1 1 1 [0, 0] [0] rfl HM5.out.t1 rfl HA1.out HA2.out HA3 HA4 HA5 (by omega) (by omega))) | (go_at_call 118; (with_reducible refine HK1.out.mono ?_); rintro e w6 ⟨rfl, ht6, hg6⟩; have HM6 := Lib.hid (HM5.out.n1 hg6 ht6); have HN6 := Lib.hid ((hg6.block B6 (Array.getElem?_eq_some_iff.1 HN5.out).1 (by have := HLT.out; intro e; have := Option.some.inj e; omega)).trans HN5.out); have s6 : w6.cell? ⟨B6, 6, none⟩ = some (.slice (some ⟨gk, 0, none⟩) 1 1) := (by rw [cell_of_row _ _ 6 _ 156 _ HN6.out]; rfl); have s7 : w6.cell? ⟨B6, 7, none⟩ = some (.slice (some ⟨gt, 0, none⟩) 1 1) := (by rw [cell_of_row _ _ 7 _ 156 _ HN6.out]; rfl); have x6 : w6.cell? ⟨w.heap.size, 1, none⟩ = some (.slice (some ⟨gy, 0, none⟩) NN cy) := (by rw [cell_of_row _ _ 1 _ 108 _ HM6.out.box]; rfl); clear ht6 hg6; have HB1 := Lib.hid (show gt < w6.heap.size from Nat.lt_of_lt_of_le HT.out.lt HM6.out.below.size); have HB2 := Lib.hid (show gt ≠ T2 from (by have h1 := HT.out.lt; have h2 := HM6.out.l2; omega)); have HB3 : Hid (∀ (j q : Nat), [k][j]? = some q → w6.cell? ⟨gt, 0 + j, none⟩ = some (.int .i64 (q : Int))) := Lib.hid (fun j q hj => by (have hj0 : j = 0 := by (have := (List.getElem?_eq_some_iff.1 hj).1; simp at this; exact this)); subst hj0; simp at hj; subst hj; exact (HM6.out.below.cell (p := ⟨gt, 0, none⟩) HT.out.lt).trans HT.out.kt); have HB4 : Hid (∀ q ∈ [k], q < NN ∧ ((q : Nat) : Int) < (NN : Int)) := Lib.hid (by have := HNN.out; simp; omega); have HB5 : Hid (Small 1000 (List.replicate NN 0)) := Lib.hid (zeros_small NN); have HK2 : Hid (Calls Tryz.prog 118 #[.slice (some ⟨T2, 0, none⟩) NN NN, .slice (some ⟨gt, 0, none⟩) 1 1, .int .i64 (NN : Int)] w6 fun e w' => e = .returned (.bool true) ∧ w'.heap[T2]? = some (.cells (uRow (bumps (List.replicate NN 0) [k])) 3 (0, 0)) ∧ w6.grownBy w' (some T2)) := Lib.hid (note_some w6 T2 NN NN gt 0 1 1 NN (List.replicate NN 0) [k] (by simp) HM6.out.t2 rfl HB1.out HB2.out HB3 HB4 HB5 (by omega) (by omega))) | (go_at_call 118; (with_reducible refine HK2.out.mono ?_); rintro e w7 ⟨rfl, ht7, hg7⟩; have HM7 := Lib.hid (HM6.out.n2 hg7 ht7); clear ht7 hg7))
        go_roundw
        case rel => exact Or.inr (Or.inr ⟨rfl, Lib.hid (by have h := HM7.out; rw [← HNN.out] at h; rw [← HNN.out]; exact h)⟩)
        case measure => simp [intOf]
      · obtain ⟨wn, rfl⟩ : ∃ wn : World, wn = wr := ⟨_, rfl⟩
        have x1 : wn.cell? ⟨w.heap.size, 1, none⟩ = some (.slice (some ⟨gy, 0, none⟩) NN cy) := by rw [cell_of_row _ _ 1 _ 108 _ HM.out.box]; rfl
        have x0 : wn.cell? ⟨w.heap.size, 0, none⟩ = some (.slice (some ⟨gn, 0, none⟩) 2 2) := by rw [cell_of_row _ _ 0 _ 108 _ HM.out.box]; rfl
        go_wp2
        clear x1 x0
        go_loopw [69] (fun s69 wr => ∃ i : Nat, i ≤ NN ∧ s69 = .int .i64 (i : Int) ∧ Hid (i = NN → typB kd op nn k NS = true) ∧ Hid (Mid w wr #[.slice (some ⟨gn, 0, none⟩) 2 2, .slice (some ⟨gy, 0, none⟩) NN cy, .slice none 0 0] T1 T2 [1, 0] (if i = NN then bumps (U0 k) (List.range k) else U0 k))) (fun s69 _ => NN - (intOf s69).toNat)
        case atStart => exact ⟨0, by omega, rfl, Lib.hid (fun h => by have := HNN.out; omega), Lib.hid (by rw [if_neg (by have := HNN.out; omega)]; exact HM.out)⟩
        case round =>
          clear HM
          obtain ⟨i, hi, rfl, HTB, HM⟩ := hrel
          have hwi : IntKind.i64.wrap ((i : Int) + 1) = (i : Int) + 1 := by rw [IntKind.wrap_i64]; omega
          by_cases hiN : i < NN
          · have hiN2 : (i : Int) < NN := by omega
            rw [if_neg (by omega)] at HM
            by_cases hik : i < k
            · have n0 : wr.cell? ⟨gy, i * 6, none⟩ = some (.int .i64 0) := by have h := HT.out.ty i 0 _ hik rfl; rw [← h]; exact HM.out.below.cell (p := ⟨gy, _, none⟩) HT.out.ly
              have n1 : wr.cell? ⟨gy, i * 6 + 1, none⟩ = some (.int .i64 0) := by have h := HT.out.ty i 1 _ hik rfl; rw [← h]; exact HM.out.below.cell (p := ⟨gy, _, none⟩) HT.out.ly
              have n2 : wr.cell? ⟨gy, i * 6 + 2, none⟩ = some (.string ⟨#[]⟩) := by have h := HT.out.ty i 2 _ hik rfl; rw [← h]; exact HM.out.below.cell (p := ⟨gy, _, none⟩) HT.out.ly
              have n3 : wr.cell? ⟨gy, i * 6 + 3, none⟩ = some (.slice none 0 0) := by have h := HT.out.ty i 3 _ hik rfl; rw [← h]; exact HM.out.below.cell (p := ⟨gy, _, none⟩) HT.out.ly
              have n4 : wr.cell? ⟨gy, i * 6 + 4, none⟩ = some (.slice none 0 0) := by have h := HT.out.ty i 4 _ hik rfl; rw [← h]; exact HM.out.below.cell (p := ⟨gy, _, none⟩) HT.out.ly
              have n5 : wr.cell? ⟨gy, i * 6 + 5, none⟩ = some (.bool false) := by have h := HT.out.ty i 5 _ hik rfl; rw [← h]; exact HM.out.below.cell (p := ⟨gy, _, none⟩) HT.out.ly
              have HNB : Hid ((wr.alloc (.cells #[.int .i64 0, .int .i64 0, .string ⟨#[]⟩, .slice none 0 0, .slice none 0 0, .bool false] 152)).heap[wr.heap.size]? = some (.cells #[.int .i64 0, .int .i64 0, .string ⟨#[]⟩, .slice none 0 0, .slice none 0 0, .bool false] 152 (0, 0))) := Lib.hid (heap_alloc_new wr _)
              have HMA := Lib.hid (HM.out.alloc (.cells #[.int .i64 0, .int .i64 0, .string ⟨#[]⟩, .slice none 0 0, .slice none 0 0, .bool false] 152))
              have HLT : Hid (T1 < wr.heap.size ∧ T2 < wr.heap.size ∧ w.heap.size < wr.heap.size) := Lib.hid ⟨HM.out.lt.2.1, HM.out.lt.2.2, HM.out.lt.1⟩
              go_upto_region 13 with (fail)
              clear n0 n1 n2 n3 n4 n5
              generalize (wr.alloc (.cells #[.int .i64 0, .int .i64 0, .string ⟨#[]⟩, .slice none 0 0, .slice none 0 0, .bool false] 152)) = wa at *
              generalize wr.heap.size = B8 at *
              have p0 : wa.cell? ⟨B8, 0, none⟩ = some (.int .i64 0) := (by rw [cell_of_row _ _ 0 _ 152 _ HNB.out]; rfl)
              have p1 : wa.cell? ⟨B8, 1, none⟩ = some (.int .i64 0) := (by rw [cell_of_row _ _ 1 _ 152 _ HNB.out]; rfl)
              have p2 : wa.cell? ⟨B8, 2, none⟩ = some (.string ⟨#[]⟩) := (by rw [cell_of_row _ _ 2 _ 152 _ HNB.out]; rfl)
              have p3 : wa.cell? ⟨B8, 3, none⟩ = some (.slice none 0 0) := (by rw [cell_of_row _ _ 3 _ 152 _ HNB.out]; rfl)
              have p4 : wa.cell? ⟨B8, 4, none⟩ = some (.slice none 0 0) := (by rw [cell_of_row _ _ 4 _ 152 _ HNB.out]; rfl)
              have p5 : wa.cell? ⟨B8, 5, none⟩ = some (.bool false) := (by rw [cell_of_row _ _ 5 _ 152 _ HNB.out]; rfl)
              have HTY := Lib.hid (typ_any wa 0 0 none 0 0 [] none 0 0 false ⟨rfl, Or.inl rfl⟩ (by omega) (by omega) (fun s hs => by simp at hs) rfl (by decide))
              rw [show typB 0 false 0 0 [] = true from by decide] at HTY
              go_wp2_with (first | (go_at_call 119; (with_reducible refine HTY.out.mono ?_); rintro e w5 ⟨rfl, hb5⟩; have HM5 := Lib.hid (HMA.out.on hb5); have HN5 := Lib.hid ((hb5.block B8 (Array.getElem?_eq_some_iff.1 HNB.out).1).trans HNB.out); have r4 : w5.cell? ⟨B8, 4, none⟩ = some (.slice none 0 0) := (by rw [cell_of_row _ _ 4 _ 152 _ HN5.out]; rfl); clear hb5) | (go_at_call 118; refine (note_zero _ _ _ _ _ _ _).mono ?_; rintro e w' ⟨rfl, rfl⟩))
              go_roundw
              case rel => exact ⟨i + 1, by omega, by go_num, Lib.hid (fun h => by have := HNN.out; omega), Lib.hid (by rw [if_neg (by have := HNN.out; omega)]; exact HM5.out)⟩
              case measure => simp [intOf]; omega
            · obtain rfl : k = i := by have := HNN.out; omega
              have n0 : wr.cell? ⟨gy, k * 6, none⟩ = some (.int .i64 kd) := by have h := HT.out.tl 0 _ rfl; rw [← h]; exact HM.out.below.cell (p := ⟨gy, _, none⟩) HT.out.ly
              have n1 : wr.cell? ⟨gy, k * 6 + 1, none⟩ = some (.int .i64 0) := by have h := HT.out.tl 1 _ rfl; rw [← h]; exact HM.out.below.cell (p := ⟨gy, _, none⟩) HT.out.ly
              have n2 : wr.cell? ⟨gy, k * 6 + 2, none⟩ = some (.string ⟨#[]⟩) := by have h := HT.out.tl 2 _ rfl; rw [← h]; exact HM.out.below.cell (p := ⟨gy, _, none⟩) HT.out.ly
              have n3 : wr.cell? ⟨gy, k * 6 + 3, none⟩ = some (.slice na nn nc) := by have h := HT.out.tl 3 _ rfl; rw [← h]; exact HM.out.below.cell (p := ⟨gy, _, none⟩) HT.out.ly
              have n4 : wr.cell? ⟨gy, k * 6 + 4, none⟩ = some (.slice aq k cq) := by have h := HT.out.tl 4 _ rfl; rw [← h]; exact HM.out.below.cell (p := ⟨gy, _, none⟩) HT.out.ly
              have n5 : wr.cell? ⟨gy, k * 6 + 5, none⟩ = some (.bool op) := by have h := HT.out.tl 5 _ rfl; rw [← h]; exact HM.out.below.cell (p := ⟨gy, _, none⟩) HT.out.ly
              have HNB : Hid ((wr.alloc (.cells #[.int .i64 kd, .int .i64 0, .string ⟨#[]⟩, .slice na nn nc, .slice aq k cq, .bool op] 152)).heap[wr.heap.size]? = some (.cells #[.int .i64 kd, .int .i64 0, .string ⟨#[]⟩, .slice na nn nc, .slice aq k cq, .bool op] 152 (0, 0))) := Lib.hid (heap_alloc_new wr _)
              have HMA := Lib.hid (HM.out.alloc (.cells #[.int .i64 kd, .int .i64 0, .string ⟨#[]⟩, .slice na nn nc, .slice aq k cq, .bool op] 152))
              have HLT : Hid (T1 < wr.heap.size ∧ T2 < wr.heap.size ∧ w.heap.size < wr.heap.size) := Lib.hid ⟨HM.out.lt.2.1, HM.out.lt.2.2, HM.out.lt.1⟩
              go_upto_region 13 with (fail)
              clear n0 n1 n2 n3 n4 n5
              generalize (wr.alloc (.cells #[.int .i64 kd, .int .i64 0, .string ⟨#[]⟩, .slice na nn nc, .slice aq k cq, .bool op] 152)) = wa at *
              generalize wr.heap.size = B8 at *
              have p0 : wa.cell? ⟨B8, 0, none⟩ = some (.int .i64 kd) := (by rw [cell_of_row _ _ 0 _ 152 _ HNB.out]; rfl)
              have p1 : wa.cell? ⟨B8, 1, none⟩ = some (.int .i64 0) := (by rw [cell_of_row _ _ 1 _ 152 _ HNB.out]; rfl)
              have p2 : wa.cell? ⟨B8, 2, none⟩ = some (.string ⟨#[]⟩) := (by rw [cell_of_row _ _ 2 _ 152 _ HNB.out]; rfl)
              have p3 : wa.cell? ⟨B8, 3, none⟩ = some (.slice na nn nc) := (by rw [cell_of_row _ _ 3 _ 152 _ HNB.out]; rfl)
              have p4 : wa.cell? ⟨B8, 4, none⟩ = some (.slice aq k cq) := (by rw [cell_of_row _ _ 4 _ 152 _ HNB.out]; rfl)
              have p5 : wa.cell? ⟨B8, 5, none⟩ = some (.bool op) := (by rw [cell_of_row _ _ 5 _ 152 _ HNB.out]; rfl)
              have HTY := Lib.hid (typ_any wa kd 0 na nn nc NS aq k cq op (HN.out.on ⟨HMA.out.below.os, HMA.out.below.tape, HMA.out.below.output, HMA.out.below.size, HMA.out.below.block⟩) hn (by omega) HZ.out HR.out H10.out)
              cases hty : typB kd op nn k NS with
              | false =>
                rw [hty] at HTY
                have HTF := Lib.hid hty
                clear hty
                go_wp2_with (go_at_call 119; (with_reducible refine HTY.out.mono ?_); rintro e w5 ⟨rfl, hb5⟩)
                go_ret
                exact ⟨by rw [HTF.out]; rfl, HMA.out.below.trans (hb5.mono HMA.out.below.size)⟩
              | true =>
                rw [hty] at HTY
                have HTF := Lib.hid hty
                clear hty
                go_wp2_with (first | (go_at_call 119; (with_reducible refine HTY.out.mono ?_); rintro e w5 ⟨rfl, hb5⟩; have HM5 := Lib.hid (HMA.out.on hb5); have HN5 := Lib.hid ((hb5.block B8 (Array.getElem?_eq_some_iff.1 HNB.out).1).trans HNB.out); have r4 : w5.cell? ⟨B8, 4, none⟩ = some (.slice aq k cq) := (by rw [cell_of_row _ _ 4 _ 152 _ HN5.out]; rfl); clear hb5; have HK2 : Hid (Calls Tryz.prog 118 #[.slice (some ⟨T2, 0, none⟩) NN NN, .slice aq k cq, .int .i64 (k : Int)] w5 (fun e w' => e = .returned (.bool true) ∧ w'.heap[T2]? = some (.cells (uRow (bumps (U0 k) (List.range k))) 3 (0, 0)) ∧ w5.grownBy w' (some T2))) := Lib.hid (note_kids w w5 T2 NN k cq aq HM5.out.t2 HNN.out HT.out.kq HM5.out.below HM5.out.l2 hk)) | (go_at_call 118; (with_reducible refine HK2.out.mono ?_); rintro e w6 ⟨rfl, ht6, hg6⟩; have HM6 := Lib.hid (HM5.out.n2 hg6 ht6); clear ht6 hg6))
                go_roundw
                case rel => exact ⟨k + 1, by omega, by go_num, Lib.hid (fun _ => HTF.out), Lib.hid (by rw [if_pos HNN.out]; exact HM6.out)⟩
                case measure => simp [intOf]; omega
          · have hiN2 : ¬ (i : Int) < NN := by omega
            obtain rfl : i = NN := by omega
            rw [if_pos rfl] at HM
            obtain ⟨wf, rfl⟩ : ∃ wf : World, wf = wr := ⟨_, rfl⟩
            have x2 : wf.cell? ⟨w.heap.size, 2, none⟩ = some (.slice none 0 0) := by rw [cell_of_row _ _ 2 _ 108 _ HM.out.box]; rfl
            have y1 : wf.cell? ⟨T1, 1, none⟩ = some (.int .i64 0) := by rw [cell_of_row _ T1 1 _ 3 _ HM.out.t1]; rfl
            have f1 : wf.frozen? ⟨T1, 1, none⟩ = false := frozen_of_row _ _ 1 _ 3 HM.out.t1
            go_wp2
            go_loop [89] (fun s89 => s89 = .int .i64 0) (fun _ => 0)
            case atStart => exact rfl
            case round =>
              obtain rfl := hrel
              have HT1 : Hid ((wf.setCell ⟨T1, 1, none⟩ (.int .i64 1)).heap[T1]? = some (.cells (uRow [1, 1]) 3 (0, 0))) := Lib.hid (set_heap wf T1 1 [1, 0] 1 HM.out.t1)
              have HT2 : Hid ((wf.setCell ⟨T1, 1, none⟩ (.int .i64 1)).heap[T2]? = some (.cells (uRow (bumps (U0 k) (List.range k))) 3 (0, 0))) := Lib.hid ((Below.heap_setCell _ _ _ _ (fun e => HM.out.ne e.symm)).trans HM.out.t2)
              have HBE : Hid (Below w.heap.size w (wf.setCell ⟨T1, 1, none⟩ (.int .i64 1))) := Lib.hid (HM.out.below.setCell (p := ⟨T1, 1, none⟩) (by have := HM.out.l1; show w.heap.size ≤ T1; omega) _)
              have HTF := Lib.hid (HTB.out (by first | exact True.intro | rfl))
              have HLN : Hid ((bumps (U0 k) (List.range k)).length = i) := Lib.hid (by rw [bumps_len, U0_len]; exact HNN.out)
              go_upto_region 23 with (fail)
              generalize (wf.setCell ⟨T1, 1, none⟩ (.int .i64 1)) = we at *
              have HO1 := Lib.hid (odds_ones we T1 2 2 [1, 1] rfl HT1.out (fun x hx => by simp at hx; exact hx) (by omega))
              have HO2 := Lib.hid (odds_ones we T2 i i (bumps (U0 k) (List.range k)) HLN.out HT2.out (U0_ones k) (by omega))
              go_wp2_with (first | (go_at_call 122; (with_reducible refine HO1.out.mono ?_); rintro e w' ⟨rfl, rfl⟩) | (go_at_call 122; (with_reducible refine HO2.out.mono ?_); rintro e w' ⟨rfl, rfl⟩))
              go_ret
              exact ⟨by rw [HTF.out]; rfl, HBE.out⟩
end Go.Proofs.YtifilhkkgkihpaaGreatDoor
set_option linter.unusedSimpArgs false
set_option linter.unusedVariables false
namespace Go.Proofs.YtifilhkkgkihpaaGreatDoor
open Go.RowKit
theorem typed_any (w : World) (kd : Int) (na : Option Addr) (nn nc : Nat) (ka : Option Addr) (kn kc : Nat) (op : Bool) : Calls Tryz.prog 95 #[.agg #[.int .i64 kd, .slice na nn nc, .slice ka kn kc, .bool op]] w fun e w' => e = .returned (.agg #[.int .i64 kd, .int .i64 0, .string ⟨#[]⟩, .slice na nn nc, .slice ka kn kc, .bool op]) ∧ Below w.heap.size w w' := by
  have HB : Hid (Below w.heap.size w ((w.alloc (.cells #[.int .i64 kd, .slice na nn nc, .slice ka kn kc, .bool op] 33)).alloc (.cells #[.int .i64 0, .int .i64 0, .string ⟨#[]⟩, .slice none 0 0, .slice none 0 0, .bool false] 152))) := Lib.hid (((Below.refl _ _).alloc (Nat.le_refl _) _).alloc (by simp) _)
  have HX : Hid (((w.alloc (.cells #[.int .i64 kd, .slice na nn nc, .slice ka kn kc, .bool op] 33)).alloc (.cells #[.int .i64 0, .int .i64 0, .string ⟨#[]⟩, .slice none 0 0, .slice none 0 0, .bool false] 152)).heap[w.heap.size]? = some (.cells #[.int .i64 kd, .slice na nn nc, .slice ka kn kc, .bool op] 33 (0, 0))) := Lib.hid (by rw [Below.heap_alloc _ _ _ (by simp)]; exact heap_alloc_new w _)
  have HY : Hid (((w.alloc (.cells #[.int .i64 kd, .slice na nn nc, .slice ka kn kc, .bool op] 33)).alloc (.cells #[.int .i64 0, .int .i64 0, .string ⟨#[]⟩, .slice none 0 0, .slice none 0 0, .bool false] 152)).heap[w.heap.size + 1]? = some (.cells #[.int .i64 0, .int .i64 0, .string ⟨#[]⟩, .slice none 0 0, .slice none 0 0, .bool false] 152 (0, 0))) := Lib.hid (by
    have := heap_alloc_new (w.alloc (.cells #[.int .i64 kd, .slice na nn nc, .slice ka kn kc, .bool op] 33)) (.cells #[.int .i64 0, .int .i64 0, .string ⟨#[]⟩, .slice none 0 0, .slice none 0 0, .bool false] 152)
    simpa using this)
  go_enter Tryz.func95, Tryz.ntmps95
  go_upto_region 1 with (fail)
  generalize ((w.alloc (.cells #[.int .i64 kd, .slice na nn nc, .slice ka kn kc, .bool op] 33)).alloc (.cells #[.int .i64 0, .int .i64 0, .string ⟨#[]⟩, .slice none 0 0, .slice none 0 0, .bool false] 152)) = w1 at *
  have a0 : w1.cell? ⟨w.heap.size, 0, none⟩ = some (.int .i64 kd) := (by rw [cell_of_row _ _ 0 _ 33 _ HX.out]; rfl)
  have a1 : w1.cell? ⟨w.heap.size, 1, none⟩ = some (.slice na nn nc) := (by rw [cell_of_row _ _ 1 _ 33 _ HX.out]; rfl)
  have a2 : w1.cell? ⟨w.heap.size, 2, none⟩ = some (.slice ka kn kc) := (by rw [cell_of_row _ _ 2 _ 33 _ HX.out]; rfl)
  have a3 : w1.cell? ⟨w.heap.size, 3, none⟩ = some (.bool op) := (by rw [cell_of_row _ _ 3 _ 33 _ HX.out]; rfl)
  go_wp2_with (refine wpList_store_row rfl 152 _ _ rfl (w.heap.size + 1) _ rfl rfl 152 _ HY.out (by kernel_rfl) rfl (by simp [Value.oneCell']) ?_)
  (try simp only [Exit.inBlock, Exit.then])
  exact bodyPost_ret (v := .agg #[.int .i64 kd, .int .i64 0, .string ⟨#[]⟩, .slice na nn nc, .slice ka kn kc, .bool op]) (results_cell_row (P := Tryz.prog) rfl _ _ (w.heap.size + 1) 152 _ (0, 0) _ rfl (setRow_heap _ _ _ _ _ _ HY.out) Tryz.underlying152 rfl (by kernel_rfl)) rfl ⟨rfl, HB.out.os, HB.out.tape, HB.out.output, by rw [setRow_size]; exact HB.out.size, fun k hk => (setRow_other _ _ _ _ (by omega)).trans (HB.out.block k hk)⟩
end Go.Proofs.YtifilhkkgkihpaaGreatDoor
