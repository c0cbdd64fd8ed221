/- Walks: note; the uses. -/
import Derived.Test.YtoakfninndkgaaaGreatDoorNf
set_option linter.unusedVariables false
namespace Go.Proofs.YtoakfninndkgaaaGreatDoor
open Go.RowKit
def uRow (U : List Int) : Array Value := (U.map (Value.int .i64)).toArray
def bump (U : List Int) (k : Nat) : List Int := U.set k (U.getD k 0 + 1)
def bumps (U : List Int) (KS : List Nat) : List Int := KS.foldl bump U
theorem bump_len (U : List Int) (k : Nat) : (bump U k).length = U.length := by simp [bump]
theorem bumps_len (U : List Int) (KS : List Nat) : (bumps U KS).length = U.length := by
  unfold bumps
  induction KS generalizing U with
  | nil => rfl
  | cons k l ih => rw [List.foldl_cons, ih, bump_len]
theorem bumps_snoc (U : List Int) (KS : List Nat) (k : Nat) : bumps U (KS ++ [k]) = bump (bumps U KS) k := by simp [bumps]
/-- each is between 0 and B. -/
def Small (B : Int) (U : List Int) : Prop := ∀ x ∈ U, 0 ≤ x ∧ x ≤ B
theorem small_getD {B : Int} {U : List Int} (h : Small B U) (hB : 0 ≤ B) (k : Nat) : 0 ≤ U.getD k 0 ∧ U.getD k 0 ≤ B := by
  rw [List.getD_eq_getElem?_getD]
  cases hk : U[k]? with
  | none => simp [hB]
  | some x => exact h x (List.mem_of_getElem? hk)
theorem small_bump {B : Int} {U : List Int} (h : Small B U) (hB : 0 ≤ B) (k : Nat) : Small (B + 1) (bump U k) := by
  intro x hx
  unfold bump at hx
  rcases List.mem_or_eq_of_mem_set hx with h' | rfl
  · have := h x h'; omega
  · have := small_getD h hB k; omega
theorem small_bumps {B : Int} (KS : List Nat) : ∀ {U : List Int} {B : Int}, Small B U → 0 ≤ B → Small (B + KS.length) (bumps U KS) := by
  induction KS with
  | nil => intro U B h hB; simpa [bumps] using h
  | cons k l ih =>
    intro U B h hB
    have := ih (small_bump h hB k) (by omega)
    have e : bumps (bump U k) l = bumps U (k :: l) := rfl
    rw [e] at this
    simp only [List.length_cons]
    have e2 : B + 1 + (l.length : Int) = B + ((l.length + 1 : Nat) : Int) := by omega
    rw [← e2]; exact this
theorem uRow_get (U : List Int) (k : Nat) (hk : k < U.length) : (uRow U)[k]? = some (.int .i64 (U.getD k 0)) := by
  unfold uRow
  simp [hk]
theorem uRow_set (U : List Int) (k : Nat) (x : Int) : (uRow U).setIfInBounds k (.int .i64 x) = uRow (U.set k x) := by
  unfold uRow
  simp [List.map_set]
theorem uRow_size (U : List Int) : (uRow U).size = U.length := by simp [uRow]
theorem set_heap (w : World) (T k : Nat) (U : List Int) (x : Int) (h : w.heap[T]? = some (.cells (uRow U) 3 (0, 0))) : (w.setCell ⟨T, k, none⟩ (.int .i64 x)).heap[T]? = some (.cells (uRow (U.set k x)) 3 (0, 0)) := by
  rw [heap_setCell_same _ T k _ 3 _ h]
  congr 2
  exact uRow_set U k x
set_option maxRecDepth 20000 in
theorem note_some (w : World) (T n c g o m kc : Nat) (b : Int) (U : List Int) (KS : List Nat) (hU : U.length = n) (hT : w.heap[T]? = some (.cells (uRow U) 3 (0, 0))) (hm : m = KS.length) (hgl : g < w.heap.size) (hgT : g ≠ T) (hc : Hid (∀ (j k : Nat), KS[j]? = some k → w.cell? ⟨g, o + j, none⟩ = some (.int .i64 (k : Int)))) (hk : Hid (∀ k ∈ KS, k < n ∧ (k : Int) < b)) (hs : Hid (Small 1000 U)) (hn : n ≤ 100000) (hm1 : m ≤ 1000) :
    Calls Tryz.prog 88 #[.slice (some ⟨T, 0, none⟩) n c, .slice (some ⟨g, o, none⟩) m kc, .int .i64 b] w fun e w' => e = .returned (.bool true) ∧ w'.heap[T]? = some (.cells (uRow (bumps U KS)) 3 (0, 0)) ∧ w.grownBy w' (some T) := by
  have HU := Lib.hid hU
  have HT := Lib.hid hT
  have HM := Lib.hid hm
  have HGL := Lib.hid hgl
  have HGT := Lib.hid hgT
  clear hU hT hm hgl hgT
  go_enter Tryz.func88, Tryz.ntmps88
  go_wp2
  go_loopw [11] (fun s11 wr => ∃ j : Nat, j ≤ m ∧ s11 = .int .i64 (j : Int) ∧ Hid (wr.heap[T]? = some (.cells (uRow (bumps U (KS.take j))) 3 (0, 0))) ∧ Hid (w.grownBy wr (some T))) (fun s11 _ => m - (intOf s11).toNat)
  case atStart => exact ⟨0, Nat.zero_le _, rfl, HT, Lib.hid ⟨rfl, rfl, rfl, Nat.le_refl _, fun _ _ _ => rfl⟩⟩
  case round =>
    obtain ⟨j, hj, rfl, HTR, HG⟩ := hrel
    have hwj : IntKind.i64.wrap ((j : Int) + 1) = (j : Int) + 1 := by rw [IntKind.wrap_i64]; omega
    by_cases hlt : j < m
    · have hlt2 : (j : Int) < m := by omega
      obtain ⟨k, hkj⟩ : ∃ k, KS[j]? = some k := ⟨_, List.getElem?_eq_getElem (by rw [← HM.out]; exact hlt)⟩
      have ac : wr.cell? ⟨g, o + j, none⟩ = some (.int .i64 (k : Int)) := by
        rw [← hc.out j k hkj]
        exact World.cell?_of_block (HG.out.block g HGL.out (fun e => HGT.out (Option.some.inj e)))
      obtain ⟨hkn, hkb⟩ := hk.out k (List.mem_of_getElem? hkj)
      have hkn2 : (k : Int) < n := by omega
      have hst : KS.take (j + 1) = KS.take j ++ [k] := by rw [List.take_add_one, hkj]; rfl
      have hlen : (bumps U (KS.take j)).length = n := by rw [bumps_len]; exact HU.out
      have hsm := small_getD (small_bumps (B := 1000) (KS.take j) hs.out (by omega)) (by omega) k
      have hlt3 : (KS.take j).length ≤ 1000 := by rw [List.length_take]; omega
      generalize hx : (bumps U (KS.take j)).getD k 0 = x at hsm
      have at1 : wr.cell? ⟨T, k, none⟩ = some (.int .i64 x) := by rw [cell_of_row _ T k _ 3 _ HTR.out, uRow_get _ _ (by rw [hlen]; exact hkn), hx]
      have fr1 : wr.frozen? ⟨T, k, none⟩ = false := frozen_of_row _ _ k _ 3 HTR.out
      have hwx : IntKind.i64.wrap (x + 1) = x + 1 := by rw [IntKind.wrap_i64]; omega
      have HST := Lib.hid hst
      have HX := Lib.hid hx
      clear hkj hst hlen hsm hlt3 hx
      go_wp2
      go_roundw
      case rel => exact ⟨j + 1, by omega, by go_num, Lib.hid (by
        rw [HST.out, bumps_snoc, set_heap _ _ _ _ _ HTR.out]
        unfold bump
        rw [HX.out]), Lib.hid (HG.out.trans ⟨rfl, rfl, rfl, by simp, fun i hi hne => Below.heap_setCell _ _ _ _ (fun e => hne (by rw [e]))⟩)⟩
      case measure => simp [intOf]; omega
    · have hlt2 : ¬ (j : Int) < m := by omega
      obtain rfl : j = m := by omega
      go_wp2
      go_ret
      exact ⟨rfl, by have := HTR.out; rwa [List.take_of_length_le (by rw [← HM.out]; exact Nat.le_refl _)] at this, HG.out⟩
theorem note_zero (w : World) (T n c kc : Nat) (b : Int) (ka : Option Addr) : Calls Tryz.prog 88 #[.slice (some ⟨T, 0, none⟩) n c, .slice ka 0 kc, .int .i64 b] w fun e w' => e = .returned (.bool true) ∧ w = w' := by
  go_enter Tryz.func88, Tryz.ntmps88
  go_wp2
  go_loop [11] (fun s11 => s11 = .int .i64 0) (fun _ => 0)
  case atStart => exact rfl
  case round =>
    obtain rfl := hrel
    go_wp2
    go_ret
    exact ⟨rfl, rfl⟩
/-- are all 1? -/
theorem odd_any (x : Int) (w : World) : Calls Tryz.prog 91 #[.int .i64 x] w fun e w' => e = .returned (.bool (x != 1)) ∧ w = w' := by
  go_enter Tryz.func91, Tryz.ntmps91
  go_wp2
  go_ret
  exact ⟨by simp, rfl⟩
theorem oddx_ones (w : World) (T n c : Nat) (U : List Int) (hU : U.length = n) (hT : w.heap[T]? = some (.cells (uRow U) 3 (0, 0))) (h1 : Hid (∀ x ∈ U, x = 1)) (hn : n ≤ 100000) :
    Calls Tryz.prog 107 #[.slice (some ⟨T, 0, none⟩) n c, .func (.func 91) #[] #[]] w fun e w' => e = .returned (.int .i64 (-1)) ∧ w = w' := by
  have HU := Lib.hid hU
  have HT := Lib.hid hT
  clear hU hT
  go_enter Tryz.func107, Tryz.ntmps107
  go_wp2
  go_loop [8] (fun s8 => ∃ j : Nat, j ≤ n ∧ s8 = .int .i64 (j : Int)) (fun s8 => n - (intOf s8).toNat)
  case atStart => exact ⟨0, Nat.zero_le _, rfl⟩
  case round =>
    obtain ⟨j, hj, rfl⟩ := hrel
    have hwj : IntKind.i64.wrap ((j : Int) + 1) = (j : Int) + 1 := by rw [IntKind.wrap_i64]; omega
    by_cases hlt : j < n
    · have hlt2 : (j : Int) < n := by omega
      have ac : w.cell? ⟨T, j, none⟩ = some (.int .i64 1) := by
        rw [cell_of_row _ T j _ 3 _ HT.out, uRow_get _ _ (by rw [HU.out]; exact hlt)]
        have hj' : j < U.length := by rw [HU.out]; exact hlt
        rw [List.getD_eq_getElem?_getD, List.getElem?_eq_getElem hj']
        simp [h1.out _ (List.getElem_mem hj')]
      go_wp2_with (go_at_call 91; ((with_reducible refine (odd_any _ _).mono ?_); rintro e w' ⟨rfl, rfl⟩))
      go_round
      case rel => exact ⟨j + 1, by omega, by go_num⟩
      case measure => simp [intOf]; omega
    · have hlt2 : ¬ (j : Int) < n := by omega
      go_wp2
      go_ret
      exact ⟨rfl, rfl⟩
theorem odds_ones (w : World) (T n c : Nat) (U : List Int) (hU : U.length = n) (hT : w.heap[T]? = some (.cells (uRow U) 3 (0, 0))) (h1 : ∀ x ∈ U, x = 1) (hn : n ≤ 100000) :
    Calls Tryz.prog 92 #[.slice (some ⟨T, 0, none⟩) n c, .func (.func 91) #[] #[]] w fun e w' => e = .returned (.bool false) ∧ w = w' := by
  have HI := Lib.hid (oddx_ones w T n c U hU hT (Lib.hid h1) hn)
  clear hU hT h1
  go_enter Tryz.func92, Tryz.ntmps92
  go_wp2_with (go_at_call 107; refine HI.out.mono ?_; rintro e w' ⟨rfl, rfl⟩)
  go_ret
  exact ⟨by simp, rfl⟩
end Go.Proofs.YtoakfninndkgaaaGreatDoor
