/- Walks: ref08.Alike, its whole answer. -/
import Derived.Test.YtifilhkkgkihpaaGreatDoorAs13
import Derived.BigQuiet
set_option linter.unusedSimpArgs false
set_option linter.unusedVariables false
set_option linter.unusedSimpArgs false
set_option linter.unusedVariables false
namespace Go.Proofs.YtifilhkkgkihpaaGreatDoor
open Go.RowKit
/-- the matrix holds true at i, k. -/
def AtM (rows : List BRow) (i k : Nat) : Prop := ∃ r, rows[i]? = some r ∧ r.2.2[k]? = some true
/-- of the places that P names: where the matrix holds true, it does so at the kids. -/
def CloM (XS HS : List Hd) (rows : List BRow) (P : Nat → Nat → Nat → Prop) : Prop := ∀ (i k n : Nat) x h a b, XS[i]? = some x → HS[k]? = some h → P i k n → x.KS[n]? = some a → h.KS[n]? = some b → AtM rows i k → AtM rows a.toNat b.toNat
theorem CloM.none {XS HS : List Hd} {rows : List BRow} {P : Nat → Nat → Nat → Prop} (hP : ∀ i k n, ¬ P i k n) : CloM XS HS rows P := fun i k n _ _ _ _ _ _ hp => absurd hp (hP i k n)
theorem CloM.imp {XS HS : List Hd} {rows : List BRow} {P P' : Nat → Nat → Nat → Prop} (h : CloM XS HS rows P) (hP : ∀ (i k n : Nat) x h a, XS[i]? = some x → HS[k]? = some h → x.KS[n]? = some a → P' i k n → P i k n) : CloM XS HS rows P' :=
  fun i k n x y a b hx hy hp ha hb hm => h i k n x y a b hx hy (hP i k n x y a hx hy ha hp) ha hb hm
theorem CloM.no {XS HS : List Hd} {rows : List BRow} {i k n : Nat} {r : BRow} (h : CloM XS HS rows (fun i' k' n' => i' < i ∨ i' = i ∧ (k' < k ∨ k' = k ∧ n' < n))) (hr : rows[i]? = some r) (hb : r.2.2[k]? = some false) : CloM XS HS rows (fun i' k' n' => i' < i ∨ i' = i ∧ (k' < k ∨ k' = k ∧ n' < n + 1)) := by
  intro i' k' n' x y a b hx hy hp ha hb' hm
  by_cases h0 : i' < i ∨ i' = i ∧ (k' < k ∨ k' = k ∧ n' < n)
  · exact h i' k' n' x y a b hx hy h0 ha hb' hm
  · obtain ⟨rfl, rfl⟩ : i' = i ∧ k' = k := by omega
    obtain ⟨s, hs, hk⟩ := hm
    rw [hr] at hs
    cases hs
    rw [hb] at hk
    cases hk
theorem CloM.yes {XS HS : List Hd} {rows : List BRow} {i k n : Nat} {x y : Hd} {a b : Int} (h : CloM XS HS rows (fun i' k' n' => i' < i ∨ i' = i ∧ (k' < k ∨ k' = k ∧ n' < n))) (hx : XS[i]? = some x) (hy : HS[k]? = some y) (ha : x.KS[n]? = some a) (hb : y.KS[n]? = some b) (hat : AtM rows a.toNat b.toNat) : CloM XS HS rows (fun i' k' n' => i' < i ∨ i' = i ∧ (k' < k ∨ k' = k ∧ n' < n + 1)) := by
  intro i' k' n' x' y' a' b' hx' hy' hp ha' hb' hm
  by_cases h0 : i' < i ∨ i' = i ∧ (k' < k ∨ k' = k ∧ n' < n)
  · exact h i' k' n' x' y' a' b' hx' hy' h0 ha' hb' hm
  · obtain ⟨rfl, rfl, rfl⟩ : i' = i ∧ k' = k ∧ n' = n := by omega
    rw [hx] at hx'
    rw [hy] at hy'
    cases hx'
    cases hy'
    rw [ha] at ha'
    rw [hb] at hb'
    cases ha'
    cases hb'
    exact hat
/-- alike, by definition: some relation that keeps what heads are, and their kids, ties them. -/
def Bis (XS HS : List Hd) (i k : Nat) : Prop := ∃ R, Rel2 XS HS R ∧ R i k
theorem bis_rel (XS HS : List Hd) : Rel2 XS HS (Bis XS HS) where
  pl i k x h hx hh hr := by
    obtain ⟨R, hR, h1⟩ := hr
    exact hR.pl i k x h hx hh h1
  kid i k x h hx hh hr n a b ha hb := by
    obtain ⟨R, hR, h1⟩ := hr
    exact ⟨R, hR, hR.kid i k x h hx hh h1 n a b ha hb⟩
end Go.Proofs.YtifilhkkgkihpaaGreatDoor
