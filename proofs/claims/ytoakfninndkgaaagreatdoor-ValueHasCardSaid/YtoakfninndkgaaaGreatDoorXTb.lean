/- Plain: a map that holds what a sorted list holds. -/
import Derived.Test.YtoakfninndkgaaaGreatDoorXRg
import Derived.Maps.OwnSet
import Derived.Maps.OwnOps
set_option linter.unusedVariables false
namespace Go.Proofs.YtoakfninndkgaaaGreatDoor.Val
open Go.RowKit
def kInt (i : Int) : Kid := ⟨0, i, 0, ⟨#[]⟩, none, 0, 0, none, 0, 0, none, 0⟩
def kOf : Option Kid → Int
  | some k => k.ki
  | none => 0
abbrev keyS (x : ByteArray) : Lit := .string x.data.toList
theorem keyS_inj {x y : ByteArray} (h : keyS x = keyS y) : x = y := by
  have := Lit.string.inj h
  exact ByteArray.ext (Array.toList_inj.1 this)
theorem keyS_is (x : ByteArray) : WideAt.IsKeyLit (keyS x) := by
  simp [WideAt.IsKeyLit]
/-- the map holds the list. -/
structure MapE {H : Type} (D : DataW H) (E : List Ent) : Prop where
  tidy : Maps.Tidy D
  has : ∀ x, Maps.has D (keyS x) = (getE E x).isSome
  at_ : ∀ x, D.atKey (keyS x) (.lit (.int .i64 0)) = .lit (.int .i64 (kOf (getE E x)))
  size : Maps.size D = E.length
theorem MapE.nil {H : Type} : MapE (H := H) (.map []) [] := ⟨Maps.tidy_empty, fun _ => rfl, fun _ => rfl, rfl⟩

theorem at_of' (E : List Ent) (x : ByteArray) (h : Rises E) : isAt (names E) (lowP E x) x = (getE E x).isSome := by
  cases hg : getE E x with
  | some k => exact (low_low E x h).1 ⟨k, hg⟩
  | none =>
    cases ha : isAt (names E) (lowP E x) x with
    | false => rfl
    | true => obtain ⟨k, hk⟩ := (low_low E x h).2 ha; rw [hg] at hk; cases hk
theorem MapE.put {H : Type} {D : DataW H} {E : List Ent} (h : MapE D E) (hr : Rises E) (x : ByteArray) (i : Int) (hx : getE E x = none) : MapE (D.put (keyS x) (.lit (.int .i64 i))) (insE E x (kInt i)) where
  tidy := h.tidy.put (keyS_is x) _
  has y := by
    rw [getE_ins E x y (kInt i) hr]
    by_cases hxy : x = y
    · subst hxy
      rw [Maps.has_put_same h.tidy.isMap (keyS_is x), hx]
      simp
    · rw [Maps.has_put_other (fun e => hxy (keyS_inj e).symm), h.has y]
      cases getE E y <;> simp [hxy]
  at_ y := by
    rw [getE_ins E x y (kInt i) hr]
    by_cases hxy : x = y
    · subst hxy
      rw [Maps.atKey_put_same h.tidy.isMap (keyS_is x), hx]
      simp [kOf, kInt]
    · rw [Maps.atKey_put_other (fun e => hxy (keyS_inj e).symm), h.at_ y]
      cases getE E y <;> simp [hxy]
  size := by
    rw [Maps.size_put h.tidy, h.has x, hx, h.size]
    have := (insE_new E x (kInt i) (by rw [at_of' E x hr, hx]; rfl)).2.2
    simp [this]
theorem upE_rises (P : List Ent) (j : Nat) : Rises (upE P j) := by
  unfold upE
  have : ∀ (l : List Ent) (E : List Ent), Rises E → Rises (l.foldl (fun E e => insE E e.1 e.2) E) := by
    intro l
    induction l with
    | nil => exact fun E h => h
    | cons e l ih => exact fun E h => ih _ (insE_rises E e.1 e.2 h)
  exact this _ _ True.intro
theorem MapE.step {H : Type} {D : DataW H} {P : List Ent} {j : Nat} (h : MapE D (upE P j)) (x : ByteArray) (i : Int) (hx : P[j]? = some (x, kInt i)) : MapE (if (getE (upE P j) x).isSome then D else D.put (keyS x) (.lit (.int .i64 i))) (upE P (j + 1)) := by
  rw [upE_succ P j _ hx]
  cases hg : getE (upE P j) x with
  | some k =>
    have : insE (upE P j) x (kInt i) = upE P j := insE_old _ x _ (by rw [at_of' _ x (upE_rises P j), hg]; rfl)
    simp only [this]
    exact h
  | none => exact h.put (upE_rises P j) x i hg
theorem upE_past (P : List Ent) (j : Nat) (h : P.length ≤ j) : upE P j = upE P P.length := by
  unfold upE
  rw [List.take_of_length_le h, List.take_of_length_le (Nat.le_refl _)]
theorem getE_at (E : List Ent) (h : Rises E) (j : Nat) (e : Ent) (he : E[j]? = some e) : getE E e.1 = some e.2 := by
  induction E generalizing j with
  | nil => simp at he
  | cons f l ih =>
    rw [getE_cons]
    cases j with
    | zero =>
      obtain rfl : f = e := by simpa using he
      rw [if_pos rfl]
    | succ j =>
      have he' : l[j]? = some e := by simpa using he
      have hb := h.1 e (List.mem_of_getElem? he')
      rw [if_neg (fun e' => by rw [e', bl_irrefl] at hb; cases hb)]
      exact ih h.2 j he'
theorem rises_adj (E : List Ent) (h : Rises E) (j : Nat) (e f : Ent) (he : E[j]? = some e) (hf : E[j + 1]? = some f) : bl e.1 f.1 = true := by
  induction E generalizing j with
  | nil => simp at he
  | cons g l ih =>
    cases j with
    | zero =>
      obtain rfl : g = e := by simpa using he
      exact h.1 f (List.mem_of_getElem? (show l[0]? = some f by simpa using hf))
    | succ j => exact ih h.2 j (by simpa using he) (by simpa using hf)
end Go.Proofs.YtoakfninndkgaaaGreatDoor.Val
