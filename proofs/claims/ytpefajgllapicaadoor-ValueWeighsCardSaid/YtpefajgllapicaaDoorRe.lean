/- Plain: a sorted list of names and kids. -/
import Derived.Test.YtpefajgllapicaaDoorRd
import Derived.Lib.Strings
set_option linter.unusedVariables false
namespace Go.Proofs.YtpefajgllapicaaDoor
open Go.RowKit
/-- a value's parts, one for each cell. -/
structure Kid where
  kd : Int
  ki : Int
  kb : Int
  kt : ByteArray
  na : Option Addr
  nn : Nat
  nc : Nat
  ka : Option Addr
  kn : Nat
  kc : Nat
  fp : Option Addr
  hv : Int
def Kid.cells (k : Kid) : List Value := [.int .i64 k.kd, .int .i64 k.ki, .int .u64 k.kb, .string k.kt, .slice k.na k.nn k.nc, .slice k.ka k.kn k.kc, .pointer k.fp, .int .i64 k.hv]
def Kid.val (k : Kid) : Value := .agg #[.int .i64 k.kd, .int .i64 k.ki, .int .u64 k.kb, .string k.kt, .slice k.na k.nn k.nc, .slice k.ka k.kn k.kc, .pointer k.fp, .int .i64 k.hv]
theorem Kid.cells_len (k : Kid) : k.cells.length = 8 := rfl
def bl (a b : ByteArray) : Bool := Op.bytesLess a.toList b.toList
theorem toList_inj {a b : ByteArray} (h : a.toList = b.toList) : a = b := by
  rw [Lib.toList_data, Lib.toList_data] at h
  exact ByteArray.ext (Array.toList_inj.1 h)
theorem less_lex : ∀ (x y : List UInt8), Op.bytesLess x y = decide (x < y)
  | [], [] => by simp [Op.bytesLess]
  | _ :: _, [] => by simp [Op.bytesLess]
  | [], _ :: _ => by simp [Op.bytesLess]
  | a :: x, b :: y => by
    rw [Op.bytesLess, less_lex x y]
    simp only [List.cons_lt_cons_iff]
    by_cases h1 : a < b <;> by_cases h2 : a = b <;> by_cases h3 : x < y <;> simp [h1, h2, h3]
theorem bl_irrefl (a : ByteArray) : bl a a = false := by
  unfold bl; rw [less_lex]; exact decide_eq_false (List.lt_irrefl _)
theorem bl_trans {a b c : ByteArray} (h : bl a b = true) (h2 : bl b c = true) : bl a c = true := by
  unfold bl at *; rw [less_lex] at *
  exact decide_eq_true (List.lt_trans (of_decide_eq_true h) (of_decide_eq_true h2))
theorem bl_tri {a b : ByteArray} (h : bl a b = false) (h2 : bl b a = false) : a = b := by
  unfold bl at *; rw [less_lex] at *
  exact toList_inj (List.le_antisymm (of_decide_eq_false h2) (of_decide_eq_false h))
theorem bl_asymm {a b : ByteArray} (h : bl a b = true) : bl b a = false := by
  cases hb : bl b a with
  | false => rfl
  | true => have := bl_trans h hb; rw [bl_irrefl] at this; cases this
abbrev Ent := ByteArray × Kid
/-- the names rise. -/
def Rises : List Ent → Prop
  | [] => True
  | e :: l => (∀ f ∈ l, bl e.1 f.1 = true) ∧ Rises l
def names (E : List Ent) : List ByteArray := E.map (·.1)
def cells (E : List Ent) : List Value := E.flatMap (·.2.cells)
/-- how many names are less. -/
def lowP : List Ent → ByteArray → Nat
  | [], _ => 0
  | e :: l, x => if bl e.1 x then lowP l x + 1 else 0
/-- a name's kid. -/
def getE : List Ent → ByteArray → Option Kid
  | [], _ => none
  | e :: l, x => if e.1 = x then some e.2 else getE l x
/-- put in order, if it is not there. -/
def insE : List Ent → ByteArray → Kid → List Ent
  | [], x, k => [(x, k)]
  | e :: l, x, k => if bl e.1 x then e :: insE l x k else if e.1 = x then e :: l else (x, k) :: e :: l
theorem lowP_cons (e : Ent) (l : List Ent) (x : ByteArray) : lowP (e :: l) x = if bl e.1 x then lowP l x + 1 else 0 := rfl
theorem getE_cons (e : Ent) (l : List Ent) (x : ByteArray) : getE (e :: l) x = if e.1 = x then some e.2 else getE l x := rfl
theorem insE_cons (e : Ent) (l : List Ent) (x : ByteArray) (k : Kid) : insE (e :: l) x k = if bl e.1 x then e :: insE l x k else if e.1 = x then e :: l else (x, k) :: e :: l := rfl
theorem lowP_le (E : List Ent) (x : ByteArray) : lowP E x ≤ E.length := by
  induction E with
  | nil => exact Nat.le_refl _
  | cons e l ih => rw [lowP_cons]; split <;> simp <;> omega
theorem part_of (E : List Ent) (x : ByteArray) (h : Rises E) : ∀ k s, (names E)[k]? = some s → bl s x = decide (k < lowP E x) := by
  induction E with
  | nil => intro k s hs; simp [names] at hs
  | cons e l ih =>
    intro k s hs
    cases k with
    | zero =>
      obtain rfl : e.1 = s := by simpa [names] using hs
      rw [lowP_cons]
      cases hb : bl e.1 x <;> simp
    | succ k =>
      have hs' : (names l)[k]? = some s := by simpa [names] using hs
      cases hb : bl e.1 x with
      | true => rw [ih h.2 k s hs', lowP_cons, if_pos hb]; simp
      | false =>
        have h0 : lowP (e :: l) x = 0 := by rw [lowP_cons, hb]; rfl
        rw [h0]
        obtain ⟨f, hf, rfl⟩ := List.mem_map.1 (List.mem_of_getElem? hs')
        cases hc : bl f.1 x with
        | false => simp
        | true => have := bl_trans (h.1 f hf) hc; rw [hb] at this; cases this
theorem low_low (E : List Ent) (x : ByteArray) (h : Rises E) : (∃ k, getE E x = some k) ↔ isAt (names E) (lowP E x) x = true := by
  induction E with
  | nil => simp [getE, isAt, names]
  | cons e l ih =>
    by_cases hb : bl e.1 x = true
    · have hne : e.1 ≠ x := fun e' => by rw [e', bl_irrefl] at hb; cases hb
      have h1 : getE (e :: l) x = getE l x := by rw [getE_cons, if_neg hne]
      have h2 : isAt (names (e :: l)) (lowP (e :: l) x) x = isAt (names l) (lowP l x) x := by rw [lowP_cons, if_pos hb]; unfold isAt; simp [names]
      rw [h1, h2]
      exact ih h.2
    · have hb' : bl e.1 x = false := by simpa using hb
      have h2 : isAt (names (e :: l)) (lowP (e :: l) x) x = (e.1.toList == x.toList) := by rw [lowP_cons, hb']; unfold isAt; simp [names]
      rw [h2]
      by_cases he : e.1 = x
      · rw [getE_cons, if_pos he]; simp [he]
      · have h3 : (e.1.toList == x.toList) = false := by
          cases hh : (e.1.toList == x.toList) with
          | false => rfl
          | true => exact absurd (toList_inj (by simpa using hh)) he
        rw [h3]
        rw [getE_cons, if_neg he]
        have hno : ∀ l' : List Ent, (∀ f ∈ l', bl e.1 f.1 = true) → getE l' x = none := by
          intro l' hl'
          induction l' with
          | nil => rfl
          | cons f r ihr =>
            rw [getE_cons, if_neg (fun e' => by have := hl' f (List.mem_cons_self ..); rw [e'] at this; rw [this] at hb'; cases hb')]
            exact ihr (fun g hg => hl' g (List.mem_cons_of_mem _ hg))
        rw [hno l h.1]
        simp
theorem take_past {A B : List Value} {n m : Nat} (h : A.length = n) : (A ++ B).take (n + m) = A ++ B.take m := by
  rw [List.take_append, h, List.take_of_length_le (by omega)]; simp
theorem drop_past {A B : List Value} {n m : Nat} (h : A.length = n) : (A ++ B).drop (n + m) = B.drop m := by
  rw [List.drop_append, h, List.drop_eq_nil_of_le (by omega)]; simp
theorem at_cons_lt (e : Ent) (l : List Ent) (x : ByteArray) (hb : bl e.1 x = true) : isAt (names (e :: l)) (lowP (e :: l) x) x = isAt (names l) (lowP l x) x := by rw [lowP_cons, if_pos hb]; unfold isAt; simp [names]
theorem at_cons_ge (e : Ent) (l : List Ent) (x : ByteArray) (hb : bl e.1 x = false) : isAt (names (e :: l)) (lowP (e :: l) x) x = (e.1.toList == x.toList) := by rw [lowP_cons, hb]; unfold isAt; simp [names]
theorem insE_old (E : List Ent) (x : ByteArray) (k : Kid) (h : isAt (names E) (lowP E x) x = true) : insE E x k = E := by
  induction E with
  | nil => simp [isAt, names] at h
  | cons e l ih =>
    rw [insE_cons]
    by_cases hb : bl e.1 x = true
    · rw [if_pos hb, ih (by rw [at_cons_lt e l x hb] at h; exact h)]
    · have hb' : bl e.1 x = false := by simpa using hb
      rw [at_cons_ge e l x hb'] at h
      rw [if_neg hb, if_pos (toList_inj (by simpa using h))]
theorem cells_cons (e : Ent) (l : List Ent) : cells (e :: l) = e.2.cells ++ cells l := rfl
theorem insE_new (E : List Ent) (x : ByteArray) (k : Kid) (h : isAt (names E) (lowP E x) x = false) :
    names (insE E x k) = (names E).take (lowP E x) ++ [x] ++ (names E).drop (lowP E x) ∧ cells (insE E x k) = (cells E).take (lowP E x * 8) ++ k.cells ++ (cells E).drop (lowP E x * 8) ∧ (insE E x k).length = E.length + 1 := by
  induction E with
  | nil => simp [insE, names, cells, lowP]
  | cons e l ih =>
    rw [insE_cons]
    by_cases hb : bl e.1 x = true
    · rw [at_cons_lt e l x hb] at h
      obtain ⟨h1, h2, h3⟩ := ih h
      rw [if_pos hb, lowP_cons, if_pos hb]
      refine ⟨?_, ?_, by simp [h3]⟩
      · have : names (e :: insE l x k) = e.1 :: names (insE l x k) := rfl
        rw [this, h1]
        simp [names]
      · rw [cells_cons, cells_cons, h2, show (lowP l x + 1) * 8 = 8 + lowP l x * 8 by omega]
        have h8 : e.2.cells.length = 8 := rfl
        rw [take_past h8, drop_past h8]
        simp
    · have hb' : bl e.1 x = false := by simpa using hb
      have hne : e.1 ≠ x := fun e' => by rw [at_cons_ge e l x hb', e'] at h; simp at h
      rw [if_neg hb, if_neg hne, lowP_cons, if_neg hb]
      simp [names, cells]
theorem insE_mem (E : List Ent) (x : ByteArray) (k : Kid) : ∀ f ∈ insE E x k, f = (x, k) ∨ f ∈ E := by
  induction E with
  | nil => intro f hf; simp [insE] at hf; exact Or.inl hf
  | cons e l ih =>
    intro f hf
    rw [insE_cons] at hf
    split at hf
    · rcases List.mem_cons.1 hf with rfl | hf
      · exact Or.inr (List.mem_cons_self ..)
      · rcases ih f hf with h | h
        · exact Or.inl h
        · exact Or.inr (List.mem_cons_of_mem _ h)
    · split at hf
      · exact Or.inr hf
      · rcases List.mem_cons.1 hf with rfl | hf
        · exact Or.inl rfl
        · exact Or.inr hf
theorem insE_rises (E : List Ent) (x : ByteArray) (k : Kid) (h : Rises E) : Rises (insE E x k) := by
  induction E with
  | nil => exact ⟨fun f hf => (by cases hf), True.intro⟩
  | cons e l ih =>
    rw [insE_cons]
    split
    · rename_i hb
      refine ⟨fun f hf => ?_, ih h.2⟩
      rcases insE_mem l x k f hf with rfl | hf
      · exact hb
      · exact h.1 f hf
    · rename_i hb
      split
      · exact h
      · rename_i hne
        have hb' : bl e.1 x = false := by simpa using hb
        have hxe : bl x e.1 = true := by
          cases hx : bl x e.1 with
          | true => rfl
          | false => exact absurd (bl_tri hb' hx) hne
        refine ⟨fun f hf => ?_, h⟩
        rcases List.mem_cons.1 hf with rfl | hf
        · exact hxe
        · exact bl_trans hxe (h.1 f hf)
theorem getE_ins (E : List Ent) (x y : ByteArray) (k : Kid) (h : Rises E) : getE (insE E x k) y = match getE E y with
    | some u => some u
    | none => if x = y then some k else none := by
  induction E with
  | nil => simp [insE, getE]
  | cons e l ih =>
    rw [insE_cons]
    split
    · rename_i hb
      rw [getE_cons, getE_cons]
      split
      · rfl
      · exact ih h.2
    · rename_i hb
      have hb' : bl e.1 x = false := by simpa using hb
      split
      · rename_i he
        cases hg : getE (e :: l) y with
        | some u => rfl
        | none =>
          rw [getE_cons] at hg
          split at hg
          · cases hg
          · rename_i hne
            simp only
            rw [if_neg (fun e' => hne (by rw [he, e']))]
      · rename_i hne
        rw [getE_cons]
        by_cases hxy : x = y
        · rw [if_pos hxy]
          subst hxy
          have : getE (e :: l) x = none := by
            cases hg : getE (e :: l) x with
            | none => rfl
            | some u =>
              have := (low_low (e :: l) x h).1 ⟨u, hg⟩
              rw [at_cons_ge e l x hb'] at this
              exact absurd (toList_inj (by simpa using this)) hne
          rw [this]
          simp
        · rw [if_neg hxy]
          cases hg : getE (e :: l) y with
          | some u => rfl
          | none => simp [hxy]
end Go.Proofs.YtpefajgllapicaaDoor
