/- Plain: the bytes of a row of heads tell the heads. -/
import Derived.Test.YtifilhkkgkihpaaGreatDoorAs13
set_option linter.unusedSimpArgs false
set_option linter.unusedVariables false
set_option linter.unusedSimpArgs false
set_option linter.unusedVariables false
namespace Go.Proofs.YtifilhkkgkihpaaGreatDoor
open Go.RowKit
/-- a kid's bytes. -/
def kidL (NS : List ByteArray) (i : Nat) (k : Int) : List UInt8 := (match NS[i]? with | some s => s.data.toList ++ [58] | none => []) ++ (decL k.toNat ++ [44])
def kidsL (NS : List ByteArray) : Nat → List Int → List UInt8
  | _, [] => []
  | i, k :: l => kidL NS i k ++ kidsL NS (i + 1) l
def rowL (x : Hd) : List UInt8 := (signHead x.kd x.op).data.toList ++ (kidsL x.NS 0 x.KS ++ [59])
/-- the bytes of a row of heads. -/
def bytesL (OS : List Hd) : List UInt8 := OS.flatMap rowL
/-- a head that may be in some graph of at most a hundred. -/
def OneOk (x : Hd) : Prop := ∃ n : Int, n ≤ 100 ∧ headB x.kd x.op n x.NS x.KS = true
theorem OneOk.kids {x : Hd} (h : OneOk x) : ∀ k ∈ x.KS, 0 ≤ k ∧ k < 100 := fun k hk => by
  obtain ⟨n, hn, h⟩ := h
  have := (head_kind h).2.2.1 k hk
  omega
theorem OneOk.all {HS : List Hd} (h : OkHeads HS) (hl : HS.length ≤ 100) : ∀ x ∈ HS, OneOk x := fun x hx => ⟨HS.length, by omega, h x hx⟩
theorem OneOk.names {x : Hd} (h : OneOk x) : x.NS = [] ∨ x.NS.length = x.KS.length := by
  obtain ⟨n, hn, h⟩ := h
  obtain ⟨h1, h2, h3, h4, h5, h6, h7⟩ := head_kind h
  rcases (by omega : (x.kd = 8 ∨ x.kd = 9) ∨ x.kd = 7 ∨ x.kd ≤ 6) with r | r | r
  · exact .inr (h4 r)
  · exact .inl (List.eq_nil_of_length_eq_zero (h5 r).1)
  · exact .inl (List.eq_nil_of_length_eq_zero (h6 r).1)
theorem Alk.cons {x y : Hd} {A B : List Hd} (h : y.kd = x.kd ∧ y.op = x.op ∧ y.NS = x.NS ∧ y.KS = x.KS) (k : Alk A B) : Alk (x :: A) (y :: B) where
  len := by simp [k.len]
  eq i a b ha hb := by
    cases i with
    | zero => simp at ha hb; subst ha; subst hb; exact h
    | succ i => exact k.eq i a b (by simpa using ha) (by simpa using hb)
theorem Alk.tail {x y : Hd} {A B : List Hd} (h : Alk (x :: A) (y :: B)) : (y.kd = x.kd ∧ y.op = x.op ∧ y.NS = x.NS ∧ y.KS = x.KS) ∧ Alk A B :=
  ⟨h.eq 0 x y rfl rfl, by simpa using h.len, fun i a b ha hb => h.eq (i + 1) a b (by simpa using ha) (by simpa using hb)⟩
theorem Alk.bytes : ∀ {A B : List Hd}, Alk A B → bytesL A = bytesL B
  | [], [], _ => rfl
  | [], y :: B, h => by have := h.len; simp at this
  | x :: A, [], h => by have := h.len; simp at this
  | x :: A, y :: B, h => by
    obtain ⟨⟨e1, e2, e3, e4⟩, h2⟩ := h.tail
    have := Alk.bytes h2
    unfold bytesL at this ⊢
    rw [List.flatMap_cons, List.flatMap_cons, this]
    unfold rowL
    rw [e1, e2, e3, e4]
theorem Alk.refl (A : List Hd) : Alk A A := ⟨rfl, fun i x y hx hy => by rw [hx] at hy; cases hy; exact ⟨rfl, rfl, rfl, rfl⟩⟩
theorem Alk.symm {A B : List Hd} (h : Alk A B) : Alk B A := ⟨h.len.symm, fun i x y hx hy => by
  obtain ⟨e1, e2, e3, e4⟩ := h.eq i y x hy hx
  exact ⟨e1.symm, e2.symm, e3.symm, e4.symm⟩⟩
theorem Alk.trans {A B C : List Hd} (h : Alk A B) (k : Alk B C) : Alk A C := ⟨k.len.trans h.len, fun i x z hx hz => by
  obtain ⟨y, hy, f1, f2, f3, f4⟩ := k.at hz
  obtain ⟨e1, e2, e3, e4⟩ := h.eq i x y hx hy
  exact ⟨f1.trans e1, f2.trans e2, f3.trans e3, f4.trans e4⟩⟩
end Go.Proofs.YtifilhkkgkihpaaGreatDoor
