/- Plain: what a cast from one head to another one asks (chapter 10), over one row of heads, the last of which is dyn. Keys of a pair of small ints: for the maps map[pair]bool. Plain: a map from pairs to bool that tells what was asked. -/
import Derived.Test.YtifilhkkgkihpaaGreatDoorAs06
import Derived.Test.YtifilhkkgkihpaaGreatDoorAs18
import Derived.Test.YtifilhkkgkihpaaGreatDoorAs20
import Derived.Test.YtifilhkkgkihpaaGreatDoorAs02
import Derived.DeepKeys3
import Derived.Maps.Keyed
import Derived.Test.YtifilhkkgkihpaaGreatDoorAs08
set_option linter.unusedSimpArgs false
set_option linter.unusedVariables false
set_option linter.unusedSimpArgs false
set_option linter.unusedVariables false
namespace Go.Proofs.YtifilhkkgkihpaaGreatDoor
open Go.RowKit
abbrev PrA := Nat × Nat
/-- the kid of a name; of dyn it is dyn. -/
def kidD (dyn : Nat) (h : Hd) (s : ByteArray) : Int := if h.kd = 4 then (dyn : Int) else findK h.NS h.KS s
def recA (dyn : Nat) (h k : Hd) : Option (List PrA) :=
  if (k.NS.zip k.KS).all (fun e => decide (0 ≤ kidD dyn h e.1)) then some ((k.NS.zip k.KS).map fun e => ((kidD dyn h e.1).toNat, e.2.toNat)) else none
/-- a name of an open one that the other one lacks stands for any alone. -/
def anyK (L : List Hd) (h k : Hd) : Bool := (k.NS.zip k.KS).all (fun e => decide (0 ≤ findK h.NS h.KS e.1) || !h.op || (match L[e.2.toNat]? with | some z => z.kd == 5 | none => false))
def varA (L : List Hd) (h k : Hd) : Option (List PrA) :=
  if anyK L h k = true then some ((k.NS.zip k.KS).filterMap fun e => if 0 ≤ findK h.NS h.KS e.1 then some ((findK h.NS h.KS e.1).toNat, e.2.toNat) else none) else none
def askA (L : List Hd) (dyn : Nat) (h k : Hd) : Option (List PrA) :=
  if h.kd = 6 ∨ k.kd = 5 then some []
  else if h.kd = 5 then none
  else if h.kd = 4 then
    if k.kd = 7 then some [((k.KS.getD 0 0).toNat, dyn), (dyn, (k.KS.getD 1 0).toNat)]
    else if k.kd = 8 ∨ k.kd = 9 then some (k.KS.map fun x => (dyn, x.toNat))
    else some []
  else if k.kd = 4 then
    if h.kd = 7 then some [(dyn, (h.KS.getD 0 0).toNat), ((h.KS.getD 1 0).toNat, dyn)]
    else if h.kd = 8 then some (h.KS.map fun x => (x.toNat, dyn))
    else if h.kd = 9 then (if h.op then none else some (h.KS.map fun x => (x.toNat, dyn)))
    else some []
  else if h.kd ≠ k.kd then none
  else if h.kd = 7 then some [((k.KS.getD 0 0).toNat, (h.KS.getD 0 0).toNat), ((h.KS.getD 1 0).toNat, (k.KS.getD 1 0).toNat)]
  else if h.kd = 8 then recA dyn h k
  else if h.kd = 9 then varA L h k
  else some []
/-- what a pair asks. -/
def stpA (L : List Hd) (dyn : Nat) (p : PrA) : Option (List PrA) := match L[p.1]?, L[p.2]? with
  | some h, some k => askA L dyn h k
  | _, _ => none
theorem stpA_at {L : List Hd} {dyn : Nat} {p : PrA} {h k : Hd} (h1 : L[p.1]? = some h) (h2 : L[p.2]? = some k) : stpA L dyn p = askA L dyn h k := by
  unfold stpA; rw [h1, h2]
/-- the row of two graphs' heads, and dyn. -/
def dynH : Hd := ⟨4, none, 0, 0, [], none, 0, 0, [], false⟩
def rowA (A B : List Hd) : List Hd := two A B ++ [dynH]
/-- a cast may be. -/
def MayA (A B : List Hd) (ra rb : Nat) : Prop := Cst (stpA (rowA A B) (A.length + B.length)) (ra, A.length + rb)
/-- two rows of the same heads. -/
def SameH (L L' : List Hd) : Prop := L.length = L'.length ∧ ∀ (i : Nat) h h', L[i]? = some h → L'[i]? = some h' → h.kd = h'.kd ∧ h.NS = h'.NS ∧ h.KS = h'.KS ∧ h.op = h'.op
theorem SameH.at {L L' : List Hd} (s : SameH L L') (i : Nat) : (L[i]? = none ∧ L'[i]? = none) ∨ ∃ h h', L[i]? = some h ∧ L'[i]? = some h' ∧ h.kd = h'.kd ∧ h.NS = h'.NS ∧ h.KS = h'.KS ∧ h.op = h'.op := by
  cases h1 : L[i]? with
  | none => exact .inl ⟨rfl, by rw [List.getElem?_eq_none_iff] at h1 ⊢; rw [← s.1]; exact h1⟩
  | some h =>
    have hl := (List.getElem?_eq_some_iff.1 h1).1
    have h2 : L'[i]? = some (L'[i]'(by rw [← s.1]; exact hl)) := List.getElem?_eq_getElem _
    exact .inr ⟨h, _, rfl, h2, s.2 i h _ h1 h2⟩
theorem SameH.any {L L' : List Hd} (s : SameH L L') {h h' k k' : Hd} (e1 : h.NS = h'.NS) (e2 : h.KS = h'.KS) (e3 : h.op = h'.op) (f1 : k.NS = k'.NS) (f2 : k.KS = k'.KS) : anyK L h k = anyK L' h' k' := by
  unfold anyK
  rw [e1, e2, e3, f1, f2]
  congr 1
  funext e
  rcases s.at e.2.toNat with ⟨g1, g2⟩ | ⟨z, z', g1, g2, g3, _⟩
  · rw [g1, g2]
  · rw [g1, g2]; simp only [g3]
theorem SameH.stp {L L' : List Hd} (s : SameH L L') (dyn : Nat) (p : PrA) : stpA L dyn p = stpA L' dyn p := by
  unfold stpA
  rcases s.at p.1 with ⟨g1, g2⟩ | ⟨h, h', g1, g2, a1, a2, a3, a4⟩
  · rw [g1, g2]
  · rcases s.at p.2 with ⟨g3, g4⟩ | ⟨k, k', g3, g4, b1, b2, b3, b4⟩
    · rw [g1, g2, g3, g4]
    · rw [g1, g2, g3, g4]
      simp only
      unfold askA varA recA kidD
      rw [s.any a2 a3 a4 b2 b3, a1, a2, a3, a4, b1, b2, b3]
theorem SameH.step {L L' : List Hd} (s : SameH L L') (dyn : Nat) : stpA L dyn = stpA L' dyn := funext (s.stp dyn)
end Go.Proofs.YtifilhkkgkihpaaGreatDoor
set_option linter.unusedSimpArgs false
set_option linter.unusedVariables false
namespace Go.Proofs.YtifilhkkgkihpaaGreatDoor
open Go.RowKit Go.WideShapes
theorem pair141 : Maps.Keyed Tryz.prog 141 := Maps.Keyed.of_law (deep_law (m := 2) (by omega) (by kernel_rfl) (by kernel_rfl) (by kernel_rfl))
/-- a struct of two ints. -/
def pairB (P : Program) (k : TypeId) : Bool :=
  match P.underlying k with
  | some (.struct fs) => match fs.toList with
    | [f, g] => f.name != "_" && g.name != "_" && f.type == 3 && g.type == 3 && f.offset == 0 && g.offset == 1
    | _ => false
  | _ => false
theorem pair_lits {P : Program} {k : TypeId} (h : pairB P k = true) (hc : P.cellsOf k = 2) (h3 : P.underlying 3 = some (.int .i64)) (hc3 : P.cellsOf 3 = 1) {a b : Int}
    (ha : (Lit.int .i64 a).wf = true) (hb : (Lit.int .i64 b).wf = true) (d : Nat) : P.keyLits (d + 2) k [.int .i64 a, .int .i64 b] = some [.int .i64 a, .int .i64 b] := by
  unfold pairB at h
  split at h
  · rename_i fs hu
    split at h
    · rename_i f g he
      simp only [Bool.and_eq_true, bne_iff_ne, beq_iff_eq] at h
      obtain ⟨⟨⟨⟨⟨n1, n2⟩, t1⟩, t2⟩, o1⟩, o2⟩ := h
      have hall : fs.all (·.name != "_") = true := by
        rw [← Array.all_toList, he]; simp [n1, n2]
      have p1 : ∀ z : Int, (Lit.int .i64 z).wf = true → P.keyLits (d + 1) 3 [.int .i64 z] = some [.int .i64 z] := by
        intro z hz
        unfold Program.keyLits
        simp only [h3, hz, and_self, if_true]
      unfold Program.keyLits
      simp only [hu, hc, hall, List.length_cons, List.length_nil, Nat.zero_add, Nat.reduceAdd, and_self, if_true, he, List.mapM_cons, List.mapM_nil, t1, t2, o1, o2, hc3, List.drop_zero, List.take, List.drop, p1 a ha, p1 b hb]
      rfl
    · cases h
  · cases h
theorem pair_key {P : Program} {k : TypeId} (h : pairB P k = true) (hc : P.cellsOf k = 2) (h3 : P.underlying 3 = some (.int .i64)) (hc3 : P.cellsOf 3 = 1) (hk : P.keyType k = true) {a b : Int}
    (ha : (Lit.int .i64 a).wf = true) (hb : (Lit.int .i64 b).wf = true) (hs : 1 ≤ P.types.size) : keyOf P k (.agg #[.int .i64 a, .int .i64 b]) = some (.string (keyBytes [.int .i64 a, .int .i64 b])) := by
  obtain ⟨d, hd⟩ : ∃ d, P.types.size + 1 = d + 2 := ⟨P.types.size - 1, by omega⟩
  have hl := pair_lits h hc h3 hc3 ha hb d
  have h' := h
  unfold pairB at h'
  split at h'
  · rename_i fs hu
    unfold keyOf
    simp only [hu, hk, Value.formed, hc, Value.cells, hd, hl, Option.map_some]
    simp
  · cases h'
theorem key141 {a b : Int} (ha : (Lit.int .i64 a).wf = true) (hb : (Lit.int .i64 b).wf = true) : keyOf Tryz.prog 141 (.agg #[.int .i64 a, .int .i64 b]) = some (.string (keyBytes [.int .i64 a, .int .i64 b])) :=
  pair_key (by kernel_rfl) (by kernel_rfl) (by kernel_rfl) (by kernel_rfl) (by kernel_rfl) ha hb (Nat.le_of_ble_eq_true (by kernel_rfl))
end Go.Proofs.YtifilhkkgkihpaaGreatDoor
set_option linter.unusedSimpArgs false
set_option linter.unusedVariables false
namespace Go.Proofs.YtifilhkkgkihpaaGreatDoor
open Go.RowKit
/-- a map to bool that holds true at the members of S, over the keys that are ok. -/
structure SetP {α : Type} [DecidableEq α] (kl : α → Lit) (ok : α → Prop) (D : DataW Unit) (S : List α) : Prop where
  tidy : Maps.Tidy D
  has : ∀ x, ok x → Maps.has D (kl x) = decide (x ∈ S)
  at_ : ∀ x, ok x → D.atKey (kl x) (.lit (.bool false)) = .lit (.bool (decide (x ∈ S)))
section
variable {α : Type} [DecidableEq α] {kl : α → Lit} {ok : α → Prop}
theorem SetP.nil : SetP kl ok (.map []) [] := ⟨Maps.tidy_empty, fun _ _ => rfl, fun _ _ => rfl⟩
theorem SetP.put (hi : ∀ x y, ok x → ok y → kl x = kl y → x = y) (hk : ∀ x, WideAt.IsKeyLit (kl x)) {D : DataW Unit} {S : List α} (h : SetP kl ok D S) (c : α) (hc : ok c) : SetP kl ok (D.put (kl c) (.lit (.bool true))) (c :: S) where
  tidy := h.tidy.put (hk c) _
  has y hy := by
    by_cases hxy : y = c
    · subst hxy
      rw [Maps.has_put_same h.tidy.isMap (hk y)]; simp
    · rw [Maps.has_put_other (fun e => hxy (hi y c hy hc e)), h.has y hy]; simp [hxy]
  at_ y hy := by
    by_cases hxy : y = c
    · subst hxy
      rw [Maps.atKey_put_same h.tidy.isMap (hk y)]; simp
    · rw [Maps.atKey_put_other (fun e => hxy (hi y c hy hc e)), h.at_ y hy]; simp [hxy]
end
/-- alike's pairs: both numbers small. -/
abbrev okA (p : Nat × Nat) : Prop := p.1 < 300 ∧ p.2 < 300
abbrev klA (p : Nat × Nat) : Lit := .string (keyBytes [.int .i64 (p.1 : Int), .int .i64 (p.2 : Int)])
abbrev vlA (p : Nat × Nat) : Value := .agg #[.int .i64 (p.1 : Int), .int .i64 (p.2 : Int)]
theorem keyA (p : Nat × Nat) (h : okA p) : keyOf Tryz.prog 141 (vlA p) = some (klA p) := key141 (wf_small _ (by have := h.1; omega)) (wf_small _ (by have := h.2; omega))
theorem klA_inj (p q : Nat × Nat) (hp : okA p) (hq : okA q) (h : klA p = klA q) : p = q := by
  have h1 := keyA p hp
  have h2 := keyA q hq
  rw [← h] at h2
  have h3 := pair141.inj h1 h2
  obtain ⟨a, b⟩ := p
  obtain ⟨c, d⟩ := q
  simp only [vlA, Value.agg.injEq, Array.mk.injEq, List.cons.injEq, Value.int.injEq, true_and, and_true] at h3
  exact Prod.ext (by omega) (by omega)
theorem klA_is (p : Nat × Nat) : WideAt.IsKeyLit (klA p) := by simp [WideAt.IsKeyLit]
/-- below's pairs. -/
abbrev okB (p : Nat × Nat × Bool) : Prop := p.1 < 150 ∧ p.2.1 < 150
abbrev klB (p : Nat × Nat × Bool) : Lit := .string (keyBytes [.int .i64 (p.1 : Int), .int .i64 (p.2.1 : Int), .bool p.2.2])
abbrev vlB (p : Nat × Nat × Bool) : Value := .agg #[.int .i64 (p.1 : Int), .int .i64 (p.2.1 : Int), .bool p.2.2]
end Go.Proofs.YtifilhkkgkihpaaGreatDoor
