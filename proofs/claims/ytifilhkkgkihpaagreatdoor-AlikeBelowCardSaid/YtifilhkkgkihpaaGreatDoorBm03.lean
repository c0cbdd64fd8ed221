/- Walks and plain facts. -/
import Derived.Test.YtifilhkkgkihpaaGreatDoorAs21
import Derived.Test.YtifilhkkgkihpaaGreatDoorBm02
import Derived.Test.YtifilhkkgkihpaaGreatDoorBm01
set_option linter.unusedSimpArgs false
set_option linter.unusedVariables false
namespace Go.Proofs.YtifilhkkgkihpaaGreatDoor
open Go.RowKit
abbrev PrB := Nat × Nat × Bool
def okB2 (L2 : List Hd) (h : Hd) (e : ByteArray × Int) : Bool := decide (0 ≤ findK h.NS h.KS e.1) || !h.op || (match L2[e.2.toNat]? with | some z => z.kd == 5 | none => false)
def recB (h k : Hd) (t : Bool) : Option (List PrB) :=
  if (k.NS.zip k.KS).all (fun e => decide (0 ≤ findK h.NS h.KS e.1)) then some ((k.NS.zip k.KS).map fun e => ((findK h.NS h.KS e.1).toNat, e.2.toNat, t)) else none
def varGB (k : Hd) (t : Bool) (e : ByteArray × Int) : Option PrB := if 0 ≤ findK k.NS k.KS e.1 then some (e.2.toNat, (findK k.NS k.KS e.1).toNat, t) else none
def varB (L2 : List Hd) (h k : Hd) (t : Bool) : Option (List PrB) :=
  if (h.op && !k.op) = true then none
  else if ((h.NS.zip h.KS).all (fun e => decide (0 ≤ findK k.NS k.KS e.1) || k.op) && (k.NS.zip k.KS).all (okB2 L2 h)) = true then some ((h.NS.zip h.KS).filterMap (varGB k t)) else none
/-- L2: the row of the second head. -/
def askB (L2 : List Hd) (h k : Hd) (t : Bool) : Option (List PrB) :=
  if h.kd = 6 ∨ k.kd = 5 then some []
  else if h.kd ≠ k.kd then none
  else if h.kd = 7 then some [((k.KS.getD 0 0).toNat, (h.KS.getD 0 0).toNat, !t), ((h.KS.getD 1 0).toNat, (k.KS.getD 1 0).toNat, t)]
  else if h.kd = 9 then varB L2 h k t
  else if h.kd = 8 then recB h k t
  else some []
def rowB (A B : List Hd) (t : Bool) : List Hd := if t then B else A
/-- what a pair asks. -/
def stpB (A B : List Hd) (p : PrB) : Option (List PrB) := match (rowB A B p.2.2)[p.1]?, (rowB A B (!p.2.2))[p.2.1]? with
  | some h, some k => askB (rowB A B (!p.2.2)) h k p.2.2
  | _, _ => none
theorem stpB_at {A B : List Hd} {p : PrB} {h k : Hd} (h1 : (rowB A B p.2.2)[p.1]? = some h) (h2 : (rowB A B (!p.2.2))[p.2.1]? = some k) : stpB A B p = askB (rowB A B (!p.2.2)) h k p.2.2 := by
  unfold stpB; rw [h1, h2]
/-- the one is below the other one. -/
def BelowP (A B : List Hd) (ra rb : Nat) : Prop := Cst (stpB A B) (ra, rb, false)
theorem find_memB {NS : List ByteArray} {KS : List Int} {s : ByteArray} (hl : NS.length = KS.length) (h : 0 ≤ findK NS KS s) : ∃ (p : Nat) (x : Int), NS[p]? = some s ∧ KS[p]? = some x ∧ findK NS KS s = x := by
  rcases findK_cases NS KS s hl with ⟨h1, _⟩ | ⟨p, k, h1, h2, h3, _⟩
  · omega
  · exact ⟨p, k, h1, h2, h3⟩
theorem askB_range {L2 : List Hd} {N M : Nat} {h k : Hd} {t : Bool} (okh : headB h.kd h.op (N : Int) h.NS h.KS = true) (okk : headB k.kd k.op (M : Int) k.NS k.KS = true) (hN : 0 < N) (hM : 0 < M) {m : List PrB} (e : askB L2 h k t = some m) : ∀ q ∈ m, (q.2.2 = t → q.1 < N ∧ q.2.1 < M) ∧ (q.2.2 = !t → q.1 < M ∧ q.2.1 < N) := by
  obtain ⟨a1, a2, a3, a4, a5, a6, a7⟩ := head_kind okh
  obtain ⟨b1, b2, b3, b4, b5, b6, b7⟩ := head_kind okk
  have hg : ∀ (N : Nat), 0 < N → ∀ (K : List Int), (∀ k ∈ K, 0 ≤ k ∧ k < (N : Int)) → ∀ i, (K.getD i 0).toNat < N := by
    intro N hN K hK i
    rw [List.getD_eq_getElem?_getD]
    cases h : K[i]? with
    | none => simpa using hN
    | some v => have := hK v (List.mem_of_getElem? h); simp; omega
  have hne : ∀ t : Bool, ¬ t = !t := by intro t; cases t <;> decide
  unfold askB at e
  split at e
  · cases e; intro q hq; cases hq
  split at e
  · cases e
  rename_i hk
  have hk : h.kd = k.kd := by omega
  split at e
  · cases e
    intro q hq
    simp only [List.mem_cons, List.not_mem_nil, or_false] at hq
    rcases hq with rfl | rfl
    · exact ⟨fun h => absurd h.symm (hne t), fun _ => ⟨hg M hM _ b3 _, hg N hN _ a3 _⟩⟩
    · exact ⟨fun _ => ⟨hg N hN _ a3 _, hg M hM _ b3 _⟩, fun h => absurd h (hne t)⟩
  split at e
  · rename_i h9
    unfold varB at e
    split at e
    · cases e
    split at e
    · cases e
      intro q hq
      obtain ⟨e1, he, h1⟩ := List.mem_filterMap.1 hq
      unfold varGB at h1
      split at h1
      · rename_i h2
        cases h1
        obtain ⟨p, x, _, h3, h4⟩ := find_memB (b4 (by omega)) h2
        have h5 := b3 x (List.mem_of_getElem? h3)
        have h6 := a3 e1.2 (List.of_mem_zip (a := e1.1) (b := e1.2) he).2
        exact ⟨fun _ => ⟨by simp only; omega, by simp only; omega⟩, fun h => absurd h (hne t)⟩
      · cases h1
    · cases e
  split at e
  · rename_i h8
    unfold recB at e
    split at e
    · rename_i hall
      cases e
      intro q hq
      obtain ⟨e1, he, rfl⟩ := List.mem_map.1 hq
      have h2 : 0 ≤ findK h.NS h.KS e1.1 := by simpa using List.all_eq_true.1 hall e1 he
      obtain ⟨p, x, _, h3, h4⟩ := find_memB (a4 (by omega)) h2
      have h5 := a3 x (List.mem_of_getElem? h3)
      have h6 := b3 e1.2 (List.of_mem_zip (a := e1.1) (b := e1.2) he).2
      exact ⟨fun _ => ⟨by simp only; omega, by simp only; omega⟩, fun h => absurd h (hne t)⟩
    · cases e
  · cases e; intro q hq; cases hq
end Go.Proofs.YtifilhkkgkihpaaGreatDoor
