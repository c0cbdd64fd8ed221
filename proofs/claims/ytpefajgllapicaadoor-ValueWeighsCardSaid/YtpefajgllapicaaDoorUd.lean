/- Walks: Parts; what Made reads and holds. -/
import Derived.Test.YtpefajgllapicaaDoorUc
set_option linter.unusedVariables false
namespace Go.Proofs.YtpefajgllapicaaDoor
open Go.RowKit
def PartsPost (w : World) (e : Ending) (w' : World) : Prop := ∃ (a : Bool) (c d : Int) (z n : Bool), e = .returned (.tuple #[.bool a, .int .i64 c, .int .u64 d, .bool z, .bool n]) ∧ w = w'
set_option maxHeartbeats 400000 in
theorem parts_any (n : Nat) (hn : n < 2 ^ 64) (w : World) : Calls Tryd.prog 14 #[.int .u64 n] w (PartsPost w) := by
  obtain ⟨S, hs⟩ : ∃ S : Bool, (((n : Int) / 9223372036854775808) == 1) = S := ⟨_, rfl⟩
  obtain ⟨E, hE⟩ : ∃ E, n / 2 ^ 52 % 2048 = E := ⟨_, rfl⟩
  obtain ⟨M, hM⟩ : ∃ M, n % 2 ^ 52 = M := ⟨_, rfl⟩
  have hE1 : (n : Int) / 4503599627370496 % 2048 = (E : Int) := by omega
  have hM1 : (n : Int) % 4503599627370496 = (M : Int) := by omega
  have bE : E < 2048 := by omega
  have bM : M < 4503599627370496 := by omega
  clear hE hM
  by_cases h1 : E = 2047
  · have he : ((E : Int) == 2047) = true := by simp [h1]
    clear h1
    go_enter Tryd.func14, Tryd.ntmps14
    go_wp2
    exact bodyPost_ret (v := .tuple #[.bool S, .int .i64 0, .int .u64 0, .bool ((M : Int) == 0), .bool ((M : Int) != 0)]) (by simp [results, Tryd.results14, go_sem]) rfl ⟨_, _, _, _, _, rfl, rfl⟩
  · by_cases h2 : E = 0
    · have he : ((E : Int) == 2047) = false := by simp; omega
      have he0 : ((E : Int) == 0) = true := by simp [h2]
      clear h1 h2
      go_enter Tryd.func14, Tryd.ntmps14
      go_wp2
      exact bodyPost_ret (v := .tuple #[.bool S, .int .i64 (-1074), .int .u64 M, .bool false, .bool false]) (by simp [results, Tryd.results14, hM1, go_sem]) rfl ⟨_, _, _, _, _, rfl, rfl⟩
    · have he : ((E : Int) == 2047) = false := by simp; omega
      have he0 : ((E : Int) == 0) = false := by simp; omega
      clear h1 h2
      go_enter Tryd.func14, Tryd.ntmps14
      go_wp2
      exact bodyPost_ret (v := .tuple #[.bool S, .int .i64 ((E : Int) - 1075), .int .u64 ((M + 4503599627370496 : Nat) : Int), .bool false, .bool false]) (by simp [results, Tryd.results14, go_sem]) rfl ⟨_, _, _, _, _, rfl, rfl⟩
/-- a shape, as it lies. -/
structure Shp where
  kd : Int
  it : Int
  bt : Nat
  st : ByteArray
  na : Option Addr
  nn : Nat
  nc : Nat
  NS : List ByteArray
  ka : Option Addr
  kn : Nat
  kc : Nat
  KS : List Int
structure ShpIn (w : World) (b off i : Nat) (t : Shp) : Prop where
  c0 : w.cell? ⟨b, off + i * 6, none⟩ = some (.int .i64 t.kd)
  c1 : w.cell? ⟨b, off + i * 6 + 1, none⟩ = some (.int .i64 t.it)
  c2 : w.cell? ⟨b, off + i * 6 + 2, none⟩ = some (.int .u64 (t.bt : Int))
  c3 : w.cell? ⟨b, off + i * 6 + 3, none⟩ = some (.string t.st)
  c4 : w.cell? ⟨b, off + i * 6 + 4, none⟩ = some (.slice t.na t.nn t.nc)
  c5 : w.cell? ⟨b, off + i * 6 + 5, none⟩ = some (.slice t.ka t.kn t.kc)
  lt : b < w.heap.size
  bits : t.bt < 2 ^ 64
  names : NamesAt w t.na t.nn t.NS
  nnc : t.nn ≤ t.nc
  knl : t.kn = t.KS.length
  knc : t.kn ≤ t.kc
  kcc : t.kc ≤ maxLen
  kids : t.kn = 0 ∨ ∃ gk ok, t.ka = some ⟨gk, ok, none⟩ ∧ gk < w.heap.size ∧ ∀ j k, t.KS[j]? = some k → w.cell? ⟨gk, ok + j, none⟩ = some (.int .i64 k)
  kwf : ∀ k ∈ t.KS, (Lit.int .i64 k).wf = true
theorem NamesAt.on {w w' : World} {an : Option Addr} {n : Nat} {NS : List ByteArray} (h : NamesAt w an n NS) (hb : Below w.heap.size w w') : NamesAt w' an n NS := by
  refine ⟨h.1, ?_⟩
  rcases h.2 with h' | ⟨gn, on, e, hg, hc⟩
  · exact Or.inl h'
  · exact Or.inr ⟨gn, on, e, Nat.lt_of_lt_of_le hg hb.size, fun i s hi => by rw [← hc i s hi]; exact hb.cell (p := ⟨gn, on + i, none⟩) hg⟩
theorem ShpIn.on {w w' : World} {b off i : Nat} {t : Shp} (h : ShpIn w b off i t) (hb : Below w.heap.size w w') : ShpIn w' b off i t where
  c0 := by rw [← h.c0]; exact hb.cell (p := ⟨b, _, none⟩) h.lt
  c1 := by rw [← h.c1]; exact hb.cell (p := ⟨b, _, none⟩) h.lt
  c2 := by rw [← h.c2]; exact hb.cell (p := ⟨b, _, none⟩) h.lt
  c3 := by rw [← h.c3]; exact hb.cell (p := ⟨b, _, none⟩) h.lt
  c4 := by rw [← h.c4]; exact hb.cell (p := ⟨b, _, none⟩) h.lt
  c5 := by rw [← h.c5]; exact hb.cell (p := ⟨b, _, none⟩) h.lt
  lt := Nat.lt_of_lt_of_le h.lt hb.size
  bits := h.bits
  names := h.names.on hb
  nnc := h.nnc
  knl := h.knl
  knc := h.knc
  kcc := h.kcc
  kids := by
    rcases h.kids with h' | ⟨gk, ok, e, hg, hc⟩
    · exact Or.inl h'
    · exact Or.inr ⟨gk, ok, e, Nat.lt_of_lt_of_le hg hb.size, fun i s hi => by rw [← hc i s hi]; exact hb.cell (p := ⟨gk, ok + i, none⟩) hg⟩
  kwf := h.kwf
/-- a value made, its weight, its size. -/
structure Mde where
  k : Kid
  h : Nat
  n : Nat
def kidsOf (Z : List Mde) : List Kid := Z.map (·.k)
def sizeOf' (Z : List Mde) : Nat := (Z.map (·.n)).sum
/-- what holds of all that were made. -/
structure OkM (w : World) (F : Nat → Prop) (e : Mde) : Prop where
  vt : VT w F e.k e.h
  le : e.h ≤ 31 * e.n
  pos : 1 ≤ e.n
  top : e.n ≤ 200
theorem OkM.on {w w' : World} {F F' : Nat → Prop} {e : Mde} (h : OkM w F e) (hF : ∀ b, F b → F' b) (hb : ∀ b, F b → w'.heap[b]? = w.heap[b]?) : OkM w' F' e := ⟨h.vt.on hF hb, h.le, h.pos, h.top⟩
/-- the row of all that were made. -/
structure OutIn (w : World) (base : Nat) (F : Nat → Prop) (v4 v5 : Value) (Z : List Mde) : Prop where
  out : w.ownsRow base 28 8 v4 Z.length (cells (kRowK (kidsOf Z)))
  size : w.ownsRow base 3 1 v5 Z.length (Z.map fun e => Value.int .i64 (e.n : Int))
  ok : ∀ e ∈ Z, OkM w F e
  lt : ∀ b, F b → b < w.heap.size
  n4 : ∀ b, F b → v4.ownBlock ≠ some b
  n5 : ∀ b, F b → v5.ownBlock ≠ some b
  t28 : ∀ b, F b → base ≤ b
theorem OutIn.on {w w' : World} {base : Nat} {F : Nat → Prop} {v4 v5 : Value} {Z : List Mde} (h : OutIn w base F v4 v5 Z) (hb : Below w.heap.size w w') : OutIn w' base F v4 v5 Z where
  out := h.out.kept (row := none) ⟨hb.os, hb.tape, hb.output, hb.size, fun k hk _ => hb.block k hk⟩ (Classical.em (v4.ownBlock = none))
  size := h.size.kept (row := none) ⟨hb.os, hb.tape, hb.output, hb.size, fun k hk _ => hb.block k hk⟩ (Classical.em (v5.ownBlock = none))
  ok e he := (h.ok e he).on (fun _ h => h) (fun b hF => hb.block b (h.lt b hF))
  lt b hF := Nat.lt_of_lt_of_le (h.lt b hF) hb.size
  n4 := h.n4
  n5 := h.n5
  t28 := h.t28
theorem cells_len (E : List Ent) : (cells E).length = E.length * 8 := by
  induction E with
  | nil => rfl
  | cons e l ih =>
    rw [cells_cons, List.length_append, ih]
    have : e.2.cells.length = 8 := rfl
    simp; omega
theorem cells_snoc (L : List Kid) (k : Kid) : cells (kRowK (L ++ [k])) = cells (kRowK L) ++ k.cells := by
  unfold kRowK cells
  simp
theorem kRowK_at (L : List Kid) (j : Nat) (k : Kid) (h : L[j]? = some k) : (kRowK L)[j]? = some (⟨#[]⟩, k) := by unfold kRowK; rw [List.getElem?_map, h]; rfl
end Go.Proofs.YtpefajgllapicaaDoor
