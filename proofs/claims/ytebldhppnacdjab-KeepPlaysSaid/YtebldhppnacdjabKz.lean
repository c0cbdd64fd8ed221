/- The acts of the laws as they come in; two keeps begun. -/
import Derived.Test.YtebldhppnacdjabKy
set_option linter.unusedVariables false
namespace Go.Proofs.Ytebldhppnacdjab
open Go.RowKit
/-- an act: its kind, its number, its key. -/
structure ActI where
  kind : Int
  n : Int
  ka : Option Addr
  kl : Nat
  kc : Nat
  kb : List Int
/-- an act as it lies. -/
def ActIn (w : World) (b off i : Nat) (t : ActI) : Prop :=
  w.cell? ⟨b, off + i * 3, none⟩ = some (.int .i64 t.kind) ∧ w.cell? ⟨b, off + i * 3 + 1, none⟩ = some (.int .i64 t.n) ∧ w.cell? ⟨b, off + i * 3 + 2, none⟩ = some (.slice t.ka t.kl t.kc) ∧
    (t.kl ≤ 50 → Row w (.slice t.ka t.kl t.kc) t.kb ∧ Byt t.kb ∧ t.kb.length ≤ 50)
theorem Two.more {w0 w : World} {KA KB : Nat} {mo : Int} {s s' : Nat} {PA PB : List (List Int × Int)} {X : Nat} {o : Obj} (h : Two w0 w KA KB mo s PA PB X o) (hs : s ≤ s') : Two w0 w KA KB mo s' PA PB X o := by
  obtain ⟨FA, FB, h⟩ := h
  exact ⟨FA, FB, { h with a := h.a.keep hs (Nat.le_refl _) (fun _ _ => rfl), b := h.b.keep hs (Nat.le_refl _) (fun _ _ => rfl) }⟩
theorem two_start {w0 w1 w2 w3 : World} {mo : Int} (h1 : Laid w1 w2 mo 13) (h2 : Laid w2 w3 mo 9) (hb : Below w0.heap.size w0 w1) (o : Obj) : Two w0 (w3.alloc o) (w1.heap.size + 1) (w2.heap.size + 1) mo 0 [] [] w3.heap.size o := by
  have hs1 := hb.size
  have hs2 := h1.2.2
  have hs3 := h2.2.2
  have ka := h1.ks keepHashes.hashI w0.heap.size (by omega)
  have kb := h2.ks (fun _ => 7) w0.heap.size (by omega)
  have hb3 := h2.2.1
  have ka3 : One w0 (w3.alloc o) (fun k => w1.heap.size ≤ k ∧ k < w2.heap.size) (w1.heap.size + 1) mo 13 keepHashes.hashI 0 [] :=
    ⟨0, 0, 0, ka.keep (by simp; omega) (fun k hk => (Below.heap_alloc w3 o k (by omega)).trans (hb3.block k hk.2)), by omega, by omega, by omega⟩
  have kb3 : One w0 (w3.alloc o) (fun k => w2.heap.size ≤ k ∧ k < w3.heap.size) (w2.heap.size + 1) mo 9 (fun _ => 7) 0 [] :=
    ⟨0, 0, 0, kb.keep (by simp) (fun k hk => Below.heap_alloc w3 o k hk.2), by omega, by omega, by omega⟩
  refine ⟨_, _, {
    a := ka3
    b := kb3
    dj := fun x hx hx2 => by omega
    lo := fun x hx => by omega
    be := ((hb.trans (h1.2.1.mono hs1)).trans (hb3.mono (by omega))).alloc (by omega) o
    xh := heap_alloc_new w3 o
    xa := fun hc => by omega
    xb := fun hc => by omega }⟩
theorem act_cells {w0 w : World} {KA KB : Nat} {mo : Int} {s : Nat} {PA PB : List (List Int × Int)} {X : Nat} {a b c : Value} (h : Two w0 w KA KB mo s PA PB X (.cells #[a, b, c] 31)) : w.cell? ⟨X, 0, none⟩ = some a ∧ w.cell? ⟨X, 1, none⟩ = some b ∧ w.cell? ⟨X, 2, none⟩ = some c := by
  have hx := h.xh
  exact ⟨by rw [cell_of_row w X 0 _ 31 _ hx]; rfl, by rw [cell_of_row w X 1 _ 31 _ hx]; rfl, by rw [cell_of_row w X 2 _ 31 _ hx]; rfl⟩
end Go.Proofs.Ytebldhppnacdjab
