/- Walks and plain facts. -/
import Derived.Test.YtifilhkkgkihpaaGreatDoorAs21
import Derived.Test.YtifilhkkgkihpaaGreatDoorAs02
import Derived.DeepKeys3
import Derived.Maps.Keyed
import Derived.Test.YtifilhkkgkihpaaGreatDoorAs08
import Derived.Test.YtifilhkkgkihpaaGreatDoorAs29
import Derived.Test.YtifilhkkgkihpaaGreatDoorBm01
import Derived.Test.YtifilhkkgkihpaaGreatDoorBm02
set_option linter.unusedSimpArgs false
set_option linter.unusedVariables false
namespace Go.Proofs.YtifilhkkgkihpaaGreatDoor
open Go.RowKit Go.WideShapes
theorem pair126 : Maps.Keyed Tryz.prog 126 := Maps.Keyed.of_law (deep_law (m := 2) (by omega) (by kernel_rfl) (by kernel_rfl) (by kernel_rfl))
/-- a struct of two ints and a bool. -/
def trioB (P : Program) (k bo : TypeId) : Bool :=
  match P.underlying k with
  | some (.struct fs) => match fs.toList with
    | [f, g, h] => f.name != "_" && g.name != "_" && h.name != "_" && f.type == 3 && g.type == 3 && h.type == bo && f.offset == 0 && g.offset == 1 && h.offset == 2
    | _ => false
  | _ => false
theorem trio_lits {P : Program} {k bo : TypeId} (h : trioB P k bo = true) (hc : P.cellsOf k = 3) (h3 : P.underlying 3 = some (.int .i64)) (hc3 : P.cellsOf 3 = 1) (hb0 : P.underlying bo = some .bool) (hcb : P.cellsOf bo = 1) {a b : Int} {t : Bool}
    (ha : (Lit.int .i64 a).wf = true) (hb : (Lit.int .i64 b).wf = true) (d : Nat) : P.keyLits (d + 2) k [.int .i64 a, .int .i64 b, .bool t] = some [.int .i64 a, .int .i64 b, .bool t] := by
  unfold trioB at h
  split at h
  · rename_i fs hu
    split at h
    · rename_i f g q he
      simp only [Bool.and_eq_true, bne_iff_ne, beq_iff_eq] at h
      obtain ⟨⟨⟨⟨⟨⟨⟨⟨n1, n2⟩, n3⟩, t1⟩, t2⟩, t3⟩, o1⟩, o2⟩, o3⟩ := h
      have hall : fs.all (·.name != "_") = true := by
        rw [← Array.all_toList, he]; simp [n1, n2, n3]
      have p1 : ∀ z : Int, (Lit.int .i64 z).wf = true → P.keyLits (d + 1) 3 [.int .i64 z] = some [.int .i64 z] := by
        intro z hz
        unfold Program.keyLits
        simp only [h3, hz, and_self, if_true]
      have p2 : P.keyLits (d + 1) bo [.bool t] = some [.bool t] := by
        unfold Program.keyLits
        simp only [hb0]
      unfold Program.keyLits
      simp only [hu, hc, hall, List.length_cons, List.length_nil, Nat.zero_add, Nat.reduceAdd, and_self, if_true, he, List.mapM_cons, List.mapM_nil, t1, t2, t3, o1, o2, o3, hc3, hcb, List.drop_zero, List.take, List.drop, p1 a ha, p1 b hb, p2]
      rfl
    · cases h
  · cases h
theorem trio_key {P : Program} {k bo : TypeId} (h : trioB P k bo = true) (hc : P.cellsOf k = 3) (h3 : P.underlying 3 = some (.int .i64)) (hc3 : P.cellsOf 3 = 1) (hb0 : P.underlying bo = some .bool) (hcb : P.cellsOf bo = 1) (hk : P.keyType k = true) {a b : Int} {t : Bool}
    (ha : (Lit.int .i64 a).wf = true) (hb : (Lit.int .i64 b).wf = true) (hs : 1 ≤ P.types.size) : keyOf P k (.agg #[.int .i64 a, .int .i64 b, .bool t]) = some (.string (keyBytes [.int .i64 a, .int .i64 b, .bool t])) := by
  obtain ⟨d, hd⟩ : ∃ d, P.types.size + 1 = d + 2 := ⟨P.types.size - 1, by omega⟩
  have hl := trio_lits h hc h3 hc3 hb0 hcb (t := t) ha hb d
  have h' := h
  unfold trioB at h'
  split at h'
  · rename_i fs hu
    unfold keyOf
    simp only [hu, hk, Value.formed, hc, Value.cells, hd, hl, Option.map_some]
    simp
  · cases h'
theorem key126 {a b : Int} {t : Bool} (ha : (Lit.int .i64 a).wf = true) (hb : (Lit.int .i64 b).wf = true) : keyOf Tryz.prog 126 (.agg #[.int .i64 a, .int .i64 b, .bool t]) = some (.string (keyBytes [.int .i64 a, .int .i64 b, .bool t])) :=
  trio_key (bo := 4) (by kernel_rfl) (by kernel_rfl) (by kernel_rfl) (by kernel_rfl) (by kernel_rfl) (by kernel_rfl) (by kernel_rfl) ha hb (Nat.le_of_ble_eq_true (by kernel_rfl))
end Go.Proofs.YtifilhkkgkihpaaGreatDoor
namespace Go.Proofs.YtifilhkkgkihpaaGreatDoor
open Go.RowKit
section
variable {α : Type} [DecidableEq α] {kl : α → Lit} {ok : α → Prop}
end
theorem keyPB (p : Nat × Nat × Bool) (h : okB p) : keyOf Tryz.prog 126 (vlB p) = some (klB p) := key126 (wf_small _ (by have := h.1; omega)) (wf_small _ (by have := h.2; omega))
theorem klB_inj (p q : Nat × Nat × Bool) (hp : okB p) (hq : okB q) (h : klB p = klB q) : p = q := by
  have h1 := keyPB p hp
  have h2 := keyPB q hq
  rw [← h] at h2
  have h3 := pair126.inj h1 h2
  obtain ⟨a, b, s⟩ := p
  obtain ⟨c, d, t⟩ := q
  simp only [vlB, Value.agg.injEq, Array.mk.injEq, List.cons.injEq, Value.int.injEq, Value.bool.injEq, true_and, and_true] at h3
  obtain ⟨e1, e2, e3⟩ := h3
  subst e3
  exact Prod.ext (by simpa using (by omega : a = c)) (Prod.ext (by simpa using (by omega : b = d)) rfl)
theorem klB_is (p : Nat × Nat × Bool) : WideAt.IsKeyLit (klB p) := by simp [WideAt.IsKeyLit]
end Go.Proofs.YtifilhkkgkihpaaGreatDoor
namespace Go.Proofs.YtifilhkkgkihpaaGreatDoor
open Go.RowKit
theorem Tryz.infoPB : (Tryz.prog.info? 126).map (fun i => (i.zero, i.size, i.bytes)) = some (some (.agg #[.int .i64 0, .int .i64 0, .bool false]), 3, 24) := by kernel_rfl
end Go.Proofs.YtifilhkkgkihpaaGreatDoor
