/- Walks: Record. -/
import Derived.Test.YtoakfninndkgaaaGreatDoorGa07
set_option linter.unusedSimpArgs false
set_option linter.unusedVariables false
set_option linter.unusedVariables false
namespace Go.Proofs.YtoakfninndkgaaaGreatDoor.Val
open Go.RowKit
theorem own_slice {w : World} {base : Nat} {e : TypeId} {size n : Nat} {v : Value} {xs : List Value} (h : w.ownsRow base e size v n xs) : ∃ a c, v = .slice a n c := by
  rcases h.2 with ⟨rfl, rfl⟩ | ⟨g, cap, cur, rfl, -⟩
  · exact ⟨none, 0, rfl⟩
  · exact ⟨_, cap, rfl⟩
theorem grown_at {w w' : World} {b : Nat} (h : w.grownBy w' (some b)) (a : Addr) (ha : a.block = b) (v : Value) : w.grownBy (w'.setCell a v) (some b) :=
  ⟨h.os, h.tape, h.output, by simpa using h.size, fun j hj hne => by rw [Below.heap_setCell _ _ _ _ (fun e => hne (by rw [e, ha]))]; exact h.block j hj hne⟩
theorem grown_new {w w' : World} {r : Option Nat} (h : w.grownBy w' r) (a : Addr) (ha : w.heap.size ≤ a.block) (v : Value) : w.grownBy (w'.setCell a v) r :=
  ⟨h.os, h.tape, h.output, by simpa using h.size, fun j hj hne => by rw [Below.heap_setCell _ _ _ _ (by omega)]; exact h.block j hj hne⟩
theorem own_base {w : World} {Z X : Nat} {e : TypeId} {size n : Nat} {v : Value} {xs : List Value} (h : w.ownsRow Z e size v n xs) (hx : X ≤ Z) : w.ownsRow X e size v n xs := by
  refine ⟨h.1, ?_⟩
  rcases h.2 with h' | ⟨g, cap, cur, e1, e2, e3⟩
  · exact Or.inl h'
  · exact Or.inr ⟨g, cap, cur, e1, by omega, e3⟩
set_option maxRecDepth 20000 in
set_option maxHeartbeats 4000000 in
theorem record_A (w : World) (gn on ln cn gk lk ck m : Nat) (P : List Ent) (hOf : Kid → Nat) (hm : m = P.length) (hm2 : m ≤ 1000) (hP : PairsIn w gn on gk P) (hln : m ≤ ln) (hlk : m ≤ lk) (hcn : ln ≤ cn) (hck : lk ≤ ck) (hc : ck ≤ 9223372036854775807)
    (hmin : lk ≤ ln) (hreq : m = lk) (hgn : 0 < m → gn < w.heap.size) (hgk : 0 < m → gk < w.heap.size) (hW : ∀ e ∈ P, Weighs w e.2.val (hOf e.2)) (hB : ∀ e ∈ P, hOf e.2 ≤ 100000) :
    Calls Tryz.prog 48 #[.slice (some ⟨gn, on, none⟩) ln cn, .slice (some ⟨gk, 0, none⟩) lk ck] w fun e w' => ∃ aN cN aK cK, e = .returned (.agg #[.int .i64 4, .int .i64 0, .int .u64 0, .string ⟨#[]⟩, .slice aN (upE P m).length cN, .slice aK (upE P m).length cK, .pointer none, .int .i64 ((1 + sumH (hAt hOf (upE P m)) (upE P m).length : Nat) : Int)]) ∧
      w'.ownsRow w.heap.size 9 1 (.slice aN (upE P m).length cN) (upE P m).length ((names (upE P m)).map Value.string) ∧ w'.ownsRow w.heap.size 70 8 (.slice aK (upE P m).length cK) (upE P m).length (cells (upE P m)) ∧ Below w.heap.size w w' := by
  have HP := Lib.hid hP
  have HW := Lib.hid hW
  have HB := Lib.hid hB
  have HGN := Lib.hid hgn
  have HGK := Lib.hid hgk
  have HM := Lib.hid hm
  have hx0 : ((w.alloc (.cells #[.int .i64 0, .int .i64 0, .int .u64 0, .string ⟨#[]⟩, .slice none 0 0, .slice none 0 0, .pointer none, .int .i64 0] 70)).alloc (.cells #[.slice none 0 0, .slice none 0 0] 120)).heap[w.heap.size]? = some (.cells #[.int .i64 0, .int .i64 0, .int .u64 0, .string ⟨#[]⟩, .slice none 0 0, .slice none 0 0, .pointer none, .int .i64 0] 70 (0, 0)) := by rw [Below.heap_alloc _ _ _ (by simp)]; exact heap_alloc_new w _
  have hx1 : ((w.alloc (.cells #[.int .i64 0, .int .i64 0, .int .u64 0, .string ⟨#[]⟩, .slice none 0 0, .slice none 0 0, .pointer none, .int .i64 0] 70)).alloc (.cells #[.slice none 0 0, .slice none 0 0] 120)).heap[w.heap.size + 1]? = some (.cells #[.slice none 0 0, .slice none 0 0] 120 (0, 0)) := by
    have := heap_alloc_new (w.alloc (.cells #[.int .i64 0, .int .i64 0, .int .u64 0, .string ⟨#[]⟩, .slice none 0 0, .slice none 0 0, .pointer none, .int .i64 0] 70)) (.cells #[.slice none 0 0, .slice none 0 0] 120)
    simpa using this
  have hbx : BX ((w.alloc (.cells #[.int .i64 0, .int .i64 0, .int .u64 0, .string ⟨#[]⟩, .slice none 0 0, .slice none 0 0, .pointer none, .int .i64 0] 70)).alloc (.cells #[.slice none 0 0, .slice none 0 0] 120)) (w.heap.size + 1) (w.heap.size + 1) [] := ⟨⟨_, _, hx1, World.ownsRow_nil _ _ _ _, World.ownsRow_nil _ _ _ _⟩, True.intro⟩
  have hbl : Below w.heap.size w ((w.alloc (.cells #[.int .i64 0, .int .i64 0, .int .u64 0, .string ⟨#[]⟩, .slice none 0 0, .slice none 0 0, .pointer none, .int .i64 0] 70)).alloc (.cells #[.slice none 0 0, .slice none 0 0] 120)) := ((Below.refl _ _).alloc (Nat.le_refl _) _).alloc (by simp) _
  have HX0 := Lib.hid hx0
  have HBX := Lib.hid hbx
  have HBL := Lib.hid hbl
  clear hm hP hW hB hgn hgk hx0 hx1 hbx hbl
  subst hreq
  have hmi : (m : Int) ≤ ln := by omega
  have hmk : (m : Int) ≤ ck := by omega
  go_enter Tryz.func48, Tryz.ntmps48
  go_upto_region 3 with (fail)
  generalize ((w.alloc (.cells #[.int .i64 0, .int .i64 0, .int .u64 0, .string ⟨#[]⟩, .slice none 0 0, .slice none 0 0, .pointer none, .int .i64 0] 70)).alloc (.cells #[.slice none 0 0, .slice none 0 0] 120)) = w2 at *
  go_loopw [17] (fun s17 wr => ∃ j : Nat, j ≤ m ∧ s17 = .int .i64 (j : Int) ∧ Hid (BX wr (w.heap.size + 1) (w.heap.size + 1) (upE P j)) ∧ Hid (Below w.heap.size w wr) ∧ Hid (wr.heap[w.heap.size]? = some (.cells #[.int .i64 0, .int .i64 0, .int .u64 0, .string ⟨#[]⟩, .slice none 0 0, .slice none 0 0, .pointer none, .int .i64 0] 70 (0, 0)))) (fun s17 _ => m - (intOf s17).toNat)
  case atStart => exact ⟨0, by omega, rfl, HBX, HBL, HX0⟩
  case round =>
    obtain ⟨j, hj, rfl, HXR, HBR, HZR⟩ := hrel
    by_cases hjm : j < m
    · obtain ⟨⟨x, k⟩, he⟩ : ∃ e, P[j]? = some e := ⟨_, List.getElem?_eq_getElem (by rw [← HM.out]; exact hjm)⟩
      have hup := upE_succ P j _ he
      have ax : wr.cell? ⟨gn, on + j, none⟩ = some (.string x) := by rw [← HP.out.nm j _ he]; exact HBR.out.cell (p := ⟨gn, on + j, none⟩) (HGN.out (by omega))
      have ak : ∀ i u, k.cells[i]? = some u → wr.cell? ⟨gk, j * 8 + i, none⟩ = some u := fun i u hi => by rw [← HP.out.kc j _ i u he hi]; exact HBR.out.cell (p := ⟨gk, j * 8 + i, none⟩) (HGK.out (by omega))
      have HINS : Hid (∀ w5, BX w5 (w.heap.size + 1) (w.heap.size + 1) (upE P j) → w.heap.size + 1 ≤ w5.heap.size → Calls Tryz.prog 56 #[.pointer (some ⟨w.heap.size + 1, 0, none⟩), .string x, k.val] w5 fun e w' => e = .returned (.tuple #[]) ∧ BX w' (w.heap.size + 1) (w.heap.size + 1) (upE P (j + 1)) ∧ Below (w.heap.size + 1) w5 w') := Lib.hid fun w5 hb5 hs5 => by
        rw [hup]
        exact insert_BX w5 _ _ _ x k hb5 (by have := upE_len P j (by rw [← HM.out]; omega); omega) hs5 (Nat.le_refl _)
      obtain ⟨kd, ki, kb, kt, na, nn, nc, ka, kn, kc, fp, hv⟩ := k
      have a0 : wr.cell? ⟨gk, j * 8, none⟩ = some (.int .i64 kd) := ak 0 _ rfl
      have a1 : wr.cell? ⟨gk, j * 8 + 1, none⟩ = some (.int .i64 ki) := ak 1 _ rfl
      have a2 : wr.cell? ⟨gk, j * 8 + 2, none⟩ = some (.int .u64 kb) := ak 2 _ rfl
      have a3 : wr.cell? ⟨gk, j * 8 + 3, none⟩ = some (.string kt) := ak 3 _ rfl
      have a4 : wr.cell? ⟨gk, j * 8 + 4, none⟩ = some (.slice na nn nc) := ak 4 _ rfl
      have a5 : wr.cell? ⟨gk, j * 8 + 5, none⟩ = some (.slice ka kn kc) := ak 5 _ rfl
      have a6 : wr.cell? ⟨gk, j * 8 + 6, none⟩ = some (.pointer fp) := ak 6 _ rfl
      have a7 : wr.cell? ⟨gk, j * 8 + 7, none⟩ = some (.int .i64 hv) := ak 7 _ rfl
      have hlt : (j : Int) < m := by omega
      have hln2 : (j : Int) < ln := by omega
      have hY := heap_alloc_new wr (.cells #[.int .i64 kd, .int .i64 ki, .int .u64 kb, .string kt, .slice na nn nc, .slice ka kn kc, .pointer fp, .int .i64 hv] 70)
      have hl5 : w.heap.size + 1 ≤ (wr.alloc (.cells #[.int .i64 kd, .int .i64 ki, .int .u64 kb, .string kt, .slice na nn nc, .slice ka kn kc, .pointer fp, .int .i64 hv] 70)).heap.size := by have := HBR.out.size; have := (Array.getElem?_eq_some_iff.1 HZR.out).1; simp; omega
      have hb5 : BX (wr.alloc (.cells #[.int .i64 kd, .int .i64 ki, .int .u64 kb, .string kt, .slice na nn nc, .slice ka kn kc, .pointer fp, .int .i64 hv] 70)) (w.heap.size + 1) (w.heap.size + 1) (upE P j) := HXR.out.on (fun i hi => Below.heap_alloc wr _ i hi)
      have hbe5 : Below w.heap.size w (wr.alloc (.cells #[.int .i64 kd, .int .i64 ki, .int .u64 kb, .string kt, .slice na nn nc, .slice ka kn kc, .pointer fp, .int .i64 hv] 70)) := HBR.out.alloc (by have := HBR.out.size; omega) _
      have hz5 : (wr.alloc (.cells #[.int .i64 kd, .int .i64 ki, .int .u64 kb, .string kt, .slice na nn nc, .slice ka kn kc, .pointer fp, .int .i64 hv] 70)).heap[w.heap.size]? = some (.cells #[.int .i64 0, .int .i64 0, .int .u64 0, .string ⟨#[]⟩, .slice none 0 0, .slice none 0 0, .pointer none, .int .i64 0] 70 (0, 0)) := by rw [Below.heap_alloc wr _ _ (Array.getElem?_eq_some_iff.1 HZR.out).1]; exact HZR.out
      have ax5 : (wr.alloc (.cells #[.int .i64 kd, .int .i64 ki, .int .u64 kb, .string kt, .slice na nn nc, .slice ka kn kc, .pointer fp, .int .i64 hv] 70)).cell? ⟨gn, on + j, none⟩ = some (.string x) := by rw [← HP.out.nm j _ he]; exact hbe5.cell (p := ⟨gn, on + j, none⟩) (HGN.out (by omega))
      have hwj : IntKind.i64.wrap ((j : Int) + 1) = (j : Int) + 1 := by rw [IntKind.wrap_i64]; omega
      clear ak hup he ax
      go_upto_region 5 with (fail)
      clear a0 a1 a2 a3 a4 a5 a6 a7
      have c0 : (wr.alloc (.cells #[.int .i64 kd, .int .i64 ki, .int .u64 kb, .string kt, .slice na nn nc, .slice ka kn kc, .pointer fp, .int .i64 hv] 70)).cell? ⟨wr.heap.size, 0, none⟩ = some (.int .i64 kd) := by rw [cell_of_row _ _ 0 _ 70 _ hY]; rfl
      have c1 : (wr.alloc (.cells #[.int .i64 kd, .int .i64 ki, .int .u64 kb, .string kt, .slice na nn nc, .slice ka kn kc, .pointer fp, .int .i64 hv] 70)).cell? ⟨wr.heap.size, 1, none⟩ = some (.int .i64 ki) := by rw [cell_of_row _ _ 1 _ 70 _ hY]; rfl
      have c2 : (wr.alloc (.cells #[.int .i64 kd, .int .i64 ki, .int .u64 kb, .string kt, .slice na nn nc, .slice ka kn kc, .pointer fp, .int .i64 hv] 70)).cell? ⟨wr.heap.size, 2, none⟩ = some (.int .u64 kb) := by rw [cell_of_row _ _ 2 _ 70 _ hY]; rfl
      have c3 : (wr.alloc (.cells #[.int .i64 kd, .int .i64 ki, .int .u64 kb, .string kt, .slice na nn nc, .slice ka kn kc, .pointer fp, .int .i64 hv] 70)).cell? ⟨wr.heap.size, 3, none⟩ = some (.string kt) := by rw [cell_of_row _ _ 3 _ 70 _ hY]; rfl
      have c4 : (wr.alloc (.cells #[.int .i64 kd, .int .i64 ki, .int .u64 kb, .string kt, .slice na nn nc, .slice ka kn kc, .pointer fp, .int .i64 hv] 70)).cell? ⟨wr.heap.size, 4, none⟩ = some (.slice na nn nc) := by rw [cell_of_row _ _ 4 _ 70 _ hY]; rfl
      have c5 : (wr.alloc (.cells #[.int .i64 kd, .int .i64 ki, .int .u64 kb, .string kt, .slice na nn nc, .slice ka kn kc, .pointer fp, .int .i64 hv] 70)).cell? ⟨wr.heap.size, 5, none⟩ = some (.slice ka kn kc) := by rw [cell_of_row _ _ 5 _ 70 _ hY]; rfl
      have c6 : (wr.alloc (.cells #[.int .i64 kd, .int .i64 ki, .int .u64 kb, .string kt, .slice na nn nc, .slice ka kn kc, .pointer fp, .int .i64 hv] 70)).cell? ⟨wr.heap.size, 6, none⟩ = some (.pointer fp) := by rw [cell_of_row _ _ 6 _ 70 _ hY]; rfl
      have c7 : (wr.alloc (.cells #[.int .i64 kd, .int .i64 ki, .int .u64 kb, .string kt, .slice na nn nc, .slice ka kn kc, .pointer fp, .int .i64 hv] 70)).cell? ⟨wr.heap.size, 7, none⟩ = some (.int .i64 hv) := by rw [cell_of_row _ _ 7 _ 70 _ hY]; rfl
      generalize (wr.alloc (.cells #[.int .i64 kd, .int .i64 ki, .int .u64 kb, .string kt, .slice na nn nc, .slice ka kn kc, .pointer fp, .int .i64 hv] 70)) = w5 at *
      generalize wr.heap.size = Y at *
      have HI5 := Lib.hid (HINS.out w5.drew (hb5.on (fun _ _ => rfl)) hl5)
      have HBE5 := Lib.hid hbe5
      have HZ5 := Lib.hid hz5
      clear hY hb5 hbe5 hz5 HINS
      have S1 : w5.drew.cell? ⟨gn, on + j, none⟩ = some (.string x) ∧ w5.drew.cell? ⟨Y, 0, none⟩ = some (.int .i64 kd) ∧ w5.drew.cell? ⟨Y, 1, none⟩ = some (.int .i64 ki) ∧ w5.drew.cell? ⟨Y, 2, none⟩ = some (.int .u64 kb) ∧ w5.drew.cell? ⟨Y, 3, none⟩ = some (.string kt) ∧ w5.drew.cell? ⟨Y, 4, none⟩ = some (.slice na nn nc) ∧ w5.drew.cell? ⟨Y, 5, none⟩ = some (.slice ka kn kc) ∧ w5.drew.cell? ⟨Y, 6, none⟩ = some (.pointer fp) ∧ w5.drew.cell? ⟨Y, 7, none⟩ = some (.int .i64 hv) := ⟨ax5, c0, c1, c2, c3, c4, c5, c6, c7⟩
      refine wp_region_M (fun w' => w'.cell? ⟨gn, on + j, none⟩ = some (.string x) ∧ w'.cell? ⟨Y, 0, none⟩ = some (.int .i64 kd) ∧ w'.cell? ⟨Y, 1, none⟩ = some (.int .i64 ki) ∧ w'.cell? ⟨Y, 2, none⟩ = some (.int .u64 kb) ∧ w'.cell? ⟨Y, 3, none⟩ = some (.string kt) ∧ w'.cell? ⟨Y, 4, none⟩ = some (.slice na nn nc) ∧ w'.cell? ⟨Y, 5, none⟩ = some (.slice ka kn kc) ∧ w'.cell? ⟨Y, 6, none⟩ = some (.pointer fp) ∧ w'.cell? ⟨Y, 7, none⟩ = some (.int .i64 hv)) 5 (by kernel_rfl) ?_
      refine' wpAnyM_take (i := 0) (oi := { dst := some 22, op := Op.move (Operand.tmp 0), type := 35, pos := "value.go:150", after := #[], guard := none }) (v := ?v1) rfl (by kernel_rfl) (by kernel_rfl) (by kernel_rfl) (fun _ _ _ h => h) (by kernel_rfl) (fun _ => S1) (Or.inl ⟨by rfl, ?hy1⟩) ?rest1
      case hy1 =>
        intro w' hSw
        go_simp
        try with_reducible rfl
      try simp only [Act.put, List.setIfInBounds_toArray, List.set_cons_zero, List.set_cons_succ]
      refine' wpAnyM_take (i := 1) (oi := { dst := some 23, op := Op.move (Operand.tmp 6), type := 3, pos := "value.go:150", after := #[], guard := none }) (v := ?v2) rfl (by kernel_rfl) (by kernel_rfl) (by kernel_rfl) (fun _ _ _ h => h) (by kernel_rfl) (fun _ => S1) (Or.inl ⟨by rfl, ?hy2⟩) ?rest2
      case hy2 =>
        intro w' hSw
        go_simp
        try with_reducible rfl
      try simp only [Act.put, List.setIfInBounds_toArray, List.set_cons_zero, List.set_cons_succ]
      refine' wpAnyM_take (i := 2) (oi := { dst := some 24, op := Op.indexAddr 35 (Operand.tmp 22) (Operand.tmp 23), type := 0, pos := "value.go:150", after := #[{ on := 0, ground := Ground.data }, { on := 1, ground := Ground.data }], guard := none }) (v := ?v3) rfl (by kernel_rfl) (by kernel_rfl) (by kernel_rfl) (fun _ _ _ h => h) (by kernel_rfl) (fun _ => S1) (Or.inl ⟨by rfl, ?hy3⟩) ?rest3
      case hy3 =>
        intro w' hSw
        go_simp
        try with_reducible rfl
      try simp only [Act.put, List.setIfInBounds_toArray, List.set_cons_zero, List.set_cons_succ]
      refine' wpAnyM_load (i := 3) (oi := { dst := some 25, op := Op.load 9 (Operand.tmp 24), type := 9, pos := "value.go:150", after := #[{ on := 2, ground := Ground.data }], guard := none }) (v := ?v4) [5] rfl (by kernel_rfl) (by kernel_rfl) (by kernel_rfl) (fun _ _ _ h => h) (by kernel_rfl) (by kernel_rfl) (by kernel_rfl) (by kernel_rfl) S1 (Or.inl ⟨by rfl, ?hy4⟩) ?rest4
      case hy4 =>
        intro w' hSw
        try dsimp only at hSw
        go_simp
        try with_reducible rfl
      try simp only [Act.put, List.setIfInBounds_toArray, List.set_cons_zero, List.set_cons_succ]
      refine' wpAnyM_load (i := 4) (oi := { dst := some 26, op := Op.load 70 (Operand.tmp 7), type := 70, pos := "value.go:150", after := #[], guard := none }) (v := ?v5) [5] rfl (by kernel_rfl) (by kernel_rfl) (by kernel_rfl) (fun _ _ _ h => h) (by kernel_rfl) (by kernel_rfl) (by kernel_rfl) (by kernel_rfl) S1 (Or.inl ⟨by rfl, ?hy5⟩) ?rest5
      case hy5 =>
        intro w' hSw
        try dsimp only at hSw
        go_simp
        try with_reducible rfl
      try simp only [Act.put, List.setIfInBounds_toArray, List.set_cons_zero, List.set_cons_succ]
      refine wpAnyM_one (i := 5) (o := { dst := some 27, op := Op.call { callee := Callee.value (Operand.func 56), args := #[Operand.tmp 5, Operand.tmp 25, Operand.tmp 26], argTypes := #[120, 9, 70] }, type := 0, pos := "value.go:150", after := #[{ on := 3, ground := Ground.data }, { on := 4, ground := Ground.data }], guard := none }) (by kernel_rfl) rfl (fun K hK => ?_)
      go_simp
      refine HI5.out.mono ?_
      rintro e w6 ⟨rfl, hx6, hb6⟩
      refine hK.out _ _ (fun h => absurd h (by decide +kernel)) ?_
      clear hK K
      refine wpAnyM_done (by kernel_rfl) ?_ _
      go_wp2
      go_roundw
      case rel => exact ⟨j + 1, by omega, rfl, Lib.hid hx6, Lib.hid (HBE5.out.drew.trans (hb6.mono (Nat.le_succ _))), Lib.hid ((hb6.block w.heap.size (Nat.lt_succ_self _)).trans HZ5.out)⟩
      case measure => simp [intOf]; omega

    · obtain rfl : j = m := by omega
      have hjm2 : ¬ (j : Int) < j := by omega
      obtain ⟨⟨vn, vk, hbox, hrN, hrK⟩, hris⟩ := HXR.out
      obtain ⟨aN, cN, rfl⟩ := own_slice hrN
      obtain ⟨aK, cK, rfl⟩ := own_slice hrK
      have hlE : (upE P j).length ≤ 1000 := by have := upE_len P j (by have := HM.out; omega); omega
      have hmE := upE_mem P j (by have := HM.out; omega)
      have hWt := weigh_row wr (w.heap.size + 1) (.int .i64 0) (.int .u64 0) (.slice aN (upE P j).length cN) (.pointer none) 4 (by decide) ⟨#[]⟩ (Nat.zero_le _) aK cK (upE P j) hOf hrK hlE (fun e he => (HW.out e (hmE e he)).on HBR.out) (fun e he => HB.out e (hmE e he))
      have hb0 : wr.cell? ⟨w.heap.size + 1, 0, none⟩ = some (.slice aN (upE P j).length cN) := by rw [cell_of_row _ _ 0 _ 120 _ hbox]; rfl
      have hb1 : wr.cell? ⟨w.heap.size + 1, 1, none⟩ = some (.slice aK (upE P j).length cK) := by rw [cell_of_row _ _ 1 _ 120 _ hbox]; rfl
      have hRl := (Array.getElem?_eq_some_iff.1 HZR.out).1
      rw [show own9 4 ⟨#[]⟩ = 1 from rfl] at hWt
      have HGoal : Hid (∀ w9, wr.grownBy w9 (some w.heap.size) → ∃ aN' cN' aK' cK', Ending.returned (.agg #[.int .i64 4, .int .i64 0, .int .u64 0, .string ⟨#[]⟩, .slice aN (upE P j).length cN, .slice aK (upE P j).length cK, .pointer none, .int .i64 ((1 + sumH (hAt hOf (upE P j)) (upE P j).length : Nat) : Int)]) = .returned (.agg #[.int .i64 4, .int .i64 0, .int .u64 0, .string ⟨#[]⟩, .slice aN' (upE P j).length cN', .slice aK' (upE P j).length cK', .pointer none, .int .i64 ((1 + sumH (hAt hOf (upE P j)) (upE P j).length : Nat) : Int)]) ∧
            w9.ownsRow w.heap.size 9 1 (.slice aN' (upE P j).length cN') (upE P j).length ((names (upE P j)).map Value.string) ∧ w9.ownsRow w.heap.size 70 8 (.slice aK' (upE P j).length cK') (upE P j).length (cells (upE P j)) ∧ Below w.heap.size w w9) := Lib.hid fun w9 hg => by
        refine ⟨aN, cN, aK, cK, rfl, ?_, ?_, ?_⟩
        · exact own_base (hrN.kept hg (Or.inr fun e => by have := ownsRow_ge hrN _ e; omega)) (Nat.le_succ _)
        · exact own_base (hrK.kept hg (Or.inr fun e => by have := ownsRow_ge hrK _ e; omega)) (Nat.le_succ _)
        · exact HBR.out.grown hg (by omega) (fun k e => by cases e; exact Nat.le_refl _)
      clear hbox hrN hrK hris hlE hmE
      generalize hhe : (1 + sumH (hAt hOf (upE P j)) (upE P j).length : Nat) = h at *
      generalize hne : (upE P j).length = n at *
      have Hh := Lib.hid hhe
      have Hn := Lib.hid hne
      clear hhe hne
      have HWt := Lib.hid hWt
      have hV := heap_alloc_new wr (.cells #[.int .i64 4, .int .i64 0, .int .u64 0, .string ⟨#[]⟩, .slice aN n cN, .slice aK n cK, .pointer none, .int .i64 0] 70)
      have hR : (wr.alloc (.cells #[.int .i64 4, .int .i64 0, .int .u64 0, .string ⟨#[]⟩, .slice aN n cN, .slice aK n cK, .pointer none, .int .i64 0] 70)).heap[w.heap.size]? = some (.cells #[.int .i64 0, .int .i64 0, .int .u64 0, .string ⟨#[]⟩, .slice none 0 0, .slice none 0 0, .pointer none, .int .i64 0] 70 (0, 0)) := by rw [Below.heap_alloc wr _ _ hRl]; exact HZR.out
      have HBA : Hid (Below wr.heap.size wr (wr.alloc (.cells #[.int .i64 4, .int .i64 0, .int .u64 0, .string ⟨#[]⟩, .slice aN n cN, .slice aK n cK, .pointer none, .int .i64 0] 70))) := Lib.hid ((Below.refl _ _).alloc (Nat.le_refl _) _)
      have HRL := Lib.hid hRl
      clear hWt
      go_upto_region 8 with (fail)
      clear hb0 hb1
      have z0 : (wr.alloc (.cells #[.int .i64 4, .int .i64 0, .int .u64 0, .string ⟨#[]⟩, .slice aN n cN, .slice aK n cK, .pointer none, .int .i64 0] 70)).cell? ⟨wr.heap.size, 0, none⟩ = some (.int .i64 4) := by rw [cell_of_row _ _ 0 _ 70 _ hV]; rfl
      have z1 : (wr.alloc (.cells #[.int .i64 4, .int .i64 0, .int .u64 0, .string ⟨#[]⟩, .slice aN n cN, .slice aK n cK, .pointer none, .int .i64 0] 70)).cell? ⟨wr.heap.size, 1, none⟩ = some (.int .i64 0) := by rw [cell_of_row _ _ 1 _ 70 _ hV]; rfl
      have z2 : (wr.alloc (.cells #[.int .i64 4, .int .i64 0, .int .u64 0, .string ⟨#[]⟩, .slice aN n cN, .slice aK n cK, .pointer none, .int .i64 0] 70)).cell? ⟨wr.heap.size, 2, none⟩ = some (.int .u64 0) := by rw [cell_of_row _ _ 2 _ 70 _ hV]; rfl
      have z3 : (wr.alloc (.cells #[.int .i64 4, .int .i64 0, .int .u64 0, .string ⟨#[]⟩, .slice aN n cN, .slice aK n cK, .pointer none, .int .i64 0] 70)).cell? ⟨wr.heap.size, 3, none⟩ = some (.string ⟨#[]⟩) := by rw [cell_of_row _ _ 3 _ 70 _ hV]; rfl
      have z4 : (wr.alloc (.cells #[.int .i64 4, .int .i64 0, .int .u64 0, .string ⟨#[]⟩, .slice aN n cN, .slice aK n cK, .pointer none, .int .i64 0] 70)).cell? ⟨wr.heap.size, 4, none⟩ = some (.slice aN n cN) := by rw [cell_of_row _ _ 4 _ 70 _ hV]; rfl
      have z5 : (wr.alloc (.cells #[.int .i64 4, .int .i64 0, .int .u64 0, .string ⟨#[]⟩, .slice aN n cN, .slice aK n cK, .pointer none, .int .i64 0] 70)).cell? ⟨wr.heap.size, 5, none⟩ = some (.slice aK n cK) := by rw [cell_of_row _ _ 5 _ 70 _ hV]; rfl
      have z6 : (wr.alloc (.cells #[.int .i64 4, .int .i64 0, .int .u64 0, .string ⟨#[]⟩, .slice aN n cN, .slice aK n cK, .pointer none, .int .i64 0] 70)).cell? ⟨wr.heap.size, 6, none⟩ = some (.pointer none) := by rw [cell_of_row _ _ 6 _ 70 _ hV]; rfl
      have z7 : (wr.alloc (.cells #[.int .i64 4, .int .i64 0, .int .u64 0, .string ⟨#[]⟩, .slice aN n cN, .slice aK n cK, .pointer none, .int .i64 0] 70)).cell? ⟨wr.heap.size, 7, none⟩ = some (.int .i64 0) := by rw [cell_of_row _ _ 7 _ 70 _ hV]; rfl
      have HV := Lib.hid hV
      have HR := Lib.hid hR
      have HSZ : Hid ((wr.alloc (.cells #[.int .i64 4, .int .i64 0, .int .u64 0, .string ⟨#[]⟩, .slice aN n cN, .slice aK n cK, .pointer none, .int .i64 0] 70)).heap.size = wr.heap.size + 1) := Lib.hid (by simp)
      clear hV hR
      go_upto_region 9 with (fail)
      refine (HWt.out _ HBA.out).mono ?_; rintro e w7 ⟨rfl, hb7⟩
      have hV7 := (hb7.block wr.heap.size (by rw [HSZ.out]; omega)).trans HV.out
      have hR7 := (hb7.block w.heap.size (by rw [HSZ.out]; have := HRL.out; omega)).trans HR.out
      have x0 : w7.cell? ⟨wr.heap.size, 0, none⟩ = some (.int .i64 4) := by (rw [cell_of_row _ _ 0 _ 70 _ hV7]; rfl)
      have y0 : w7.cell? ⟨w.heap.size, 0, none⟩ = some (.int .i64 0) := by (rw [cell_of_row _ _ 0 _ 70 _ hR7]; rfl)
      have f0 : w7.frozen? ⟨w.heap.size, 0, none⟩ = false := frozen_of_row _ _ 0 _ 70 hR7
      have x1 : w7.cell? ⟨wr.heap.size, 1, none⟩ = some (.int .i64 0) := by (rw [cell_of_row _ _ 1 _ 70 _ hV7]; rfl)
      have y1 : w7.cell? ⟨w.heap.size, 1, none⟩ = some (.int .i64 0) := by (rw [cell_of_row _ _ 1 _ 70 _ hR7]; rfl)
      have f1 : w7.frozen? ⟨w.heap.size, 1, none⟩ = false := frozen_of_row _ _ 1 _ 70 hR7
      have x2 : w7.cell? ⟨wr.heap.size, 2, none⟩ = some (.int .u64 0) := by (rw [cell_of_row _ _ 2 _ 70 _ hV7]; rfl)
      have y2 : w7.cell? ⟨w.heap.size, 2, none⟩ = some (.int .u64 0) := by (rw [cell_of_row _ _ 2 _ 70 _ hR7]; rfl)
      have f2 : w7.frozen? ⟨w.heap.size, 2, none⟩ = false := frozen_of_row _ _ 2 _ 70 hR7
      have x3 : w7.cell? ⟨wr.heap.size, 3, none⟩ = some (.string ⟨#[]⟩) := by (rw [cell_of_row _ _ 3 _ 70 _ hV7]; rfl)
      have y3 : w7.cell? ⟨w.heap.size, 3, none⟩ = some (.string ⟨#[]⟩) := by (rw [cell_of_row _ _ 3 _ 70 _ hR7]; rfl)
      have f3 : w7.frozen? ⟨w.heap.size, 3, none⟩ = false := frozen_of_row _ _ 3 _ 70 hR7
      have x4 : w7.cell? ⟨wr.heap.size, 4, none⟩ = some (.slice aN n cN) := by (rw [cell_of_row _ _ 4 _ 70 _ hV7]; rfl)
      have y4 : w7.cell? ⟨w.heap.size, 4, none⟩ = some (.slice none 0 0) := by (rw [cell_of_row _ _ 4 _ 70 _ hR7]; rfl)
      have f4 : w7.frozen? ⟨w.heap.size, 4, none⟩ = false := frozen_of_row _ _ 4 _ 70 hR7
      have x5 : w7.cell? ⟨wr.heap.size, 5, none⟩ = some (.slice aK n cK) := by (rw [cell_of_row _ _ 5 _ 70 _ hV7]; rfl)
      have y5 : w7.cell? ⟨w.heap.size, 5, none⟩ = some (.slice none 0 0) := by (rw [cell_of_row _ _ 5 _ 70 _ hR7]; rfl)
      have f5 : w7.frozen? ⟨w.heap.size, 5, none⟩ = false := frozen_of_row _ _ 5 _ 70 hR7
      have x6 : w7.cell? ⟨wr.heap.size, 6, none⟩ = some (.pointer none) := by (rw [cell_of_row _ _ 6 _ 70 _ hV7]; rfl)
      have y6 : w7.cell? ⟨w.heap.size, 6, none⟩ = some (.pointer none) := by (rw [cell_of_row _ _ 6 _ 70 _ hR7]; rfl)
      have f6 : w7.frozen? ⟨w.heap.size, 6, none⟩ = false := frozen_of_row _ _ 6 _ 70 hR7
      have x7 : w7.cell? ⟨wr.heap.size, 7, none⟩ = some (.int .i64 0) := by (rw [cell_of_row _ _ 7 _ 70 _ hV7]; rfl)
      have y7 : w7.cell? ⟨w.heap.size, 7, none⟩ = some (.int .i64 0) := by (rw [cell_of_row _ _ 7 _ 70 _ hR7]; rfl)
      have f7 : w7.frozen? ⟨w.heap.size, 7, none⟩ = false := frozen_of_row _ _ 7 _ 70 hR7
      have g7 : w7.frozen? ⟨wr.heap.size, 7, none⟩ = false := frozen_of_row _ _ 7 _ 70 hV7
      have HB7 := Lib.hid hb7
      have HR7 := Lib.hid hR7
      clear hV7 hR7 hb7
      have hRV : w.heap.size ≠ wr.heap.size := by have := HRL.out; omega
      have hRV2 : wr.heap.size ≠ w.heap.size := by have := HRL.out; omega
      clear z0 z1 z2 z3 z4 z5 z6 z7
      go_wp2
      have q0 : (w7.setCell ⟨wr.heap.size, 7, none⟩ (.int .i64 (h : Int))).heap[w.heap.size]? = some (.cells #[.int .i64 0, .int .i64 0, .int .u64 0, .string ⟨#[]⟩, .slice none 0 0, .slice none 0 0, .pointer none, .int .i64 0] 70 (0, 0)) := (heap_setCell_other w7 ⟨wr.heap.size, 7, none⟩ w.heap.size _ hRV).trans HR7.out
      have q1 := heap_setCell_same _ w.heap.size 7 _ 70 (.int .i64 (h : Int)) (heap_setCell_same _ w.heap.size 6 _ 70 (.pointer none) (heap_setCell_same _ w.heap.size 5 _ 70 (.slice aK n cK) (heap_setCell_same _ w.heap.size 4 _ 70 (.slice aN n cN) (heap_setCell_same _ w.heap.size 3 _ 70 (.string ⟨#[]⟩) (heap_setCell_same _ w.heap.size 2 _ 70 (.int .u64 0) (heap_setCell_same _ w.heap.size 1 _ 70 (.int .i64 0) (heap_setCell_same _ w.heap.size 0 _ 70 (.int .i64 4) q0)))))))
      (try simp only [Exit.inBlock, Exit.then])
      refine bodyPost_ret (v := .agg #[.int .i64 4, .int .i64 0, .int .u64 0, .string ⟨#[]⟩, .slice aN n cN, .slice aK n cK, .pointer none, .int .i64 (h : Int)]) ?_ rfl ?_
      · exact results_cell_row (P := Tryz.prog) rfl _ _ w.heap.size 70 _ (0, 0) _ rfl q1 Tryz.underlying70 rfl (by kernel_rfl)
      have hhe := Hh.out
      have hne := Hn.out
      subst hhe
      subst hne
      refine HGoal.out _ ?_
      repeat' first
        | (refine grown_at ?_ _ rfl _)
        | (refine grown_new ?_ _ (Nat.le_refl _) _)
      exact ⟨HB7.out.os, HB7.out.tape, HB7.out.output, by have := HB7.out.size; rw [HSZ.out] at this; omega, fun k hk _ => (HB7.out.block k (by rw [HSZ.out]; omega)).trans (Below.heap_alloc wr _ k hk)⟩

set_option maxRecDepth 20000 in
set_option maxHeartbeats 4000000 in
theorem record_B (w : World) (gn on ln cn gk lk ck m : Nat) (P : List Ent) (hOf : Kid → Nat) (hm : m = P.length) (hm2 : m ≤ 1000) (hP : PairsIn w gn on gk P) (hln : m ≤ ln) (hlk : m ≤ lk) (hcn : ln ≤ cn) (hck : lk ≤ ck) (hc : ck ≤ 9223372036854775807)
    (hmin : ln < lk) (hreq : m = ln) (hgn : 0 < m → gn < w.heap.size) (hgk : 0 < m → gk < w.heap.size) (hW : ∀ e ∈ P, Weighs w e.2.val (hOf e.2)) (hB : ∀ e ∈ P, hOf e.2 ≤ 100000) :
    Calls Tryz.prog 48 #[.slice (some ⟨gn, on, none⟩) ln cn, .slice (some ⟨gk, 0, none⟩) lk ck] w fun e w' => ∃ aN cN aK cK, e = .returned (.agg #[.int .i64 4, .int .i64 0, .int .u64 0, .string ⟨#[]⟩, .slice aN (upE P m).length cN, .slice aK (upE P m).length cK, .pointer none, .int .i64 ((1 + sumH (hAt hOf (upE P m)) (upE P m).length : Nat) : Int)]) ∧
      w'.ownsRow w.heap.size 9 1 (.slice aN (upE P m).length cN) (upE P m).length ((names (upE P m)).map Value.string) ∧ w'.ownsRow w.heap.size 70 8 (.slice aK (upE P m).length cK) (upE P m).length (cells (upE P m)) ∧ Below w.heap.size w w' := by
  have HP := Lib.hid hP
  have HW := Lib.hid hW
  have HB := Lib.hid hB
  have HGN := Lib.hid hgn
  have HGK := Lib.hid hgk
  have HM := Lib.hid hm
  have hx0 : ((w.alloc (.cells #[.int .i64 0, .int .i64 0, .int .u64 0, .string ⟨#[]⟩, .slice none 0 0, .slice none 0 0, .pointer none, .int .i64 0] 70)).alloc (.cells #[.slice none 0 0, .slice none 0 0] 120)).heap[w.heap.size]? = some (.cells #[.int .i64 0, .int .i64 0, .int .u64 0, .string ⟨#[]⟩, .slice none 0 0, .slice none 0 0, .pointer none, .int .i64 0] 70 (0, 0)) := by rw [Below.heap_alloc _ _ _ (by simp)]; exact heap_alloc_new w _
  have hx1 : ((w.alloc (.cells #[.int .i64 0, .int .i64 0, .int .u64 0, .string ⟨#[]⟩, .slice none 0 0, .slice none 0 0, .pointer none, .int .i64 0] 70)).alloc (.cells #[.slice none 0 0, .slice none 0 0] 120)).heap[w.heap.size + 1]? = some (.cells #[.slice none 0 0, .slice none 0 0] 120 (0, 0)) := by
    have := heap_alloc_new (w.alloc (.cells #[.int .i64 0, .int .i64 0, .int .u64 0, .string ⟨#[]⟩, .slice none 0 0, .slice none 0 0, .pointer none, .int .i64 0] 70)) (.cells #[.slice none 0 0, .slice none 0 0] 120)
    simpa using this
  have hbx : BX ((w.alloc (.cells #[.int .i64 0, .int .i64 0, .int .u64 0, .string ⟨#[]⟩, .slice none 0 0, .slice none 0 0, .pointer none, .int .i64 0] 70)).alloc (.cells #[.slice none 0 0, .slice none 0 0] 120)) (w.heap.size + 1) (w.heap.size + 1) [] := ⟨⟨_, _, hx1, World.ownsRow_nil _ _ _ _, World.ownsRow_nil _ _ _ _⟩, True.intro⟩
  have hbl : Below w.heap.size w ((w.alloc (.cells #[.int .i64 0, .int .i64 0, .int .u64 0, .string ⟨#[]⟩, .slice none 0 0, .slice none 0 0, .pointer none, .int .i64 0] 70)).alloc (.cells #[.slice none 0 0, .slice none 0 0] 120)) := ((Below.refl _ _).alloc (Nat.le_refl _) _).alloc (by simp) _
  have HX0 := Lib.hid hx0
  have HBX := Lib.hid hbx
  have HBL := Lib.hid hbl
  clear hm hP hW hB hgn hgk hx0 hx1 hbx hbl
  subst hreq
  have hmi : (m : Int) < lk := by omega
  have hmk : (m : Int) ≤ ck := by omega
  go_enter Tryz.func48, Tryz.ntmps48
  go_upto_region 3 with (fail)
  generalize ((w.alloc (.cells #[.int .i64 0, .int .i64 0, .int .u64 0, .string ⟨#[]⟩, .slice none 0 0, .slice none 0 0, .pointer none, .int .i64 0] 70)).alloc (.cells #[.slice none 0 0, .slice none 0 0] 120)) = w2 at *
  go_loopw [17] (fun s17 wr => ∃ j : Nat, j ≤ m ∧ s17 = .int .i64 (j : Int) ∧ Hid (BX wr (w.heap.size + 1) (w.heap.size + 1) (upE P j)) ∧ Hid (Below w.heap.size w wr) ∧ Hid (wr.heap[w.heap.size]? = some (.cells #[.int .i64 0, .int .i64 0, .int .u64 0, .string ⟨#[]⟩, .slice none 0 0, .slice none 0 0, .pointer none, .int .i64 0] 70 (0, 0)))) (fun s17 _ => m - (intOf s17).toNat)
  case atStart => exact ⟨0, by omega, rfl, HBX, HBL, HX0⟩
  case round =>
    obtain ⟨j, hj, rfl, HXR, HBR, HZR⟩ := hrel
    by_cases hjm : j < m
    · obtain ⟨⟨x, k⟩, he⟩ : ∃ e, P[j]? = some e := ⟨_, List.getElem?_eq_getElem (by rw [← HM.out]; exact hjm)⟩
      have hup := upE_succ P j _ he
      have ax : wr.cell? ⟨gn, on + j, none⟩ = some (.string x) := by rw [← HP.out.nm j _ he]; exact HBR.out.cell (p := ⟨gn, on + j, none⟩) (HGN.out (by omega))
      have ak : ∀ i u, k.cells[i]? = some u → wr.cell? ⟨gk, j * 8 + i, none⟩ = some u := fun i u hi => by rw [← HP.out.kc j _ i u he hi]; exact HBR.out.cell (p := ⟨gk, j * 8 + i, none⟩) (HGK.out (by omega))
      have HINS : Hid (∀ w5, BX w5 (w.heap.size + 1) (w.heap.size + 1) (upE P j) → w.heap.size + 1 ≤ w5.heap.size → Calls Tryz.prog 56 #[.pointer (some ⟨w.heap.size + 1, 0, none⟩), .string x, k.val] w5 fun e w' => e = .returned (.tuple #[]) ∧ BX w' (w.heap.size + 1) (w.heap.size + 1) (upE P (j + 1)) ∧ Below (w.heap.size + 1) w5 w') := Lib.hid fun w5 hb5 hs5 => by
        rw [hup]
        exact insert_BX w5 _ _ _ x k hb5 (by have := upE_len P j (by rw [← HM.out]; omega); omega) hs5 (Nat.le_refl _)
      obtain ⟨kd, ki, kb, kt, na, nn, nc, ka, kn, kc, fp, hv⟩ := k
      have a0 : wr.cell? ⟨gk, j * 8, none⟩ = some (.int .i64 kd) := ak 0 _ rfl
      have a1 : wr.cell? ⟨gk, j * 8 + 1, none⟩ = some (.int .i64 ki) := ak 1 _ rfl
      have a2 : wr.cell? ⟨gk, j * 8 + 2, none⟩ = some (.int .u64 kb) := ak 2 _ rfl
      have a3 : wr.cell? ⟨gk, j * 8 + 3, none⟩ = some (.string kt) := ak 3 _ rfl
      have a4 : wr.cell? ⟨gk, j * 8 + 4, none⟩ = some (.slice na nn nc) := ak 4 _ rfl
      have a5 : wr.cell? ⟨gk, j * 8 + 5, none⟩ = some (.slice ka kn kc) := ak 5 _ rfl
      have a6 : wr.cell? ⟨gk, j * 8 + 6, none⟩ = some (.pointer fp) := ak 6 _ rfl
      have a7 : wr.cell? ⟨gk, j * 8 + 7, none⟩ = some (.int .i64 hv) := ak 7 _ rfl
      have hlt : (j : Int) < m := by omega
      have hln2 : (j : Int) < lk := by omega
      have hY := heap_alloc_new wr (.cells #[.int .i64 kd, .int .i64 ki, .int .u64 kb, .string kt, .slice na nn nc, .slice ka kn kc, .pointer fp, .int .i64 hv] 70)
      have hl5 : w.heap.size + 1 ≤ (wr.alloc (.cells #[.int .i64 kd, .int .i64 ki, .int .u64 kb, .string kt, .slice na nn nc, .slice ka kn kc, .pointer fp, .int .i64 hv] 70)).heap.size := by have := HBR.out.size; have := (Array.getElem?_eq_some_iff.1 HZR.out).1; simp; omega
      have hb5 : BX (wr.alloc (.cells #[.int .i64 kd, .int .i64 ki, .int .u64 kb, .string kt, .slice na nn nc, .slice ka kn kc, .pointer fp, .int .i64 hv] 70)) (w.heap.size + 1) (w.heap.size + 1) (upE P j) := HXR.out.on (fun i hi => Below.heap_alloc wr _ i hi)
      have hbe5 : Below w.heap.size w (wr.alloc (.cells #[.int .i64 kd, .int .i64 ki, .int .u64 kb, .string kt, .slice na nn nc, .slice ka kn kc, .pointer fp, .int .i64 hv] 70)) := HBR.out.alloc (by have := HBR.out.size; omega) _
      have hz5 : (wr.alloc (.cells #[.int .i64 kd, .int .i64 ki, .int .u64 kb, .string kt, .slice na nn nc, .slice ka kn kc, .pointer fp, .int .i64 hv] 70)).heap[w.heap.size]? = some (.cells #[.int .i64 0, .int .i64 0, .int .u64 0, .string ⟨#[]⟩, .slice none 0 0, .slice none 0 0, .pointer none, .int .i64 0] 70 (0, 0)) := by rw [Below.heap_alloc wr _ _ (Array.getElem?_eq_some_iff.1 HZR.out).1]; exact HZR.out
      have ax5 : (wr.alloc (.cells #[.int .i64 kd, .int .i64 ki, .int .u64 kb, .string kt, .slice na nn nc, .slice ka kn kc, .pointer fp, .int .i64 hv] 70)).cell? ⟨gn, on + j, none⟩ = some (.string x) := by rw [← HP.out.nm j _ he]; exact hbe5.cell (p := ⟨gn, on + j, none⟩) (HGN.out (by omega))
      have hwj : IntKind.i64.wrap ((j : Int) + 1) = (j : Int) + 1 := by rw [IntKind.wrap_i64]; omega
      clear ak hup he ax
      go_upto_region 5 with (fail)
      clear a0 a1 a2 a3 a4 a5 a6 a7
      have c0 : (wr.alloc (.cells #[.int .i64 kd, .int .i64 ki, .int .u64 kb, .string kt, .slice na nn nc, .slice ka kn kc, .pointer fp, .int .i64 hv] 70)).cell? ⟨wr.heap.size, 0, none⟩ = some (.int .i64 kd) := by rw [cell_of_row _ _ 0 _ 70 _ hY]; rfl
      have c1 : (wr.alloc (.cells #[.int .i64 kd, .int .i64 ki, .int .u64 kb, .string kt, .slice na nn nc, .slice ka kn kc, .pointer fp, .int .i64 hv] 70)).cell? ⟨wr.heap.size, 1, none⟩ = some (.int .i64 ki) := by rw [cell_of_row _ _ 1 _ 70 _ hY]; rfl
      have c2 : (wr.alloc (.cells #[.int .i64 kd, .int .i64 ki, .int .u64 kb, .string kt, .slice na nn nc, .slice ka kn kc, .pointer fp, .int .i64 hv] 70)).cell? ⟨wr.heap.size, 2, none⟩ = some (.int .u64 kb) := by rw [cell_of_row _ _ 2 _ 70 _ hY]; rfl
      have c3 : (wr.alloc (.cells #[.int .i64 kd, .int .i64 ki, .int .u64 kb, .string kt, .slice na nn nc, .slice ka kn kc, .pointer fp, .int .i64 hv] 70)).cell? ⟨wr.heap.size, 3, none⟩ = some (.string kt) := by rw [cell_of_row _ _ 3 _ 70 _ hY]; rfl
      have c4 : (wr.alloc (.cells #[.int .i64 kd, .int .i64 ki, .int .u64 kb, .string kt, .slice na nn nc, .slice ka kn kc, .pointer fp, .int .i64 hv] 70)).cell? ⟨wr.heap.size, 4, none⟩ = some (.slice na nn nc) := by rw [cell_of_row _ _ 4 _ 70 _ hY]; rfl
      have c5 : (wr.alloc (.cells #[.int .i64 kd, .int .i64 ki, .int .u64 kb, .string kt, .slice na nn nc, .slice ka kn kc, .pointer fp, .int .i64 hv] 70)).cell? ⟨wr.heap.size, 5, none⟩ = some (.slice ka kn kc) := by rw [cell_of_row _ _ 5 _ 70 _ hY]; rfl
      have c6 : (wr.alloc (.cells #[.int .i64 kd, .int .i64 ki, .int .u64 kb, .string kt, .slice na nn nc, .slice ka kn kc, .pointer fp, .int .i64 hv] 70)).cell? ⟨wr.heap.size, 6, none⟩ = some (.pointer fp) := by rw [cell_of_row _ _ 6 _ 70 _ hY]; rfl
      have c7 : (wr.alloc (.cells #[.int .i64 kd, .int .i64 ki, .int .u64 kb, .string kt, .slice na nn nc, .slice ka kn kc, .pointer fp, .int .i64 hv] 70)).cell? ⟨wr.heap.size, 7, none⟩ = some (.int .i64 hv) := by rw [cell_of_row _ _ 7 _ 70 _ hY]; rfl
      generalize (wr.alloc (.cells #[.int .i64 kd, .int .i64 ki, .int .u64 kb, .string kt, .slice na nn nc, .slice ka kn kc, .pointer fp, .int .i64 hv] 70)) = w5 at *
      generalize wr.heap.size = Y at *
      have HI5 := Lib.hid (HINS.out w5.drew (hb5.on (fun _ _ => rfl)) hl5)
      have HBE5 := Lib.hid hbe5
      have HZ5 := Lib.hid hz5
      clear hY hb5 hbe5 hz5 HINS
      have S1 : w5.drew.cell? ⟨gn, on + j, none⟩ = some (.string x) ∧ w5.drew.cell? ⟨Y, 0, none⟩ = some (.int .i64 kd) ∧ w5.drew.cell? ⟨Y, 1, none⟩ = some (.int .i64 ki) ∧ w5.drew.cell? ⟨Y, 2, none⟩ = some (.int .u64 kb) ∧ w5.drew.cell? ⟨Y, 3, none⟩ = some (.string kt) ∧ w5.drew.cell? ⟨Y, 4, none⟩ = some (.slice na nn nc) ∧ w5.drew.cell? ⟨Y, 5, none⟩ = some (.slice ka kn kc) ∧ w5.drew.cell? ⟨Y, 6, none⟩ = some (.pointer fp) ∧ w5.drew.cell? ⟨Y, 7, none⟩ = some (.int .i64 hv) := ⟨ax5, c0, c1, c2, c3, c4, c5, c6, c7⟩
      refine wp_region_M (fun w' => w'.cell? ⟨gn, on + j, none⟩ = some (.string x) ∧ w'.cell? ⟨Y, 0, none⟩ = some (.int .i64 kd) ∧ w'.cell? ⟨Y, 1, none⟩ = some (.int .i64 ki) ∧ w'.cell? ⟨Y, 2, none⟩ = some (.int .u64 kb) ∧ w'.cell? ⟨Y, 3, none⟩ = some (.string kt) ∧ w'.cell? ⟨Y, 4, none⟩ = some (.slice na nn nc) ∧ w'.cell? ⟨Y, 5, none⟩ = some (.slice ka kn kc) ∧ w'.cell? ⟨Y, 6, none⟩ = some (.pointer fp) ∧ w'.cell? ⟨Y, 7, none⟩ = some (.int .i64 hv)) 5 (by kernel_rfl) ?_
      refine' wpAnyM_take (i := 0) (oi := { dst := some 22, op := Op.move (Operand.tmp 0), type := 35, pos := "value.go:150", after := #[], guard := none }) (v := ?v6) rfl (by kernel_rfl) (by kernel_rfl) (by kernel_rfl) (fun _ _ _ h => h) (by kernel_rfl) (fun _ => S1) (Or.inl ⟨by rfl, ?hy6⟩) ?rest6
      case hy6 =>
        intro w' hSw
        go_simp
        try with_reducible rfl
      try simp only [Act.put, List.setIfInBounds_toArray, List.set_cons_zero, List.set_cons_succ]
      refine' wpAnyM_take (i := 1) (oi := { dst := some 23, op := Op.move (Operand.tmp 6), type := 3, pos := "value.go:150", after := #[], guard := none }) (v := ?v7) rfl (by kernel_rfl) (by kernel_rfl) (by kernel_rfl) (fun _ _ _ h => h) (by kernel_rfl) (fun _ => S1) (Or.inl ⟨by rfl, ?hy7⟩) ?rest7
      case hy7 =>
        intro w' hSw
        go_simp
        try with_reducible rfl
      try simp only [Act.put, List.setIfInBounds_toArray, List.set_cons_zero, List.set_cons_succ]
      refine' wpAnyM_take (i := 2) (oi := { dst := some 24, op := Op.indexAddr 35 (Operand.tmp 22) (Operand.tmp 23), type := 0, pos := "value.go:150", after := #[{ on := 0, ground := Ground.data }, { on := 1, ground := Ground.data }], guard := none }) (v := ?v8) rfl (by kernel_rfl) (by kernel_rfl) (by kernel_rfl) (fun _ _ _ h => h) (by kernel_rfl) (fun _ => S1) (Or.inl ⟨by rfl, ?hy8⟩) ?rest8
      case hy8 =>
        intro w' hSw
        go_simp
        try with_reducible rfl
      try simp only [Act.put, List.setIfInBounds_toArray, List.set_cons_zero, List.set_cons_succ]
      refine' wpAnyM_load (i := 3) (oi := { dst := some 25, op := Op.load 9 (Operand.tmp 24), type := 9, pos := "value.go:150", after := #[{ on := 2, ground := Ground.data }], guard := none }) (v := ?v9) [5] rfl (by kernel_rfl) (by kernel_rfl) (by kernel_rfl) (fun _ _ _ h => h) (by kernel_rfl) (by kernel_rfl) (by kernel_rfl) (by kernel_rfl) S1 (Or.inl ⟨by rfl, ?hy9⟩) ?rest9
      case hy9 =>
        intro w' hSw
        try dsimp only at hSw
        go_simp
        try with_reducible rfl
      try simp only [Act.put, List.setIfInBounds_toArray, List.set_cons_zero, List.set_cons_succ]
      refine' wpAnyM_load (i := 4) (oi := { dst := some 26, op := Op.load 70 (Operand.tmp 7), type := 70, pos := "value.go:150", after := #[], guard := none }) (v := ?v10) [5] rfl (by kernel_rfl) (by kernel_rfl) (by kernel_rfl) (fun _ _ _ h => h) (by kernel_rfl) (by kernel_rfl) (by kernel_rfl) (by kernel_rfl) S1 (Or.inl ⟨by rfl, ?hy10⟩) ?rest10
      case hy10 =>
        intro w' hSw
        try dsimp only at hSw
        go_simp
        try with_reducible rfl
      try simp only [Act.put, List.setIfInBounds_toArray, List.set_cons_zero, List.set_cons_succ]
      refine wpAnyM_one (i := 5) (o := { dst := some 27, op := Op.call { callee := Callee.value (Operand.func 56), args := #[Operand.tmp 5, Operand.tmp 25, Operand.tmp 26], argTypes := #[120, 9, 70] }, type := 0, pos := "value.go:150", after := #[{ on := 3, ground := Ground.data }, { on := 4, ground := Ground.data }], guard := none }) (by kernel_rfl) rfl (fun K hK => ?_)
      go_simp
      refine HI5.out.mono ?_
      rintro e w6 ⟨rfl, hx6, hb6⟩
      refine hK.out _ _ (fun h => absurd h (by decide +kernel)) ?_
      clear hK K
      refine wpAnyM_done (by kernel_rfl) ?_ _
      go_wp2
      go_roundw
      case rel => exact ⟨j + 1, by omega, rfl, Lib.hid hx6, Lib.hid (HBE5.out.drew.trans (hb6.mono (Nat.le_succ _))), Lib.hid ((hb6.block w.heap.size (Nat.lt_succ_self _)).trans HZ5.out)⟩
      case measure => simp [intOf]; omega

    · obtain rfl : j = m := by omega
      have hjm2 : ¬ (j : Int) < j := by omega
      obtain ⟨⟨vn, vk, hbox, hrN, hrK⟩, hris⟩ := HXR.out
      obtain ⟨aN, cN, rfl⟩ := own_slice hrN
      obtain ⟨aK, cK, rfl⟩ := own_slice hrK
      have hlE : (upE P j).length ≤ 1000 := by have := upE_len P j (by have := HM.out; omega); omega
      have hmE := upE_mem P j (by have := HM.out; omega)
      have hWt := weigh_row wr (w.heap.size + 1) (.int .i64 0) (.int .u64 0) (.slice aN (upE P j).length cN) (.pointer none) 4 (by decide) ⟨#[]⟩ (Nat.zero_le _) aK cK (upE P j) hOf hrK hlE (fun e he => (HW.out e (hmE e he)).on HBR.out) (fun e he => HB.out e (hmE e he))
      have hb0 : wr.cell? ⟨w.heap.size + 1, 0, none⟩ = some (.slice aN (upE P j).length cN) := by rw [cell_of_row _ _ 0 _ 120 _ hbox]; rfl
      have hb1 : wr.cell? ⟨w.heap.size + 1, 1, none⟩ = some (.slice aK (upE P j).length cK) := by rw [cell_of_row _ _ 1 _ 120 _ hbox]; rfl
      have hRl := (Array.getElem?_eq_some_iff.1 HZR.out).1
      rw [show own9 4 ⟨#[]⟩ = 1 from rfl] at hWt
      have HGoal : Hid (∀ w9, wr.grownBy w9 (some w.heap.size) → ∃ aN' cN' aK' cK', Ending.returned (.agg #[.int .i64 4, .int .i64 0, .int .u64 0, .string ⟨#[]⟩, .slice aN (upE P j).length cN, .slice aK (upE P j).length cK, .pointer none, .int .i64 ((1 + sumH (hAt hOf (upE P j)) (upE P j).length : Nat) : Int)]) = .returned (.agg #[.int .i64 4, .int .i64 0, .int .u64 0, .string ⟨#[]⟩, .slice aN' (upE P j).length cN', .slice aK' (upE P j).length cK', .pointer none, .int .i64 ((1 + sumH (hAt hOf (upE P j)) (upE P j).length : Nat) : Int)]) ∧
            w9.ownsRow w.heap.size 9 1 (.slice aN' (upE P j).length cN') (upE P j).length ((names (upE P j)).map Value.string) ∧ w9.ownsRow w.heap.size 70 8 (.slice aK' (upE P j).length cK') (upE P j).length (cells (upE P j)) ∧ Below w.heap.size w w9) := Lib.hid fun w9 hg => by
        refine ⟨aN, cN, aK, cK, rfl, ?_, ?_, ?_⟩
        · exact own_base (hrN.kept hg (Or.inr fun e => by have := ownsRow_ge hrN _ e; omega)) (Nat.le_succ _)
        · exact own_base (hrK.kept hg (Or.inr fun e => by have := ownsRow_ge hrK _ e; omega)) (Nat.le_succ _)
        · exact HBR.out.grown hg (by omega) (fun k e => by cases e; exact Nat.le_refl _)
      clear hbox hrN hrK hris hlE hmE
      generalize hhe : (1 + sumH (hAt hOf (upE P j)) (upE P j).length : Nat) = h at *
      generalize hne : (upE P j).length = n at *
      have Hh := Lib.hid hhe
      have Hn := Lib.hid hne
      clear hhe hne
      have HWt := Lib.hid hWt
      have hV := heap_alloc_new wr (.cells #[.int .i64 4, .int .i64 0, .int .u64 0, .string ⟨#[]⟩, .slice aN n cN, .slice aK n cK, .pointer none, .int .i64 0] 70)
      have hR : (wr.alloc (.cells #[.int .i64 4, .int .i64 0, .int .u64 0, .string ⟨#[]⟩, .slice aN n cN, .slice aK n cK, .pointer none, .int .i64 0] 70)).heap[w.heap.size]? = some (.cells #[.int .i64 0, .int .i64 0, .int .u64 0, .string ⟨#[]⟩, .slice none 0 0, .slice none 0 0, .pointer none, .int .i64 0] 70 (0, 0)) := by rw [Below.heap_alloc wr _ _ hRl]; exact HZR.out
      have HBA : Hid (Below wr.heap.size wr (wr.alloc (.cells #[.int .i64 4, .int .i64 0, .int .u64 0, .string ⟨#[]⟩, .slice aN n cN, .slice aK n cK, .pointer none, .int .i64 0] 70))) := Lib.hid ((Below.refl _ _).alloc (Nat.le_refl _) _)
      have HRL := Lib.hid hRl
      clear hWt
      go_upto_region 8 with (fail)
      clear hb0 hb1
      have z0 : (wr.alloc (.cells #[.int .i64 4, .int .i64 0, .int .u64 0, .string ⟨#[]⟩, .slice aN n cN, .slice aK n cK, .pointer none, .int .i64 0] 70)).cell? ⟨wr.heap.size, 0, none⟩ = some (.int .i64 4) := by rw [cell_of_row _ _ 0 _ 70 _ hV]; rfl
      have z1 : (wr.alloc (.cells #[.int .i64 4, .int .i64 0, .int .u64 0, .string ⟨#[]⟩, .slice aN n cN, .slice aK n cK, .pointer none, .int .i64 0] 70)).cell? ⟨wr.heap.size, 1, none⟩ = some (.int .i64 0) := by rw [cell_of_row _ _ 1 _ 70 _ hV]; rfl
      have z2 : (wr.alloc (.cells #[.int .i64 4, .int .i64 0, .int .u64 0, .string ⟨#[]⟩, .slice aN n cN, .slice aK n cK, .pointer none, .int .i64 0] 70)).cell? ⟨wr.heap.size, 2, none⟩ = some (.int .u64 0) := by rw [cell_of_row _ _ 2 _ 70 _ hV]; rfl
      have z3 : (wr.alloc (.cells #[.int .i64 4, .int .i64 0, .int .u64 0, .string ⟨#[]⟩, .slice aN n cN, .slice aK n cK, .pointer none, .int .i64 0] 70)).cell? ⟨wr.heap.size, 3, none⟩ = some (.string ⟨#[]⟩) := by rw [cell_of_row _ _ 3 _ 70 _ hV]; rfl
      have z4 : (wr.alloc (.cells #[.int .i64 4, .int .i64 0, .int .u64 0, .string ⟨#[]⟩, .slice aN n cN, .slice aK n cK, .pointer none, .int .i64 0] 70)).cell? ⟨wr.heap.size, 4, none⟩ = some (.slice aN n cN) := by rw [cell_of_row _ _ 4 _ 70 _ hV]; rfl
      have z5 : (wr.alloc (.cells #[.int .i64 4, .int .i64 0, .int .u64 0, .string ⟨#[]⟩, .slice aN n cN, .slice aK n cK, .pointer none, .int .i64 0] 70)).cell? ⟨wr.heap.size, 5, none⟩ = some (.slice aK n cK) := by rw [cell_of_row _ _ 5 _ 70 _ hV]; rfl
      have z6 : (wr.alloc (.cells #[.int .i64 4, .int .i64 0, .int .u64 0, .string ⟨#[]⟩, .slice aN n cN, .slice aK n cK, .pointer none, .int .i64 0] 70)).cell? ⟨wr.heap.size, 6, none⟩ = some (.pointer none) := by rw [cell_of_row _ _ 6 _ 70 _ hV]; rfl
      have z7 : (wr.alloc (.cells #[.int .i64 4, .int .i64 0, .int .u64 0, .string ⟨#[]⟩, .slice aN n cN, .slice aK n cK, .pointer none, .int .i64 0] 70)).cell? ⟨wr.heap.size, 7, none⟩ = some (.int .i64 0) := by rw [cell_of_row _ _ 7 _ 70 _ hV]; rfl
      have HV := Lib.hid hV
      have HR := Lib.hid hR
      have HSZ : Hid ((wr.alloc (.cells #[.int .i64 4, .int .i64 0, .int .u64 0, .string ⟨#[]⟩, .slice aN n cN, .slice aK n cK, .pointer none, .int .i64 0] 70)).heap.size = wr.heap.size + 1) := Lib.hid (by simp)
      clear hV hR
      go_upto_region 9 with (fail)
      refine (HWt.out _ HBA.out).mono ?_; rintro e w7 ⟨rfl, hb7⟩
      have hV7 := (hb7.block wr.heap.size (by rw [HSZ.out]; omega)).trans HV.out
      have hR7 := (hb7.block w.heap.size (by rw [HSZ.out]; have := HRL.out; omega)).trans HR.out
      have x0 : w7.cell? ⟨wr.heap.size, 0, none⟩ = some (.int .i64 4) := by (rw [cell_of_row _ _ 0 _ 70 _ hV7]; rfl)
      have y0 : w7.cell? ⟨w.heap.size, 0, none⟩ = some (.int .i64 0) := by (rw [cell_of_row _ _ 0 _ 70 _ hR7]; rfl)
      have f0 : w7.frozen? ⟨w.heap.size, 0, none⟩ = false := frozen_of_row _ _ 0 _ 70 hR7
      have x1 : w7.cell? ⟨wr.heap.size, 1, none⟩ = some (.int .i64 0) := by (rw [cell_of_row _ _ 1 _ 70 _ hV7]; rfl)
      have y1 : w7.cell? ⟨w.heap.size, 1, none⟩ = some (.int .i64 0) := by (rw [cell_of_row _ _ 1 _ 70 _ hR7]; rfl)
      have f1 : w7.frozen? ⟨w.heap.size, 1, none⟩ = false := frozen_of_row _ _ 1 _ 70 hR7
      have x2 : w7.cell? ⟨wr.heap.size, 2, none⟩ = some (.int .u64 0) := by (rw [cell_of_row _ _ 2 _ 70 _ hV7]; rfl)
      have y2 : w7.cell? ⟨w.heap.size, 2, none⟩ = some (.int .u64 0) := by (rw [cell_of_row _ _ 2 _ 70 _ hR7]; rfl)
      have f2 : w7.frozen? ⟨w.heap.size, 2, none⟩ = false := frozen_of_row _ _ 2 _ 70 hR7
      have x3 : w7.cell? ⟨wr.heap.size, 3, none⟩ = some (.string ⟨#[]⟩) := by (rw [cell_of_row _ _ 3 _ 70 _ hV7]; rfl)
      have y3 : w7.cell? ⟨w.heap.size, 3, none⟩ = some (.string ⟨#[]⟩) := by (rw [cell_of_row _ _ 3 _ 70 _ hR7]; rfl)
      have f3 : w7.frozen? ⟨w.heap.size, 3, none⟩ = false := frozen_of_row _ _ 3 _ 70 hR7
      have x4 : w7.cell? ⟨wr.heap.size, 4, none⟩ = some (.slice aN n cN) := by (rw [cell_of_row _ _ 4 _ 70 _ hV7]; rfl)
      have y4 : w7.cell? ⟨w.heap.size, 4, none⟩ = some (.slice none 0 0) := by (rw [cell_of_row _ _ 4 _ 70 _ hR7]; rfl)
      have f4 : w7.frozen? ⟨w.heap.size, 4, none⟩ = false := frozen_of_row _ _ 4 _ 70 hR7
      have x5 : w7.cell? ⟨wr.heap.size, 5, none⟩ = some (.slice aK n cK) := by (rw [cell_of_row _ _ 5 _ 70 _ hV7]; rfl)
      have y5 : w7.cell? ⟨w.heap.size, 5, none⟩ = some (.slice none 0 0) := by (rw [cell_of_row _ _ 5 _ 70 _ hR7]; rfl)
      have f5 : w7.frozen? ⟨w.heap.size, 5, none⟩ = false := frozen_of_row _ _ 5 _ 70 hR7
      have x6 : w7.cell? ⟨wr.heap.size, 6, none⟩ = some (.pointer none) := by (rw [cell_of_row _ _ 6 _ 70 _ hV7]; rfl)
      have y6 : w7.cell? ⟨w.heap.size, 6, none⟩ = some (.pointer none) := by (rw [cell_of_row _ _ 6 _ 70 _ hR7]; rfl)
      have f6 : w7.frozen? ⟨w.heap.size, 6, none⟩ = false := frozen_of_row _ _ 6 _ 70 hR7
      have x7 : w7.cell? ⟨wr.heap.size, 7, none⟩ = some (.int .i64 0) := by (rw [cell_of_row _ _ 7 _ 70 _ hV7]; rfl)
      have y7 : w7.cell? ⟨w.heap.size, 7, none⟩ = some (.int .i64 0) := by (rw [cell_of_row _ _ 7 _ 70 _ hR7]; rfl)
      have f7 : w7.frozen? ⟨w.heap.size, 7, none⟩ = false := frozen_of_row _ _ 7 _ 70 hR7
      have g7 : w7.frozen? ⟨wr.heap.size, 7, none⟩ = false := frozen_of_row _ _ 7 _ 70 hV7
      have HB7 := Lib.hid hb7
      have HR7 := Lib.hid hR7
      clear hV7 hR7 hb7
      have hRV : w.heap.size ≠ wr.heap.size := by have := HRL.out; omega
      have hRV2 : wr.heap.size ≠ w.heap.size := by have := HRL.out; omega
      clear z0 z1 z2 z3 z4 z5 z6 z7
      go_wp2
      have q0 : (w7.setCell ⟨wr.heap.size, 7, none⟩ (.int .i64 (h : Int))).heap[w.heap.size]? = some (.cells #[.int .i64 0, .int .i64 0, .int .u64 0, .string ⟨#[]⟩, .slice none 0 0, .slice none 0 0, .pointer none, .int .i64 0] 70 (0, 0)) := (heap_setCell_other w7 ⟨wr.heap.size, 7, none⟩ w.heap.size _ hRV).trans HR7.out
      have q1 := heap_setCell_same _ w.heap.size 7 _ 70 (.int .i64 (h : Int)) (heap_setCell_same _ w.heap.size 6 _ 70 (.pointer none) (heap_setCell_same _ w.heap.size 5 _ 70 (.slice aK n cK) (heap_setCell_same _ w.heap.size 4 _ 70 (.slice aN n cN) (heap_setCell_same _ w.heap.size 3 _ 70 (.string ⟨#[]⟩) (heap_setCell_same _ w.heap.size 2 _ 70 (.int .u64 0) (heap_setCell_same _ w.heap.size 1 _ 70 (.int .i64 0) (heap_setCell_same _ w.heap.size 0 _ 70 (.int .i64 4) q0)))))))
      (try simp only [Exit.inBlock, Exit.then])
      refine bodyPost_ret (v := .agg #[.int .i64 4, .int .i64 0, .int .u64 0, .string ⟨#[]⟩, .slice aN n cN, .slice aK n cK, .pointer none, .int .i64 (h : Int)]) ?_ rfl ?_
      · exact results_cell_row (P := Tryz.prog) rfl _ _ w.heap.size 70 _ (0, 0) _ rfl q1 Tryz.underlying70 rfl (by kernel_rfl)
      have hhe := Hh.out
      have hne := Hn.out
      subst hhe
      subst hne
      refine HGoal.out _ ?_
      repeat' first
        | (refine grown_at ?_ _ rfl _)
        | (refine grown_new ?_ _ (Nat.le_refl _) _)
      exact ⟨HB7.out.os, HB7.out.tape, HB7.out.output, by have := HB7.out.size; rw [HSZ.out] at this; omega, fun k hk _ => (HB7.out.block k (by rw [HSZ.out]; omega)).trans (Below.heap_alloc wr _ k hk)⟩

set_option maxRecDepth 20000 in
set_option maxHeartbeats 4000000 in
theorem record_C (w : World) (na0 : Option Addr) (gn on ln cn gk lk ck m : Nat) (P : List Ent) (hOf : Kid → Nat) (hm : m = P.length) (hm2 : m ≤ 1000) (hP : PairsIn w gn on gk P) (hln : m ≤ ln) (hlk : m ≤ lk) (hcn : ln ≤ cn) (hck : lk ≤ ck) (hc : ck ≤ 9223372036854775807)
    (hmin : m = 0) (hreq : True) (hgn : 0 < m → gn < w.heap.size) (hgk : 0 < m → gk < w.heap.size) (hW : ∀ e ∈ P, Weighs w e.2.val (hOf e.2)) (hB : ∀ e ∈ P, hOf e.2 ≤ 100000) :
    Calls Tryz.prog 48 #[.slice na0 ln cn, .slice none 0 0] w fun e w' => ∃ aN cN aK cK, e = .returned (.agg #[.int .i64 4, .int .i64 0, .int .u64 0, .string ⟨#[]⟩, .slice aN (upE P m).length cN, .slice aK (upE P m).length cK, .pointer none, .int .i64 ((1 + sumH (hAt hOf (upE P m)) (upE P m).length : Nat) : Int)]) ∧
      w'.ownsRow w.heap.size 9 1 (.slice aN (upE P m).length cN) (upE P m).length ((names (upE P m)).map Value.string) ∧ w'.ownsRow w.heap.size 70 8 (.slice aK (upE P m).length cK) (upE P m).length (cells (upE P m)) ∧ Below w.heap.size w w' := by
  have HP := Lib.hid hP
  have HW := Lib.hid hW
  have HB := Lib.hid hB
  have HGN := Lib.hid hgn
  have HGK := Lib.hid hgk
  have HM := Lib.hid hm
  have hx0 : ((w.alloc (.cells #[.int .i64 0, .int .i64 0, .int .u64 0, .string ⟨#[]⟩, .slice none 0 0, .slice none 0 0, .pointer none, .int .i64 0] 70)).alloc (.cells #[.slice none 0 0, .slice none 0 0] 120)).heap[w.heap.size]? = some (.cells #[.int .i64 0, .int .i64 0, .int .u64 0, .string ⟨#[]⟩, .slice none 0 0, .slice none 0 0, .pointer none, .int .i64 0] 70 (0, 0)) := by rw [Below.heap_alloc _ _ _ (by simp)]; exact heap_alloc_new w _
  have hx1 : ((w.alloc (.cells #[.int .i64 0, .int .i64 0, .int .u64 0, .string ⟨#[]⟩, .slice none 0 0, .slice none 0 0, .pointer none, .int .i64 0] 70)).alloc (.cells #[.slice none 0 0, .slice none 0 0] 120)).heap[w.heap.size + 1]? = some (.cells #[.slice none 0 0, .slice none 0 0] 120 (0, 0)) := by
    have := heap_alloc_new (w.alloc (.cells #[.int .i64 0, .int .i64 0, .int .u64 0, .string ⟨#[]⟩, .slice none 0 0, .slice none 0 0, .pointer none, .int .i64 0] 70)) (.cells #[.slice none 0 0, .slice none 0 0] 120)
    simpa using this
  have hbx : BX ((w.alloc (.cells #[.int .i64 0, .int .i64 0, .int .u64 0, .string ⟨#[]⟩, .slice none 0 0, .slice none 0 0, .pointer none, .int .i64 0] 70)).alloc (.cells #[.slice none 0 0, .slice none 0 0] 120)) (w.heap.size + 1) (w.heap.size + 1) [] := ⟨⟨_, _, hx1, World.ownsRow_nil _ _ _ _, World.ownsRow_nil _ _ _ _⟩, True.intro⟩
  have hbl : Below w.heap.size w ((w.alloc (.cells #[.int .i64 0, .int .i64 0, .int .u64 0, .string ⟨#[]⟩, .slice none 0 0, .slice none 0 0, .pointer none, .int .i64 0] 70)).alloc (.cells #[.slice none 0 0, .slice none 0 0] 120)) := ((Below.refl _ _).alloc (Nat.le_refl _) _).alloc (by simp) _
  have HX0 := Lib.hid hx0
  have HBX := Lib.hid hbx
  have HBL := Lib.hid hbl
  clear hm hP hW hB hgn hgk hx0 hx1 hbx hbl
  subst hmin
  have hmi : (0 : Int) ≤ ln := by omega
  go_enter Tryz.func48, Tryz.ntmps48
  go_upto_region 3 with (fail)
  generalize ((w.alloc (.cells #[.int .i64 0, .int .i64 0, .int .u64 0, .string ⟨#[]⟩, .slice none 0 0, .slice none 0 0, .pointer none, .int .i64 0] 70)).alloc (.cells #[.slice none 0 0, .slice none 0 0] 120)) = w2 at *
  go_loopw [17] (fun s17 wr => ∃ j : Nat, j ≤ 0 ∧ s17 = .int .i64 (j : Int) ∧ Hid (BX wr (w.heap.size + 1) (w.heap.size + 1) (upE P j)) ∧ Hid (Below w.heap.size w wr) ∧ Hid (wr.heap[w.heap.size]? = some (.cells #[.int .i64 0, .int .i64 0, .int .u64 0, .string ⟨#[]⟩, .slice none 0 0, .slice none 0 0, .pointer none, .int .i64 0] 70 (0, 0)))) (fun s17 _ => 0 - (intOf s17).toNat)
  case atStart => exact ⟨0, by omega, rfl, HBX, HBL, HX0⟩
  case round =>
    obtain ⟨j, hj, rfl, HXR, HBR, HZR⟩ := hrel
    by_cases hjm : j < 0
    · omega

    · have hj0 : Hid (j = 0) := Lib.hid (by omega)
      have hjm2 : ¬ (j : Int) < 0 := by omega
      obtain ⟨⟨vn, vk, hbox, hrN, hrK⟩, hris⟩ := HXR.out
      obtain ⟨aN, cN, rfl⟩ := own_slice hrN
      obtain ⟨aK, cK, rfl⟩ := own_slice hrK
      have hlE : (upE P j).length ≤ 1000 := by have := upE_len P j (by have := HM.out; omega); omega
      have hmE := upE_mem P j (by have := HM.out; omega)
      have hWt := weigh_row wr (w.heap.size + 1) (.int .i64 0) (.int .u64 0) (.slice aN (upE P j).length cN) (.pointer none) 4 (by decide) ⟨#[]⟩ (Nat.zero_le _) aK cK (upE P j) hOf hrK hlE (fun e he => (HW.out e (hmE e he)).on HBR.out) (fun e he => HB.out e (hmE e he))
      have hb0 : wr.cell? ⟨w.heap.size + 1, 0, none⟩ = some (.slice aN (upE P j).length cN) := by rw [cell_of_row _ _ 0 _ 120 _ hbox]; rfl
      have hb1 : wr.cell? ⟨w.heap.size + 1, 1, none⟩ = some (.slice aK (upE P j).length cK) := by rw [cell_of_row _ _ 1 _ 120 _ hbox]; rfl
      have hRl := (Array.getElem?_eq_some_iff.1 HZR.out).1
      rw [show own9 4 ⟨#[]⟩ = 1 from rfl] at hWt
      have HGoal : Hid (∀ w9, wr.grownBy w9 (some w.heap.size) → ∃ aN' cN' aK' cK', Ending.returned (.agg #[.int .i64 4, .int .i64 0, .int .u64 0, .string ⟨#[]⟩, .slice aN (upE P j).length cN, .slice aK (upE P j).length cK, .pointer none, .int .i64 ((1 + sumH (hAt hOf (upE P j)) (upE P j).length : Nat) : Int)]) = .returned (.agg #[.int .i64 4, .int .i64 0, .int .u64 0, .string ⟨#[]⟩, .slice aN' (upE P j).length cN', .slice aK' (upE P j).length cK', .pointer none, .int .i64 ((1 + sumH (hAt hOf (upE P j)) (upE P j).length : Nat) : Int)]) ∧
            w9.ownsRow w.heap.size 9 1 (.slice aN' (upE P j).length cN') (upE P j).length ((names (upE P j)).map Value.string) ∧ w9.ownsRow w.heap.size 70 8 (.slice aK' (upE P j).length cK') (upE P j).length (cells (upE P j)) ∧ Below w.heap.size w w9) := Lib.hid fun w9 hg => by
        refine ⟨aN, cN, aK, cK, rfl, ?_, ?_, ?_⟩
        · exact own_base (hrN.kept hg (Or.inr fun e => by have := ownsRow_ge hrN _ e; omega)) (Nat.le_succ _)
        · exact own_base (hrK.kept hg (Or.inr fun e => by have := ownsRow_ge hrK _ e; omega)) (Nat.le_succ _)
        · exact HBR.out.grown hg (by omega) (fun k e => by cases e; exact Nat.le_refl _)
      clear hj hbox hrN hrK hris hlE hmE
      generalize hhe : (1 + sumH (hAt hOf (upE P j)) (upE P j).length : Nat) = h at *
      generalize hne : (upE P j).length = n at *
      have Hh := Lib.hid hhe
      have Hn := Lib.hid hne
      clear hhe hne
      have HWt := Lib.hid hWt
      have hV := heap_alloc_new wr (.cells #[.int .i64 4, .int .i64 0, .int .u64 0, .string ⟨#[]⟩, .slice aN n cN, .slice aK n cK, .pointer none, .int .i64 0] 70)
      have hR : (wr.alloc (.cells #[.int .i64 4, .int .i64 0, .int .u64 0, .string ⟨#[]⟩, .slice aN n cN, .slice aK n cK, .pointer none, .int .i64 0] 70)).heap[w.heap.size]? = some (.cells #[.int .i64 0, .int .i64 0, .int .u64 0, .string ⟨#[]⟩, .slice none 0 0, .slice none 0 0, .pointer none, .int .i64 0] 70 (0, 0)) := by rw [Below.heap_alloc wr _ _ hRl]; exact HZR.out
      have HBA : Hid (Below wr.heap.size wr (wr.alloc (.cells #[.int .i64 4, .int .i64 0, .int .u64 0, .string ⟨#[]⟩, .slice aN n cN, .slice aK n cK, .pointer none, .int .i64 0] 70))) := Lib.hid ((Below.refl _ _).alloc (Nat.le_refl _) _)
      have HRL := Lib.hid hRl
      clear hWt
      go_upto_region 8 with (fail)
      clear hb0 hb1
      have z0 : (wr.alloc (.cells #[.int .i64 4, .int .i64 0, .int .u64 0, .string ⟨#[]⟩, .slice aN n cN, .slice aK n cK, .pointer none, .int .i64 0] 70)).cell? ⟨wr.heap.size, 0, none⟩ = some (.int .i64 4) := by rw [cell_of_row _ _ 0 _ 70 _ hV]; rfl
      have z1 : (wr.alloc (.cells #[.int .i64 4, .int .i64 0, .int .u64 0, .string ⟨#[]⟩, .slice aN n cN, .slice aK n cK, .pointer none, .int .i64 0] 70)).cell? ⟨wr.heap.size, 1, none⟩ = some (.int .i64 0) := by rw [cell_of_row _ _ 1 _ 70 _ hV]; rfl
      have z2 : (wr.alloc (.cells #[.int .i64 4, .int .i64 0, .int .u64 0, .string ⟨#[]⟩, .slice aN n cN, .slice aK n cK, .pointer none, .int .i64 0] 70)).cell? ⟨wr.heap.size, 2, none⟩ = some (.int .u64 0) := by rw [cell_of_row _ _ 2 _ 70 _ hV]; rfl
      have z3 : (wr.alloc (.cells #[.int .i64 4, .int .i64 0, .int .u64 0, .string ⟨#[]⟩, .slice aN n cN, .slice aK n cK, .pointer none, .int .i64 0] 70)).cell? ⟨wr.heap.size, 3, none⟩ = some (.string ⟨#[]⟩) := by rw [cell_of_row _ _ 3 _ 70 _ hV]; rfl
      have z4 : (wr.alloc (.cells #[.int .i64 4, .int .i64 0, .int .u64 0, .string ⟨#[]⟩, .slice aN n cN, .slice aK n cK, .pointer none, .int .i64 0] 70)).cell? ⟨wr.heap.size, 4, none⟩ = some (.slice aN n cN) := by rw [cell_of_row _ _ 4 _ 70 _ hV]; rfl
      have z5 : (wr.alloc (.cells #[.int .i64 4, .int .i64 0, .int .u64 0, .string ⟨#[]⟩, .slice aN n cN, .slice aK n cK, .pointer none, .int .i64 0] 70)).cell? ⟨wr.heap.size, 5, none⟩ = some (.slice aK n cK) := by rw [cell_of_row _ _ 5 _ 70 _ hV]; rfl
      have z6 : (wr.alloc (.cells #[.int .i64 4, .int .i64 0, .int .u64 0, .string ⟨#[]⟩, .slice aN n cN, .slice aK n cK, .pointer none, .int .i64 0] 70)).cell? ⟨wr.heap.size, 6, none⟩ = some (.pointer none) := by rw [cell_of_row _ _ 6 _ 70 _ hV]; rfl
      have z7 : (wr.alloc (.cells #[.int .i64 4, .int .i64 0, .int .u64 0, .string ⟨#[]⟩, .slice aN n cN, .slice aK n cK, .pointer none, .int .i64 0] 70)).cell? ⟨wr.heap.size, 7, none⟩ = some (.int .i64 0) := by rw [cell_of_row _ _ 7 _ 70 _ hV]; rfl
      have HV := Lib.hid hV
      have HR := Lib.hid hR
      have HSZ : Hid ((wr.alloc (.cells #[.int .i64 4, .int .i64 0, .int .u64 0, .string ⟨#[]⟩, .slice aN n cN, .slice aK n cK, .pointer none, .int .i64 0] 70)).heap.size = wr.heap.size + 1) := Lib.hid (by simp)
      clear hV hR
      go_upto_region 9 with (fail)
      refine (HWt.out _ HBA.out).mono ?_; rintro e w7 ⟨rfl, hb7⟩
      have hV7 := (hb7.block wr.heap.size (by rw [HSZ.out]; omega)).trans HV.out
      have hR7 := (hb7.block w.heap.size (by rw [HSZ.out]; have := HRL.out; omega)).trans HR.out
      have x0 : w7.cell? ⟨wr.heap.size, 0, none⟩ = some (.int .i64 4) := by (rw [cell_of_row _ _ 0 _ 70 _ hV7]; rfl)
      have y0 : w7.cell? ⟨w.heap.size, 0, none⟩ = some (.int .i64 0) := by (rw [cell_of_row _ _ 0 _ 70 _ hR7]; rfl)
      have f0 : w7.frozen? ⟨w.heap.size, 0, none⟩ = false := frozen_of_row _ _ 0 _ 70 hR7
      have x1 : w7.cell? ⟨wr.heap.size, 1, none⟩ = some (.int .i64 0) := by (rw [cell_of_row _ _ 1 _ 70 _ hV7]; rfl)
      have y1 : w7.cell? ⟨w.heap.size, 1, none⟩ = some (.int .i64 0) := by (rw [cell_of_row _ _ 1 _ 70 _ hR7]; rfl)
      have f1 : w7.frozen? ⟨w.heap.size, 1, none⟩ = false := frozen_of_row _ _ 1 _ 70 hR7
      have x2 : w7.cell? ⟨wr.heap.size, 2, none⟩ = some (.int .u64 0) := by (rw [cell_of_row _ _ 2 _ 70 _ hV7]; rfl)
      have y2 : w7.cell? ⟨w.heap.size, 2, none⟩ = some (.int .u64 0) := by (rw [cell_of_row _ _ 2 _ 70 _ hR7]; rfl)
      have f2 : w7.frozen? ⟨w.heap.size, 2, none⟩ = false := frozen_of_row _ _ 2 _ 70 hR7
      have x3 : w7.cell? ⟨wr.heap.size, 3, none⟩ = some (.string ⟨#[]⟩) := by (rw [cell_of_row _ _ 3 _ 70 _ hV7]; rfl)
      have y3 : w7.cell? ⟨w.heap.size, 3, none⟩ = some (.string ⟨#[]⟩) := by (rw [cell_of_row _ _ 3 _ 70 _ hR7]; rfl)
      have f3 : w7.frozen? ⟨w.heap.size, 3, none⟩ = false := frozen_of_row _ _ 3 _ 70 hR7
      have x4 : w7.cell? ⟨wr.heap.size, 4, none⟩ = some (.slice aN n cN) := by (rw [cell_of_row _ _ 4 _ 70 _ hV7]; rfl)
      have y4 : w7.cell? ⟨w.heap.size, 4, none⟩ = some (.slice none 0 0) := by (rw [cell_of_row _ _ 4 _ 70 _ hR7]; rfl)
      have f4 : w7.frozen? ⟨w.heap.size, 4, none⟩ = false := frozen_of_row _ _ 4 _ 70 hR7
      have x5 : w7.cell? ⟨wr.heap.size, 5, none⟩ = some (.slice aK n cK) := by (rw [cell_of_row _ _ 5 _ 70 _ hV7]; rfl)
      have y5 : w7.cell? ⟨w.heap.size, 5, none⟩ = some (.slice none 0 0) := by (rw [cell_of_row _ _ 5 _ 70 _ hR7]; rfl)
      have f5 : w7.frozen? ⟨w.heap.size, 5, none⟩ = false := frozen_of_row _ _ 5 _ 70 hR7
      have x6 : w7.cell? ⟨wr.heap.size, 6, none⟩ = some (.pointer none) := by (rw [cell_of_row _ _ 6 _ 70 _ hV7]; rfl)
      have y6 : w7.cell? ⟨w.heap.size, 6, none⟩ = some (.pointer none) := by (rw [cell_of_row _ _ 6 _ 70 _ hR7]; rfl)
      have f6 : w7.frozen? ⟨w.heap.size, 6, none⟩ = false := frozen_of_row _ _ 6 _ 70 hR7
      have x7 : w7.cell? ⟨wr.heap.size, 7, none⟩ = some (.int .i64 0) := by (rw [cell_of_row _ _ 7 _ 70 _ hV7]; rfl)
      have y7 : w7.cell? ⟨w.heap.size, 7, none⟩ = some (.int .i64 0) := by (rw [cell_of_row _ _ 7 _ 70 _ hR7]; rfl)
      have f7 : w7.frozen? ⟨w.heap.size, 7, none⟩ = false := frozen_of_row _ _ 7 _ 70 hR7
      have g7 : w7.frozen? ⟨wr.heap.size, 7, none⟩ = false := frozen_of_row _ _ 7 _ 70 hV7
      have HB7 := Lib.hid hb7
      have HR7 := Lib.hid hR7
      clear hV7 hR7 hb7
      have hRV : w.heap.size ≠ wr.heap.size := by have := HRL.out; omega
      have hRV2 : wr.heap.size ≠ w.heap.size := by have := HRL.out; omega
      clear z0 z1 z2 z3 z4 z5 z6 z7
      go_wp2
      have q0 : (w7.setCell ⟨wr.heap.size, 7, none⟩ (.int .i64 (h : Int))).heap[w.heap.size]? = some (.cells #[.int .i64 0, .int .i64 0, .int .u64 0, .string ⟨#[]⟩, .slice none 0 0, .slice none 0 0, .pointer none, .int .i64 0] 70 (0, 0)) := (heap_setCell_other w7 ⟨wr.heap.size, 7, none⟩ w.heap.size _ hRV).trans HR7.out
      have q1 := heap_setCell_same _ w.heap.size 7 _ 70 (.int .i64 (h : Int)) (heap_setCell_same _ w.heap.size 6 _ 70 (.pointer none) (heap_setCell_same _ w.heap.size 5 _ 70 (.slice aK n cK) (heap_setCell_same _ w.heap.size 4 _ 70 (.slice aN n cN) (heap_setCell_same _ w.heap.size 3 _ 70 (.string ⟨#[]⟩) (heap_setCell_same _ w.heap.size 2 _ 70 (.int .u64 0) (heap_setCell_same _ w.heap.size 1 _ 70 (.int .i64 0) (heap_setCell_same _ w.heap.size 0 _ 70 (.int .i64 4) q0)))))))
      (try simp only [Exit.inBlock, Exit.then])
      refine bodyPost_ret (v := .agg #[.int .i64 4, .int .i64 0, .int .u64 0, .string ⟨#[]⟩, .slice aN n cN, .slice aK n cK, .pointer none, .int .i64 (h : Int)]) ?_ rfl ?_
      · exact results_cell_row (P := Tryz.prog) rfl _ _ w.heap.size 70 _ (0, 0) _ rfl q1 Tryz.underlying70 rfl (by kernel_rfl)
      have hhe := Hh.out
      have hne := Hn.out
      have hj1 := hj0.out
      subst hj1
      subst hhe
      subst hne
      refine HGoal.out _ ?_
      repeat' first
        | (refine grown_at ?_ _ rfl _)
        | (refine grown_new ?_ _ (Nat.le_refl _) _)
      exact ⟨HB7.out.os, HB7.out.tape, HB7.out.output, by have := HB7.out.size; rw [HSZ.out] at this; omega, fun k hk _ => (HB7.out.block k (by rw [HSZ.out]; omega)).trans (Below.heap_alloc wr _ k hk)⟩

set_option maxRecDepth 20000 in
set_option maxHeartbeats 4000000 in
theorem record_D (w : World) (na0 : Option Addr) (gn on ln cn gk lk ck m : Nat) (P : List Ent) (hOf : Kid → Nat) (hm : m = P.length) (hm2 : m ≤ 1000) (hP : PairsIn w gn on gk P) (hln : m ≤ ln) (hlk : m ≤ lk) (hcn : ln ≤ cn) (hck : lk ≤ ck) (hc : ck ≤ 9223372036854775807)
    (hmin : m = 0) (hreq : 0 < lk) (hgn : 0 < m → gn < w.heap.size) (hgk : 0 < m → gk < w.heap.size) (hW : ∀ e ∈ P, Weighs w e.2.val (hOf e.2)) (hB : ∀ e ∈ P, hOf e.2 ≤ 100000) :
    Calls Tryz.prog 48 #[.slice na0 0 cn, .slice (some ⟨gk, 0, none⟩) lk ck] w fun e w' => ∃ aN cN aK cK, e = .returned (.agg #[.int .i64 4, .int .i64 0, .int .u64 0, .string ⟨#[]⟩, .slice aN (upE P m).length cN, .slice aK (upE P m).length cK, .pointer none, .int .i64 ((1 + sumH (hAt hOf (upE P m)) (upE P m).length : Nat) : Int)]) ∧
      w'.ownsRow w.heap.size 9 1 (.slice aN (upE P m).length cN) (upE P m).length ((names (upE P m)).map Value.string) ∧ w'.ownsRow w.heap.size 70 8 (.slice aK (upE P m).length cK) (upE P m).length (cells (upE P m)) ∧ Below w.heap.size w w' := by
  have HP := Lib.hid hP
  have HW := Lib.hid hW
  have HB := Lib.hid hB
  have HGN := Lib.hid hgn
  have HGK := Lib.hid hgk
  have HM := Lib.hid hm
  have hx0 : ((w.alloc (.cells #[.int .i64 0, .int .i64 0, .int .u64 0, .string ⟨#[]⟩, .slice none 0 0, .slice none 0 0, .pointer none, .int .i64 0] 70)).alloc (.cells #[.slice none 0 0, .slice none 0 0] 120)).heap[w.heap.size]? = some (.cells #[.int .i64 0, .int .i64 0, .int .u64 0, .string ⟨#[]⟩, .slice none 0 0, .slice none 0 0, .pointer none, .int .i64 0] 70 (0, 0)) := by rw [Below.heap_alloc _ _ _ (by simp)]; exact heap_alloc_new w _
  have hx1 : ((w.alloc (.cells #[.int .i64 0, .int .i64 0, .int .u64 0, .string ⟨#[]⟩, .slice none 0 0, .slice none 0 0, .pointer none, .int .i64 0] 70)).alloc (.cells #[.slice none 0 0, .slice none 0 0] 120)).heap[w.heap.size + 1]? = some (.cells #[.slice none 0 0, .slice none 0 0] 120 (0, 0)) := by
    have := heap_alloc_new (w.alloc (.cells #[.int .i64 0, .int .i64 0, .int .u64 0, .string ⟨#[]⟩, .slice none 0 0, .slice none 0 0, .pointer none, .int .i64 0] 70)) (.cells #[.slice none 0 0, .slice none 0 0] 120)
    simpa using this
  have hbx : BX ((w.alloc (.cells #[.int .i64 0, .int .i64 0, .int .u64 0, .string ⟨#[]⟩, .slice none 0 0, .slice none 0 0, .pointer none, .int .i64 0] 70)).alloc (.cells #[.slice none 0 0, .slice none 0 0] 120)) (w.heap.size + 1) (w.heap.size + 1) [] := ⟨⟨_, _, hx1, World.ownsRow_nil _ _ _ _, World.ownsRow_nil _ _ _ _⟩, True.intro⟩
  have hbl : Below w.heap.size w ((w.alloc (.cells #[.int .i64 0, .int .i64 0, .int .u64 0, .string ⟨#[]⟩, .slice none 0 0, .slice none 0 0, .pointer none, .int .i64 0] 70)).alloc (.cells #[.slice none 0 0, .slice none 0 0] 120)) := ((Below.refl _ _).alloc (Nat.le_refl _) _).alloc (by simp) _
  have HX0 := Lib.hid hx0
  have HBX := Lib.hid hbx
  have HBL := Lib.hid hbl
  clear hm hP hW hB hgn hgk hx0 hx1 hbx hbl
  subst hmin
  have hmi : (0 : Int) < lk := by omega
  have hmk : (0 : Int) ≤ ck := by omega
  go_enter Tryz.func48, Tryz.ntmps48
  go_upto_region 3 with (fail)
  generalize ((w.alloc (.cells #[.int .i64 0, .int .i64 0, .int .u64 0, .string ⟨#[]⟩, .slice none 0 0, .slice none 0 0, .pointer none, .int .i64 0] 70)).alloc (.cells #[.slice none 0 0, .slice none 0 0] 120)) = w2 at *
  go_loopw [17] (fun s17 wr => ∃ j : Nat, j ≤ 0 ∧ s17 = .int .i64 (j : Int) ∧ Hid (BX wr (w.heap.size + 1) (w.heap.size + 1) (upE P j)) ∧ Hid (Below w.heap.size w wr) ∧ Hid (wr.heap[w.heap.size]? = some (.cells #[.int .i64 0, .int .i64 0, .int .u64 0, .string ⟨#[]⟩, .slice none 0 0, .slice none 0 0, .pointer none, .int .i64 0] 70 (0, 0)))) (fun s17 _ => 0 - (intOf s17).toNat)
  case atStart => exact ⟨0, by omega, rfl, HBX, HBL, HX0⟩
  case round =>
    obtain ⟨j, hj, rfl, HXR, HBR, HZR⟩ := hrel
    by_cases hjm : j < 0
    · omega

    · have hj0 : Hid (j = 0) := Lib.hid (by omega)
      have hjm2 : ¬ (j : Int) < 0 := by omega
      obtain ⟨⟨vn, vk, hbox, hrN, hrK⟩, hris⟩ := HXR.out
      obtain ⟨aN, cN, rfl⟩ := own_slice hrN
      obtain ⟨aK, cK, rfl⟩ := own_slice hrK
      have hlE : (upE P j).length ≤ 1000 := by have := upE_len P j (by have := HM.out; omega); omega
      have hmE := upE_mem P j (by have := HM.out; omega)
      have hWt := weigh_row wr (w.heap.size + 1) (.int .i64 0) (.int .u64 0) (.slice aN (upE P j).length cN) (.pointer none) 4 (by decide) ⟨#[]⟩ (Nat.zero_le _) aK cK (upE P j) hOf hrK hlE (fun e he => (HW.out e (hmE e he)).on HBR.out) (fun e he => HB.out e (hmE e he))
      have hb0 : wr.cell? ⟨w.heap.size + 1, 0, none⟩ = some (.slice aN (upE P j).length cN) := by rw [cell_of_row _ _ 0 _ 120 _ hbox]; rfl
      have hb1 : wr.cell? ⟨w.heap.size + 1, 1, none⟩ = some (.slice aK (upE P j).length cK) := by rw [cell_of_row _ _ 1 _ 120 _ hbox]; rfl
      have hRl := (Array.getElem?_eq_some_iff.1 HZR.out).1
      rw [show own9 4 ⟨#[]⟩ = 1 from rfl] at hWt
      have HGoal : Hid (∀ w9, wr.grownBy w9 (some w.heap.size) → ∃ aN' cN' aK' cK', Ending.returned (.agg #[.int .i64 4, .int .i64 0, .int .u64 0, .string ⟨#[]⟩, .slice aN (upE P j).length cN, .slice aK (upE P j).length cK, .pointer none, .int .i64 ((1 + sumH (hAt hOf (upE P j)) (upE P j).length : Nat) : Int)]) = .returned (.agg #[.int .i64 4, .int .i64 0, .int .u64 0, .string ⟨#[]⟩, .slice aN' (upE P j).length cN', .slice aK' (upE P j).length cK', .pointer none, .int .i64 ((1 + sumH (hAt hOf (upE P j)) (upE P j).length : Nat) : Int)]) ∧
            w9.ownsRow w.heap.size 9 1 (.slice aN' (upE P j).length cN') (upE P j).length ((names (upE P j)).map Value.string) ∧ w9.ownsRow w.heap.size 70 8 (.slice aK' (upE P j).length cK') (upE P j).length (cells (upE P j)) ∧ Below w.heap.size w w9) := Lib.hid fun w9 hg => by
        refine ⟨aN, cN, aK, cK, rfl, ?_, ?_, ?_⟩
        · exact own_base (hrN.kept hg (Or.inr fun e => by have := ownsRow_ge hrN _ e; omega)) (Nat.le_succ _)
        · exact own_base (hrK.kept hg (Or.inr fun e => by have := ownsRow_ge hrK _ e; omega)) (Nat.le_succ _)
        · exact HBR.out.grown hg (by omega) (fun k e => by cases e; exact Nat.le_refl _)
      clear hj hbox hrN hrK hris hlE hmE
      generalize hhe : (1 + sumH (hAt hOf (upE P j)) (upE P j).length : Nat) = h at *
      generalize hne : (upE P j).length = n at *
      have Hh := Lib.hid hhe
      have Hn := Lib.hid hne
      clear hhe hne
      have HWt := Lib.hid hWt
      have hV := heap_alloc_new wr (.cells #[.int .i64 4, .int .i64 0, .int .u64 0, .string ⟨#[]⟩, .slice aN n cN, .slice aK n cK, .pointer none, .int .i64 0] 70)
      have hR : (wr.alloc (.cells #[.int .i64 4, .int .i64 0, .int .u64 0, .string ⟨#[]⟩, .slice aN n cN, .slice aK n cK, .pointer none, .int .i64 0] 70)).heap[w.heap.size]? = some (.cells #[.int .i64 0, .int .i64 0, .int .u64 0, .string ⟨#[]⟩, .slice none 0 0, .slice none 0 0, .pointer none, .int .i64 0] 70 (0, 0)) := by rw [Below.heap_alloc wr _ _ hRl]; exact HZR.out
      have HBA : Hid (Below wr.heap.size wr (wr.alloc (.cells #[.int .i64 4, .int .i64 0, .int .u64 0, .string ⟨#[]⟩, .slice aN n cN, .slice aK n cK, .pointer none, .int .i64 0] 70))) := Lib.hid ((Below.refl _ _).alloc (Nat.le_refl _) _)
      have HRL := Lib.hid hRl
      clear hWt
      go_upto_region 8 with (fail)
      clear hb0 hb1
      have z0 : (wr.alloc (.cells #[.int .i64 4, .int .i64 0, .int .u64 0, .string ⟨#[]⟩, .slice aN n cN, .slice aK n cK, .pointer none, .int .i64 0] 70)).cell? ⟨wr.heap.size, 0, none⟩ = some (.int .i64 4) := by rw [cell_of_row _ _ 0 _ 70 _ hV]; rfl
      have z1 : (wr.alloc (.cells #[.int .i64 4, .int .i64 0, .int .u64 0, .string ⟨#[]⟩, .slice aN n cN, .slice aK n cK, .pointer none, .int .i64 0] 70)).cell? ⟨wr.heap.size, 1, none⟩ = some (.int .i64 0) := by rw [cell_of_row _ _ 1 _ 70 _ hV]; rfl
      have z2 : (wr.alloc (.cells #[.int .i64 4, .int .i64 0, .int .u64 0, .string ⟨#[]⟩, .slice aN n cN, .slice aK n cK, .pointer none, .int .i64 0] 70)).cell? ⟨wr.heap.size, 2, none⟩ = some (.int .u64 0) := by rw [cell_of_row _ _ 2 _ 70 _ hV]; rfl
      have z3 : (wr.alloc (.cells #[.int .i64 4, .int .i64 0, .int .u64 0, .string ⟨#[]⟩, .slice aN n cN, .slice aK n cK, .pointer none, .int .i64 0] 70)).cell? ⟨wr.heap.size, 3, none⟩ = some (.string ⟨#[]⟩) := by rw [cell_of_row _ _ 3 _ 70 _ hV]; rfl
      have z4 : (wr.alloc (.cells #[.int .i64 4, .int .i64 0, .int .u64 0, .string ⟨#[]⟩, .slice aN n cN, .slice aK n cK, .pointer none, .int .i64 0] 70)).cell? ⟨wr.heap.size, 4, none⟩ = some (.slice aN n cN) := by rw [cell_of_row _ _ 4 _ 70 _ hV]; rfl
      have z5 : (wr.alloc (.cells #[.int .i64 4, .int .i64 0, .int .u64 0, .string ⟨#[]⟩, .slice aN n cN, .slice aK n cK, .pointer none, .int .i64 0] 70)).cell? ⟨wr.heap.size, 5, none⟩ = some (.slice aK n cK) := by rw [cell_of_row _ _ 5 _ 70 _ hV]; rfl
      have z6 : (wr.alloc (.cells #[.int .i64 4, .int .i64 0, .int .u64 0, .string ⟨#[]⟩, .slice aN n cN, .slice aK n cK, .pointer none, .int .i64 0] 70)).cell? ⟨wr.heap.size, 6, none⟩ = some (.pointer none) := by rw [cell_of_row _ _ 6 _ 70 _ hV]; rfl
      have z7 : (wr.alloc (.cells #[.int .i64 4, .int .i64 0, .int .u64 0, .string ⟨#[]⟩, .slice aN n cN, .slice aK n cK, .pointer none, .int .i64 0] 70)).cell? ⟨wr.heap.size, 7, none⟩ = some (.int .i64 0) := by rw [cell_of_row _ _ 7 _ 70 _ hV]; rfl
      have HV := Lib.hid hV
      have HR := Lib.hid hR
      have HSZ : Hid ((wr.alloc (.cells #[.int .i64 4, .int .i64 0, .int .u64 0, .string ⟨#[]⟩, .slice aN n cN, .slice aK n cK, .pointer none, .int .i64 0] 70)).heap.size = wr.heap.size + 1) := Lib.hid (by simp)
      clear hV hR
      go_upto_region 9 with (fail)
      refine (HWt.out _ HBA.out).mono ?_; rintro e w7 ⟨rfl, hb7⟩
      have hV7 := (hb7.block wr.heap.size (by rw [HSZ.out]; omega)).trans HV.out
      have hR7 := (hb7.block w.heap.size (by rw [HSZ.out]; have := HRL.out; omega)).trans HR.out
      have x0 : w7.cell? ⟨wr.heap.size, 0, none⟩ = some (.int .i64 4) := by (rw [cell_of_row _ _ 0 _ 70 _ hV7]; rfl)
      have y0 : w7.cell? ⟨w.heap.size, 0, none⟩ = some (.int .i64 0) := by (rw [cell_of_row _ _ 0 _ 70 _ hR7]; rfl)
      have f0 : w7.frozen? ⟨w.heap.size, 0, none⟩ = false := frozen_of_row _ _ 0 _ 70 hR7
      have x1 : w7.cell? ⟨wr.heap.size, 1, none⟩ = some (.int .i64 0) := by (rw [cell_of_row _ _ 1 _ 70 _ hV7]; rfl)
      have y1 : w7.cell? ⟨w.heap.size, 1, none⟩ = some (.int .i64 0) := by (rw [cell_of_row _ _ 1 _ 70 _ hR7]; rfl)
      have f1 : w7.frozen? ⟨w.heap.size, 1, none⟩ = false := frozen_of_row _ _ 1 _ 70 hR7
      have x2 : w7.cell? ⟨wr.heap.size, 2, none⟩ = some (.int .u64 0) := by (rw [cell_of_row _ _ 2 _ 70 _ hV7]; rfl)
      have y2 : w7.cell? ⟨w.heap.size, 2, none⟩ = some (.int .u64 0) := by (rw [cell_of_row _ _ 2 _ 70 _ hR7]; rfl)
      have f2 : w7.frozen? ⟨w.heap.size, 2, none⟩ = false := frozen_of_row _ _ 2 _ 70 hR7
      have x3 : w7.cell? ⟨wr.heap.size, 3, none⟩ = some (.string ⟨#[]⟩) := by (rw [cell_of_row _ _ 3 _ 70 _ hV7]; rfl)
      have y3 : w7.cell? ⟨w.heap.size, 3, none⟩ = some (.string ⟨#[]⟩) := by (rw [cell_of_row _ _ 3 _ 70 _ hR7]; rfl)
      have f3 : w7.frozen? ⟨w.heap.size, 3, none⟩ = false := frozen_of_row _ _ 3 _ 70 hR7
      have x4 : w7.cell? ⟨wr.heap.size, 4, none⟩ = some (.slice aN n cN) := by (rw [cell_of_row _ _ 4 _ 70 _ hV7]; rfl)
      have y4 : w7.cell? ⟨w.heap.size, 4, none⟩ = some (.slice none 0 0) := by (rw [cell_of_row _ _ 4 _ 70 _ hR7]; rfl)
      have f4 : w7.frozen? ⟨w.heap.size, 4, none⟩ = false := frozen_of_row _ _ 4 _ 70 hR7
      have x5 : w7.cell? ⟨wr.heap.size, 5, none⟩ = some (.slice aK n cK) := by (rw [cell_of_row _ _ 5 _ 70 _ hV7]; rfl)
      have y5 : w7.cell? ⟨w.heap.size, 5, none⟩ = some (.slice none 0 0) := by (rw [cell_of_row _ _ 5 _ 70 _ hR7]; rfl)
      have f5 : w7.frozen? ⟨w.heap.size, 5, none⟩ = false := frozen_of_row _ _ 5 _ 70 hR7
      have x6 : w7.cell? ⟨wr.heap.size, 6, none⟩ = some (.pointer none) := by (rw [cell_of_row _ _ 6 _ 70 _ hV7]; rfl)
      have y6 : w7.cell? ⟨w.heap.size, 6, none⟩ = some (.pointer none) := by (rw [cell_of_row _ _ 6 _ 70 _ hR7]; rfl)
      have f6 : w7.frozen? ⟨w.heap.size, 6, none⟩ = false := frozen_of_row _ _ 6 _ 70 hR7
      have x7 : w7.cell? ⟨wr.heap.size, 7, none⟩ = some (.int .i64 0) := by (rw [cell_of_row _ _ 7 _ 70 _ hV7]; rfl)
      have y7 : w7.cell? ⟨w.heap.size, 7, none⟩ = some (.int .i64 0) := by (rw [cell_of_row _ _ 7 _ 70 _ hR7]; rfl)
      have f7 : w7.frozen? ⟨w.heap.size, 7, none⟩ = false := frozen_of_row _ _ 7 _ 70 hR7
      have g7 : w7.frozen? ⟨wr.heap.size, 7, none⟩ = false := frozen_of_row _ _ 7 _ 70 hV7
      have HB7 := Lib.hid hb7
      have HR7 := Lib.hid hR7
      clear hV7 hR7 hb7
      have hRV : w.heap.size ≠ wr.heap.size := by have := HRL.out; omega
      have hRV2 : wr.heap.size ≠ w.heap.size := by have := HRL.out; omega
      clear z0 z1 z2 z3 z4 z5 z6 z7
      go_wp2
      have q0 : (w7.setCell ⟨wr.heap.size, 7, none⟩ (.int .i64 (h : Int))).heap[w.heap.size]? = some (.cells #[.int .i64 0, .int .i64 0, .int .u64 0, .string ⟨#[]⟩, .slice none 0 0, .slice none 0 0, .pointer none, .int .i64 0] 70 (0, 0)) := (heap_setCell_other w7 ⟨wr.heap.size, 7, none⟩ w.heap.size _ hRV).trans HR7.out
      have q1 := heap_setCell_same _ w.heap.size 7 _ 70 (.int .i64 (h : Int)) (heap_setCell_same _ w.heap.size 6 _ 70 (.pointer none) (heap_setCell_same _ w.heap.size 5 _ 70 (.slice aK n cK) (heap_setCell_same _ w.heap.size 4 _ 70 (.slice aN n cN) (heap_setCell_same _ w.heap.size 3 _ 70 (.string ⟨#[]⟩) (heap_setCell_same _ w.heap.size 2 _ 70 (.int .u64 0) (heap_setCell_same _ w.heap.size 1 _ 70 (.int .i64 0) (heap_setCell_same _ w.heap.size 0 _ 70 (.int .i64 4) q0)))))))
      (try simp only [Exit.inBlock, Exit.then])
      refine bodyPost_ret (v := .agg #[.int .i64 4, .int .i64 0, .int .u64 0, .string ⟨#[]⟩, .slice aN n cN, .slice aK n cK, .pointer none, .int .i64 (h : Int)]) ?_ rfl ?_
      · exact results_cell_row (P := Tryz.prog) rfl _ _ w.heap.size 70 _ (0, 0) _ rfl q1 Tryz.underlying70 rfl (by kernel_rfl)
      have hhe := Hh.out
      have hne := Hn.out
      have hj1 := hj0.out
      subst hj1
      subst hhe
      subst hne
      refine HGoal.out _ ?_
      repeat' first
        | (refine grown_at ?_ _ rfl _)
        | (refine grown_new ?_ _ (Nat.le_refl _) _)
      exact ⟨HB7.out.os, HB7.out.tape, HB7.out.output, by have := HB7.out.size; rw [HSZ.out] at this; omega, fun k hk _ => (HB7.out.block k (by rw [HSZ.out]; omega)).trans (Below.heap_alloc wr _ k hk)⟩

end Go.Proofs.YtoakfninndkgaaaGreatDoor.Val
