/- Walks: insert, of a name that is not there; of one that is. -/
import Derived.Test.YtoakfninndkgaaaGreatDoorGa05
set_option linter.unusedSimpArgs false
set_option linter.unusedVariables false
set_option linter.unusedVariables false
namespace Go.Proofs.YtoakfninndkgaaaGreatDoor.Val
open Go.RowKit
set_option maxRecDepth 20000 in
set_option maxHeartbeats 4000000 in
theorem insert_new (w : World) (base Bk n p : Nat) (S : List ByteArray) (C : List Value) (k0 k1 k2 k3 k4 k5 k6 k7 : Value) (vn vk : Value) (x : ByteArray) (hS : S.length = n) (hn : n ≤ 99998)
    (hBk : w.heap[Bk]? = some (.cells #[vn, vk] 120 (0, 0))) (hN : w.ownsRow base 9 1 vn n (S.map Value.string)) (hC : w.ownsRow base 70 8 vk n C) (hCo : ∀ u ∈ C, u.oneCell' = true) (hko : ∀ u ∈ [k0, k1, k2, k3, k4, k5, k6, k7], u.oneCell' = true)
    (hp : p ≤ n) (hpart : ∀ k s, S[k]? = some s → Op.bytesLess s.toList x.toList = decide (k < p)) (hnot : isAt S p x = false) (hb : base ≤ w.heap.size) :
    Calls Tryz.prog 56 #[.pointer (some ⟨Bk, 0, none⟩), .string x, .agg #[k0, k1, k2, k3, k4, k5, k6, k7]] w fun e w' => e = .returned (.tuple #[]) ∧ InsEnd w base Bk vn vk (n + 1) ((S.map Value.string).take (p * 1) ++ [.string x] ++ (S.map Value.string).drop (p * 1)) (C.take (p * 8) ++ [k0, k1, k2, k3, k4, k5, k6, k7] ++ C.drop (p * 8)) w' := by
  have HPt := Lib.hid hpart
  have HCo := Lib.hid hCo
  have HNo : Hid (∀ u ∈ S.map Value.string, u.oneCell' = true) := Lib.hid fun u hu => by
    obtain ⟨s, -, rfl⟩ := List.mem_map.1 hu
    rfl
  have HKo := Lib.hid hko
  have HBS : Hid (∀ w1 : World, w1.ownsRow base 9 1 vn n (S.map Value.string) → Calls Tryz.prog 65 #[vn, .string x] w1 fun e w' => e = .returned (.tuple #[.int .i64 (p : Int), .bool false]) ∧ w1 = w') := Lib.hid fun w1 h1 => by
    have := bs_own w1 base n p S x vn hS (by omega) h1 hp HPt
    rw [hnot] at this
    exact this
  have hBkl := (Array.getElem?_eq_some_iff.1 hBk).1
  have hI : InsAt w base Bk w.heap.size vn vk #[k0, k1, k2, k3, k4, k5, k6, k7] vn n (S.map Value.string) vk n C (w.alloc (.cells #[k0, k1, k2, k3, k4, k5, k6, k7] 70)) := {
    box := by rw [Below.heap_alloc w _ Bk hBkl]; exact hBk
    kid := heap_alloc_new w (.cells #[k0, k1, k2, k3, k4, k5, k6, k7] 70)
    names := hN.kept (World.grownBy_alloc w _ none) (by cases h : vn.ownBlock <;> simp)
    kids := hC.kept (World.grownBy_alloc w _ none) (by cases h : vk.ownBlock <;> simp)
    os := rfl
    tape := rfl
    output := rfl
    size := by simp
    block := fun j hj _ _ _ => Below.heap_alloc w _ j hj
    nown := fun g hg => Or.inl hg
    kown := fun g hg => Or.inl hg
    xkid := Nat.le_refl _ }
  have hXk : vk.ownBlock ≠ some w.heap.size := fun e => by
    obtain ⟨c, hc⟩ := own_in hC e
    have := (Array.getElem?_eq_some_iff.1 hc).1
    omega
  have HVN : Hid (∀ g, vn.ownBlock = some g → g < w.heap.size) := Lib.hid fun g e => by
    obtain ⟨c, hc⟩ := own_in hN e
    exact (Array.getElem?_eq_some_iff.1 hc).1
  have HVK : Hid (∀ g, vk.ownBlock = some g → g < w.heap.size) := Lib.hid fun g e => by
    obtain ⟨c, hc⟩ := own_in hC e
    exact (Array.getElem?_eq_some_iff.1 hc).1
  have hbl : base ≤ (w.alloc (.cells #[k0, k1, k2, k3, k4, k5, k6, k7] 70)).heap.size := by simp; omega
  have c0 : (w.alloc (.cells #[k0, k1, k2, k3, k4, k5, k6, k7] 70)).cell? ⟨Bk, 0, none⟩ = some vn := by rw [cell_of_row _ Bk 0 _ 120 _ hI.box]; rfl
  clear hpart hnot hBk hN hC hCo hko hBkl
  go_enter Tryz.func56, Tryz.ntmps56
  go_upto_region 3 with (first | (go_at_call 65; refine (HBS.out _ hI.names).mono ?_; rintro e w' ⟨rfl, rfl⟩) | fail)
  clear c0 HBS
  generalize w.alloc (.cells #[k0, k1, k2, k3, k4, k5, k6, k7] 70) = w1 at *
  obtain ⟨X, hXe⟩ : ∃ X, X = w.heap.size := ⟨_, rfl⟩
  rw [← hXe] at hI hXk ⊢
  clear hXe
  have HF : Hid (∀ w' vn' n' xn' vk' m' xk', InsAt w base Bk X vn vk #[k0, k1, k2, k3, k4, k5, k6, k7] vn' n' xn' vk' m' xk' w' → w'.cell? ⟨Bk, 0, none⟩ = some vn ∧ w'.cell? ⟨Bk, 1, none⟩ = some vk ∧ w'.cell? ⟨X, 0, none⟩ = some k0 ∧ w'.cell? ⟨X, 1, none⟩ = some k1 ∧ w'.cell? ⟨X, 2, none⟩ = some k2 ∧ w'.cell? ⟨X, 3, none⟩ = some k3 ∧ w'.cell? ⟨X, 4, none⟩ = some k4 ∧ w'.cell? ⟨X, 5, none⟩ = some k5 ∧ w'.cell? ⟨X, 6, none⟩ = some k6 ∧ w'.cell? ⟨X, 7, none⟩ = some k7) := Lib.hid fun w' vn' n' xn' vk' m' xk' h => ⟨by rw [cell_of_row w' Bk 0 _ 120 _ h.box]; rfl, by rw [cell_of_row w' Bk 1 _ 120 _ h.box]; rfl, by rw [cell_of_row w' X 0 _ 70 _ h.kid]; rfl, by rw [cell_of_row w' X 1 _ 70 _ h.kid]; rfl, by rw [cell_of_row w' X 2 _ 70 _ h.kid]; rfl, by rw [cell_of_row w' X 3 _ 70 _ h.kid]; rfl, by rw [cell_of_row w' X 4 _ 70 _ h.kid]; rfl, by rw [cell_of_row w' X 5 _ 70 _ h.kid]; rfl, by rw [cell_of_row w' X 6 _ 70 _ h.kid]; rfl, by rw [cell_of_row w' X 7 _ 70 _ h.kid]; rfl⟩
  have H1 := Lib.hid hI.drew
  have HI1 := Lib.hid hI
  have HXk := Lib.hid hXk
  have S1 := HF.out _ _ _ _ _ _ _ H1.out
  have HB1 : Hid (base ≤ w1.heap.size) := Lib.hid hbl
  clear hI hXk hbl
  refine wp_region_M (fun w' => w'.cell? ⟨Bk, 0, none⟩ = some vn ∧ w'.cell? ⟨Bk, 1, none⟩ = some vk ∧ w'.cell? ⟨X, 0, none⟩ = some k0 ∧ w'.cell? ⟨X, 1, none⟩ = some k1 ∧ w'.cell? ⟨X, 2, none⟩ = some k2 ∧ w'.cell? ⟨X, 3, none⟩ = some k3 ∧ w'.cell? ⟨X, 4, none⟩ = some k4 ∧ w'.cell? ⟨X, 5, none⟩ = some k5 ∧ w'.cell? ⟨X, 6, none⟩ = some k6 ∧ w'.cell? ⟨X, 7, none⟩ = some k7) 17 (by kernel_rfl) ?_
  refine' wpAnyM_take (i := 0) (oi := { dst := some 19, op := Op.move (Operand.tmp 0), type := 132, pos := "value.go:142", after := #[], guard := none }) (v := ?v1) rfl (by kernel_rfl) (by kernel_rfl) (by kernel_rfl) (fun _ _ _ h => h) (by kernel_rfl) (fun _ => S1) (Or.inl ⟨by rfl, ?hy1⟩) ?rest1
  case hy1 =>
    intro w' hSw
    go_simp
    try with_reducible rfl
  try simp only [Act.put, List.setIfInBounds_toArray, List.set_cons_zero, List.set_cons_succ]
  refine' wpAnyM_take (i := 1) (oi := { dst := some 20, op := Op.move (Operand.tmp 0), type := 132, pos := "value.go:142", after := #[{ on := 20, ground := Ground.gcOnly Departure.lateStores }], guard := none }) (v := ?v2) rfl (by kernel_rfl) (by kernel_rfl) (by kernel_rfl) (fun _ _ _ h => h) (by kernel_rfl) (fun _ => S1) (Or.inl ⟨by rfl, ?hy2⟩) ?rest2
  case hy2 =>
    intro w' hSw
    go_simp
    try with_reducible rfl
  try simp only [Act.put, List.setIfInBounds_toArray, List.set_cons_zero, List.set_cons_succ]
  refine' wpAnyM_take (i := 2) (oi := { dst := some 21, op := Op.move (Operand.tmp 0), type := 132, pos := "value.go:142", after := #[], guard := none }) (v := ?v3) rfl (by kernel_rfl) (by kernel_rfl) (by kernel_rfl) (fun _ _ _ h => h) (by kernel_rfl) (fun _ => S1) (Or.inl ⟨by rfl, ?hy3⟩) ?rest3
  case hy3 =>
    intro w' hSw
    go_simp
    try with_reducible rfl
  try simp only [Act.put, List.setIfInBounds_toArray, List.set_cons_zero, List.set_cons_succ]
  refine' wpAnyM_take (i := 3) (oi := { dst := some 22, op := Op.nilCheck (Operand.tmp 21), type := 0, pos := "value.go:142", after := #[{ on := 2, ground := Ground.data }], guard := none }) (v := ?v4) rfl (by kernel_rfl) (by kernel_rfl) (by kernel_rfl) (fun _ _ _ h => h) (by kernel_rfl) (fun _ => S1) (Or.inl ⟨by rfl, ?hy4⟩) ?rest4
  case hy4 =>
    intro w' hSw
    go_simp
    try with_reducible rfl
  try simp only [Act.put, List.setIfInBounds_toArray, List.set_cons_zero, List.set_cons_succ]
  refine' wpAnyM_take (i := 4) (oi := { dst := some 23, op := Op.fieldAddr 120 (Operand.tmp 22) 0, type := 0, pos := "value.go:142", after := #[{ on := 3, ground := Ground.data }], guard := none }) (v := ?v5) rfl (by kernel_rfl) (by kernel_rfl) (by kernel_rfl) (fun _ _ _ h => h) (by kernel_rfl) (fun _ => S1) (Or.inl ⟨by rfl, ?hy5⟩) ?rest5
  case hy5 =>
    intro w' hSw
    go_simp
    try with_reducible rfl
  try simp only [Act.put, List.setIfInBounds_toArray, List.set_cons_zero, List.set_cons_succ]
  refine' wpAnyM_load (i := 5) (oi := { dst := some 24, op := Op.load 35 (Operand.tmp 23), type := 35, pos := "value.go:142", after := #[{ on := 4, ground := Ground.data }], guard := none }) (v := ?v6) [9, 17] rfl (by kernel_rfl) (by kernel_rfl) (by kernel_rfl) (fun _ _ _ h => h) (by kernel_rfl) (by kernel_rfl) (by kernel_rfl) (by kernel_rfl) S1 (Or.inl ⟨by rfl, ?hy6⟩) ?rest6
  case hy6 =>
    intro w' hSw
    try dsimp only at hSw
    go_simp
    try with_reducible rfl
  try simp only [Act.put, List.setIfInBounds_toArray, List.set_cons_zero, List.set_cons_succ]
  refine' wpAnyM_take (i := 6) (oi := { dst := some 25, op := Op.move (Operand.tmp 6), type := 3, pos := "value.go:142", after := #[], guard := none }) (v := ?v7) rfl (by kernel_rfl) (by kernel_rfl) (by kernel_rfl) (fun _ _ _ h => h) (by kernel_rfl) (fun _ => S1) (Or.inl ⟨by rfl, ?hy7⟩) ?rest7
  case hy7 =>
    intro w' hSw
    go_simp
    try with_reducible rfl
  try simp only [Act.put, List.setIfInBounds_toArray, List.set_cons_zero, List.set_cons_succ]
  refine' wpAnyM_take (i := 7) (oi := { dst := some 26, op := Op.move (Operand.tmp 1), type := 9, pos := "value.go:142", after := #[], guard := none }) (v := ?v8) rfl (by kernel_rfl) (by kernel_rfl) (by kernel_rfl) (fun _ _ _ h => h) (by kernel_rfl) (fun _ => S1) (Or.inl ⟨by rfl, ?hy8⟩) ?rest8
  case hy8 =>
    intro w' hSw
    go_simp
    try with_reducible rfl
  try simp only [Act.put, List.setIfInBounds_toArray, List.set_cons_zero, List.set_cons_succ]
  refine' wpAnyM_take (i := 10) (oi := { dst := some 29, op := Op.move (Operand.tmp 0), type := 132, pos := "value.go:142", after := #[], guard := none }) (v := ?v9) rfl (by kernel_rfl) (by kernel_rfl) (by kernel_rfl) (fun _ _ _ h => h) (by kernel_rfl) (fun _ => S1) (Or.inl ⟨by rfl, ?hy9⟩) ?rest9
  case hy9 =>
    intro w' hSw
    go_simp
    try with_reducible rfl
  try simp only [Act.put, List.setIfInBounds_toArray, List.set_cons_zero, List.set_cons_succ]
  refine' wpAnyM_take (i := 11) (oi := { dst := some 30, op := Op.nilCheck (Operand.tmp 29), type := 0, pos := "value.go:142", after := #[{ on := 10, ground := Ground.data }], guard := none }) (v := ?v10) rfl (by kernel_rfl) (by kernel_rfl) (by kernel_rfl) (fun _ _ _ h => h) (by kernel_rfl) (fun _ => S1) (Or.inl ⟨by rfl, ?hy10⟩) ?rest10
  case hy10 =>
    intro w' hSw
    go_simp
    try with_reducible rfl
  try simp only [Act.put, List.setIfInBounds_toArray, List.set_cons_zero, List.set_cons_succ]
  refine' wpAnyM_take (i := 12) (oi := { dst := some 31, op := Op.fieldAddr 120 (Operand.tmp 30) 1, type := 0, pos := "value.go:142", after := #[{ on := 11, ground := Ground.data }], guard := none }) (v := ?v11) rfl (by kernel_rfl) (by kernel_rfl) (by kernel_rfl) (fun _ _ _ h => h) (by kernel_rfl) (fun _ => S1) (Or.inl ⟨by rfl, ?hy11⟩) ?rest11
  case hy11 =>
    intro w' hSw
    go_simp
    try with_reducible rfl
  try simp only [Act.put, List.setIfInBounds_toArray, List.set_cons_zero, List.set_cons_succ]
  refine' wpAnyM_load (i := 13) (oi := { dst := some 32, op := Op.load 67 (Operand.tmp 31), type := 67, pos := "value.go:142", after := #[{ on := 12, ground := Ground.data }], guard := none }) (v := ?v12) [17] rfl (by kernel_rfl) (by kernel_rfl) (by kernel_rfl) (fun _ _ _ h => h) (by kernel_rfl) (by kernel_rfl) (by kernel_rfl) (by kernel_rfl) S1 (Or.inl ⟨by rfl, ?hy12⟩) ?rest12
  case hy12 =>
    intro w' hSw
    try dsimp only at hSw
    go_simp
    try with_reducible rfl
  try simp only [Act.put, List.setIfInBounds_toArray, List.set_cons_zero, List.set_cons_succ]
  refine' wpAnyM_take (i := 14) (oi := { dst := some 33, op := Op.move (Operand.tmp 6), type := 3, pos := "value.go:142", after := #[], guard := none }) (v := ?v13) rfl (by kernel_rfl) (by kernel_rfl) (by kernel_rfl) (fun _ _ _ h => h) (by kernel_rfl) (fun _ => S1) (Or.inl ⟨by rfl, ?hy13⟩) ?rest13
  case hy13 =>
    intro w' hSw
    go_simp
    try with_reducible rfl
  try simp only [Act.put, List.setIfInBounds_toArray, List.set_cons_zero, List.set_cons_succ]
  refine' wpAnyM_load (i := 15) (oi := { dst := some 34, op := Op.load 70 (Operand.tmp 5), type := 70, pos := "value.go:142", after := #[], guard := none }) (v := ?v14) [16, 17] rfl (by kernel_rfl) (by kernel_rfl) (by kernel_rfl) (fun _ _ _ h => h) (by kernel_rfl) (by kernel_rfl) (by kernel_rfl) (by kernel_rfl) S1 (Or.inl ⟨by rfl, ?hy14⟩) ?rest14
  case hy14 =>
    intro w' hSw
    try dsimp only at hSw
    go_simp
    try with_reducible rfl
  try simp only [Act.put, List.setIfInBounds_toArray, List.set_cons_zero, List.set_cons_succ]
  refine wpAnyM_two (i := 8) (j := 16) (o := { dst := some 27, op := Op.buildSlice 35 1 #[(0, Operand.tmp 26)], type := 35, pos := "value.go:142", after := #[{ on := 7, ground := Ground.data }], guard := none }) (p := { dst := some 35, op := Op.buildSlice 67 1 #[(0, Operand.tmp 34)], type := 67, pos := "value.go:142", after := #[{ on := 15, ground := Ground.data }], guard := none }) (by kernel_rfl) rfl rfl (fun K hK => ?_) (fun K hK => ?_)
  · skip
    go_simp
    have hJ : InsAt w base Bk X vn vk #[k0, k1, k2, k3, k4, k5, k6, k7] vn n (S.map Value.string) vk n C (w1.alloc (.cells #[Value.string x] 9)).drew := (HI1.out.alloc _).drew
    have hB : (w1.alloc (.cells #[Value.string x] 9)).drew.heap[w1.heap.size]? = some (.cells [Value.string x].toArray 9 (0, 0)) := heap_alloc_new w1 _
    have hBl : w.heap.size ≤ w1.heap.size := HI1.out.size
    have hbl : base ≤ (w1.alloc (.cells #[Value.string x] 9)).drew.heap.size := by have := HB1.out; simp; omega
    refine hK.out _ _ (fun _ => HF.out _ _ _ _ _ _ _ hJ) ?_
    clear hK K
    generalize (w1.alloc (.cells #[Value.string x] 9)).drew = v2 at *
    generalize w1.heap.size = B1 at *
    have HI2 := Lib.hid hJ
    have HLB1 := Lib.hid hBl
    have HB2 := Lib.hid hbl
    have hcB1 := hB
    clear hJ hB hBl hbl
    have HRB12 := Lib.hid hcB1
    clear hcB1
    refine wpAnyM_two (i := 9) (j := 16) (o := { dst := some 28, op := Op.call { callee := Callee.value (Operand.func 66), args := #[Operand.tmp 24, Operand.tmp 25, Operand.tmp 27], argTypes := #[35, 3, 35] }, type := 35, pos := "value.go:142", after := #[{ on := 5, ground := Ground.data }, { on := 6, ground := Ground.data }, { on := 8, ground := Ground.data }], guard := none }) (p := { dst := some 35, op := Op.buildSlice 67 1 #[(0, Operand.tmp 34)], type := 67, pos := "value.go:142", after := #[{ on := 15, ground := Ground.data }], guard := none }) (by kernel_rfl) rfl rfl (fun K hK => ?_) (fun K hK => ?_)
    · skip
      go_simp
      refine (ins_any_24 v2 base n p B1 1 vn (S.map Value.string) [Value.string x] (by omega) hp HI2.out.names HNo.out rfl HRB12.out (by intro u hu; rw [List.mem_singleton.1 hu]; rfl) (fun e => by have := HVN.out _ e; have := HLB1.out; omega) HB2.out).mono ?_
      rintro e v3 ⟨g1, cap1, rfl, hr, hg, ho⟩
      have hJ : InsAt w base Bk X vn vk #[k0, k1, k2, k3, k4, k5, k6, k7] (.slice (some ⟨g1, 0, none⟩) (n + 1) cap1) (n + 1) ((S.map Value.string).take (p * 1) ++ [Value.string x] ++ (S.map Value.string).drop (p * 1)) vk n C v3 := HI2.out.ins24 hg hr ho
      have hbl : base ≤ v3.heap.size := by have := HB2.out; have := hg.size; omega
      refine hK.out _ _ (fun _ => HF.out _ _ _ _ _ _ _ hJ) ?_
      clear hK K
      have HI3 := Lib.hid hJ
      have HB3 := Lib.hid hbl
      clear hJ hbl hr hg ho
      refine wpAnyM_one (i := 16) (o := { dst := some 35, op := Op.buildSlice 67 1 #[(0, Operand.tmp 34)], type := 67, pos := "value.go:142", after := #[{ on := 15, ground := Ground.data }], guard := none }) (by kernel_rfl) rfl (fun K hK => ?_)
      go_simp
      have hJ : InsAt w base Bk X vn vk #[k0, k1, k2, k3, k4, k5, k6, k7] (.slice (some ⟨g1, 0, none⟩) (n + 1) cap1) (n + 1) ((S.map Value.string).take (p * 1) ++ [Value.string x] ++ (S.map Value.string).drop (p * 1)) vk n C (v3.alloc (.cells #[k0, k1, k2, k3, k4, k5, k6, k7] 70)) := HI3.out.alloc _
      have hB : (v3.alloc (.cells #[k0, k1, k2, k3, k4, k5, k6, k7] 70)).heap[v3.heap.size]? = some (.cells [k0, k1, k2, k3, k4, k5, k6, k7].toArray 70 (0, 0)) := heap_alloc_new v3 _
      have hBl : w.heap.size ≤ v3.heap.size := HI3.out.size
      have hbl : base ≤ (v3.alloc (.cells #[k0, k1, k2, k3, k4, k5, k6, k7] 70)).heap.size := by have := HB3.out; simp; omega
      refine hK.out _ _ (fun _ => HF.out _ _ _ _ _ _ _ hJ) ?_
      clear hK K
      generalize (v3.alloc (.cells #[k0, k1, k2, k3, k4, k5, k6, k7] 70)) = v4 at *
      generalize v3.heap.size = B2 at *
      have HI4 := Lib.hid hJ
      have HLB2 := Lib.hid hBl
      have HB4 := Lib.hid hbl
      have hcB2 := hB
      clear hJ hB hBl hbl
      have HRB24 := Lib.hid hcB2
      clear hcB2
      refine wpAnyM_one (i := 17) (o := { dst := some 36, op := Op.call { callee := Callee.value (Operand.func 67), args := #[Operand.tmp 32, Operand.tmp 33, Operand.tmp 35], argTypes := #[67, 3, 67] }, type := 67, pos := "value.go:142", after := #[{ on := 13, ground := Ground.data }, { on := 14, ground := Ground.data }, { on := 16, ground := Ground.data }, { on := 9, ground := Ground.chain }], guard := none }) (by kernel_rfl) rfl (fun K hK => ?_)
      go_simp
      refine (ins_any_25 v4 base n p B2 1 vk C [k0, k1, k2, k3, k4, k5, k6, k7] (by omega) hp HI4.out.kids HCo.out rfl HRB24.out HKo.out (fun e => by have := HVK.out _ e; have := HLB2.out; omega) HB4.out).mono ?_
      rintro e v5 ⟨g2, cap2, rfl, hr, hg, ho⟩
      have hJ : InsAt w base Bk X vn vk #[k0, k1, k2, k3, k4, k5, k6, k7] (.slice (some ⟨g1, 0, none⟩) (n + 1) cap1) (n + 1) ((S.map Value.string).take (p * 1) ++ [Value.string x] ++ (S.map Value.string).drop (p * 1)) (.slice (some ⟨g2, 0, none⟩) (n + 1) cap2) (n + 1) (C.take (p * 8) ++ [k0, k1, k2, k3, k4, k5, k6, k7] ++ C.drop (p * 8)) v5 := HI4.out.ins25 hg hr ho HXk.out rfl
      refine hK.out _ _ (fun h => absurd h (by decide +kernel)) ?_
      clear hK K
      have HI5 := Lib.hid hJ
      clear hJ hr hg ho
      have b0 : v5.cell? ⟨Bk, 0, none⟩ = some vn := by rw [cell_of_row v5 Bk 0 _ 120 _ HI5.out.box]; rfl
      have b1 : v5.cell? ⟨Bk, 1, none⟩ = some vk := by rw [cell_of_row v5 Bk 1 _ 120 _ HI5.out.box]; rfl
      have f0 : v5.frozen? ⟨Bk, 0, none⟩ = false := frozen_of_row v5 Bk 0 _ 120 HI5.out.box
      have f1 : v5.frozen? ⟨Bk, 1, none⟩ = false := frozen_of_row v5 Bk 1 _ 120 HI5.out.box
      refine' wpAnyM_take (i := 18) (oi := { dst := some 37, op := Op.nilCheck (Operand.tmp 19), type := 0, pos := "value.go:142", after := #[{ on := 0, ground := Ground.data }, { on := 0, ground := Ground.phase }, { on := 1, ground := Ground.textOnly Departure.lateStores }, { on := 2, ground := Ground.phase }, { on := 3, ground := Ground.phase }, { on := 4, ground := Ground.phase }, { on := 5, ground := Ground.phase }, { on := 6, ground := Ground.phase }, { on := 7, ground := Ground.phase }, { on := 8, ground := Ground.phase }, { on := 9, ground := Ground.phase }, { on := 10, ground := Ground.textOnly Departure.lateStores }, { on := 11, ground := Ground.textOnly Departure.lateStoresUnsure }, { on := 12, ground := Ground.textOnly Departure.lateStoresUnsure }, { on := 13, ground := Ground.phase }, { on := 14, ground := Ground.textOnly Departure.lateStores }, { on := 15, ground := Ground.textOnly Departure.lateStores }, { on := 16, ground := Ground.textOnly Departure.lateStoresUnsure }, { on := 17, ground := Ground.phase }], guard := none }) (v := ?v15) rfl (by kernel_rfl) (by kernel_rfl) (by kernel_rfl) (fun _ _ _ h => h) (by kernel_rfl) (fun h => absurd h (by decide +kernel)) (Or.inl ⟨by rfl, ?hy15⟩) ?rest15
      case hy15 =>
        intro w' hSw
        go_simp
        try with_reducible rfl
      try simp only [Act.put, List.setIfInBounds_toArray, List.set_cons_zero, List.set_cons_succ]
      refine' wpAnyM_take (i := 19) (oi := { dst := some 38, op := Op.fieldAddr 120 (Operand.tmp 37) 0, type := 0, pos := "value.go:142", after := #[{ on := 18, ground := Ground.data }, { on := 0, ground := Ground.phase }, { on := 1, ground := Ground.textOnly Departure.lateStores }, { on := 2, ground := Ground.phase }, { on := 3, ground := Ground.phase }, { on := 4, ground := Ground.phase }, { on := 5, ground := Ground.phase }, { on := 6, ground := Ground.phase }, { on := 7, ground := Ground.phase }, { on := 8, ground := Ground.phase }, { on := 9, ground := Ground.phase }, { on := 10, ground := Ground.textOnly Departure.lateStores }, { on := 11, ground := Ground.textOnly Departure.lateStoresUnsure }, { on := 12, ground := Ground.textOnly Departure.lateStoresUnsure }, { on := 13, ground := Ground.phase }, { on := 14, ground := Ground.textOnly Departure.lateStores }, { on := 15, ground := Ground.textOnly Departure.lateStores }, { on := 16, ground := Ground.textOnly Departure.lateStoresUnsure }, { on := 17, ground := Ground.phase }], guard := none }) (v := ?v16) rfl (by kernel_rfl) (by kernel_rfl) (by kernel_rfl) (fun _ _ _ h => h) (by kernel_rfl) (fun h => absurd h (by decide +kernel)) (Or.inl ⟨by rfl, ?hy16⟩) ?rest16
      case hy16 =>
        intro w' hSw
        go_simp
        try with_reducible rfl
      try simp only [Act.put, List.setIfInBounds_toArray, List.set_cons_zero, List.set_cons_succ]
      refine wpAnyM_one (i := 20) (o := { dst := none, op := Op.store 35 (Operand.tmp 38) (Operand.tmp 28), type := 0, pos := "value.go:142", after := #[{ on := 19, ground := Ground.data }, { on := 9, ground := Ground.data }, { on := 17, ground := Ground.chain }, { on := 0, ground := Ground.phase }, { on := 1, ground := Ground.textOnly Departure.lateStores }, { on := 2, ground := Ground.phase }, { on := 3, ground := Ground.phase }, { on := 4, ground := Ground.phase }, { on := 5, ground := Ground.phase }, { on := 6, ground := Ground.phase }, { on := 7, ground := Ground.phase }, { on := 8, ground := Ground.phase }, { on := 9, ground := Ground.phase }, { on := 10, ground := Ground.textOnly Departure.lateStores }, { on := 11, ground := Ground.textOnly Departure.lateStoresUnsure }, { on := 12, ground := Ground.textOnly Departure.lateStoresUnsure }, { on := 13, ground := Ground.phase }, { on := 14, ground := Ground.textOnly Departure.lateStores }, { on := 15, ground := Ground.textOnly Departure.lateStores }, { on := 16, ground := Ground.textOnly Departure.lateStoresUnsure }, { on := 17, ground := Ground.phase }], guard := none }) (by kernel_rfl) rfl (fun K hK => ?_)
      go_simp
      refine hK.out _ _ (fun h => absurd h (by decide +kernel)) ?_
      clear hK K
      refine' wpAnyM_take (i := 21) (oi := { dst := some 39, op := Op.nilCheck (Operand.tmp 20), type := 0, pos := "value.go:142", after := #[{ on := 1, ground := Ground.data }, { on := 0, ground := Ground.phase }, { on := 1, ground := Ground.phase }, { on := 2, ground := Ground.phase }, { on := 3, ground := Ground.phase }, { on := 4, ground := Ground.phase }, { on := 5, ground := Ground.phase }, { on := 6, ground := Ground.phase }, { on := 7, ground := Ground.phase }, { on := 8, ground := Ground.phase }, { on := 9, ground := Ground.phase }, { on := 10, ground := Ground.phase }, { on := 11, ground := Ground.phase }, { on := 12, ground := Ground.phase }, { on := 13, ground := Ground.phase }, { on := 14, ground := Ground.phase }, { on := 15, ground := Ground.phase }, { on := 16, ground := Ground.phase }, { on := 17, ground := Ground.phase }, { on := 18, ground := Ground.phase }, { on := 19, ground := Ground.phase }, { on := 20, ground := Ground.phase }], guard := none }) (v := ?v17) rfl (by kernel_rfl) (by kernel_rfl) (by kernel_rfl) (fun _ _ _ h => h) (by kernel_rfl) (fun h => absurd h (by decide +kernel)) (Or.inl ⟨by rfl, ?hy17⟩) ?rest17
      case hy17 =>
        intro w' hSw
        go_simp
        try with_reducible rfl
      try simp only [Act.put, List.setIfInBounds_toArray, List.set_cons_zero, List.set_cons_succ]
      refine' wpAnyM_take (i := 22) (oi := { dst := some 40, op := Op.fieldAddr 120 (Operand.tmp 39) 1, type := 0, pos := "value.go:142", after := #[{ on := 21, ground := Ground.data }, { on := 0, ground := Ground.phase }, { on := 1, ground := Ground.phase }, { on := 2, ground := Ground.phase }, { on := 3, ground := Ground.phase }, { on := 4, ground := Ground.phase }, { on := 5, ground := Ground.phase }, { on := 6, ground := Ground.phase }, { on := 7, ground := Ground.phase }, { on := 8, ground := Ground.phase }, { on := 9, ground := Ground.phase }, { on := 10, ground := Ground.phase }, { on := 11, ground := Ground.phase }, { on := 12, ground := Ground.phase }, { on := 13, ground := Ground.phase }, { on := 14, ground := Ground.phase }, { on := 15, ground := Ground.phase }, { on := 16, ground := Ground.phase }, { on := 17, ground := Ground.phase }, { on := 18, ground := Ground.phase }, { on := 19, ground := Ground.phase }, { on := 20, ground := Ground.phase }], guard := none }) (v := ?v18) rfl (by kernel_rfl) (by kernel_rfl) (by kernel_rfl) (fun _ _ _ h => h) (by kernel_rfl) (fun h => absurd h (by decide +kernel)) (Or.inl ⟨by rfl, ?hy18⟩) ?rest18
      case hy18 =>
        intro w' hSw
        go_simp
        try with_reducible rfl
      try simp only [Act.put, List.setIfInBounds_toArray, List.set_cons_zero, List.set_cons_succ]
      refine wpAnyM_one (i := 23) (o := { dst := none, op := Op.store 67 (Operand.tmp 40) (Operand.tmp 36), type := 0, pos := "value.go:142", after := #[{ on := 22, ground := Ground.data }, { on := 17, ground := Ground.data }, { on := 20, ground := Ground.chain }, { on := 0, ground := Ground.phase }, { on := 1, ground := Ground.phase }, { on := 2, ground := Ground.phase }, { on := 3, ground := Ground.phase }, { on := 4, ground := Ground.phase }, { on := 5, ground := Ground.phase }, { on := 6, ground := Ground.phase }, { on := 7, ground := Ground.phase }, { on := 8, ground := Ground.phase }, { on := 9, ground := Ground.phase }, { on := 10, ground := Ground.phase }, { on := 11, ground := Ground.phase }, { on := 12, ground := Ground.phase }, { on := 13, ground := Ground.phase }, { on := 14, ground := Ground.phase }, { on := 15, ground := Ground.phase }, { on := 16, ground := Ground.phase }, { on := 17, ground := Ground.phase }, { on := 18, ground := Ground.phase }, { on := 19, ground := Ground.phase }, { on := 20, ground := Ground.phase }], guard := none }) (by kernel_rfl) rfl (fun K hK => ?_)
      go_simp
      refine hK.out _ _ (fun h => absurd h (by decide +kernel)) ?_
      clear hK K
      refine wpAnyM_done (by kernel_rfl) ?_ _
      go_wp2
      go_end0
      exact ⟨rfl, HI5.out.done⟩
    · skip
      go_simp
      have hJ : InsAt w base Bk X vn vk #[k0, k1, k2, k3, k4, k5, k6, k7] vn n (S.map Value.string) vk n C (v2.alloc (.cells #[k0, k1, k2, k3, k4, k5, k6, k7] 70)) := HI2.out.alloc _
      have hB : (v2.alloc (.cells #[k0, k1, k2, k3, k4, k5, k6, k7] 70)).heap[v2.heap.size]? = some (.cells [k0, k1, k2, k3, k4, k5, k6, k7].toArray 70 (0, 0)) := heap_alloc_new v2 _
      have hBl : w.heap.size ≤ v2.heap.size := HI2.out.size
      have hbl : base ≤ (v2.alloc (.cells #[k0, k1, k2, k3, k4, k5, k6, k7] 70)).heap.size := by have := HB2.out; simp; omega
      have hcB1 : (v2.alloc (.cells #[k0, k1, k2, k3, k4, k5, k6, k7] 70)).heap[B1]? = some (.cells [Value.string x].toArray 9 (0, 0)) := (Below.heap_alloc v2 _ B1 (Array.getElem?_eq_some_iff.1 HRB12.out).1).trans HRB12.out
      refine hK.out _ _ (fun _ => HF.out _ _ _ _ _ _ _ hJ) ?_
      clear hK K
      generalize (v2.alloc (.cells #[k0, k1, k2, k3, k4, k5, k6, k7] 70)) = v3 at *
      generalize v2.heap.size = B2 at *
      have HI3 := Lib.hid hJ
      have HLB2 := Lib.hid hBl
      have HB3 := Lib.hid hbl
      have hcB2 := hB
      clear hJ hB hBl hbl
      have HRB13 := Lib.hid hcB1
      clear hcB1
      have HRB23 := Lib.hid hcB2
      clear hcB2
      refine wpAnyM_one (i := 9) (o := { dst := some 28, op := Op.call { callee := Callee.value (Operand.func 66), args := #[Operand.tmp 24, Operand.tmp 25, Operand.tmp 27], argTypes := #[35, 3, 35] }, type := 35, pos := "value.go:142", after := #[{ on := 5, ground := Ground.data }, { on := 6, ground := Ground.data }, { on := 8, ground := Ground.data }], guard := none }) (by kernel_rfl) rfl (fun K hK => ?_)
      go_simp
      refine (ins_any_24 v3 base n p B1 1 vn (S.map Value.string) [Value.string x] (by omega) hp HI3.out.names HNo.out rfl HRB13.out (by intro u hu; rw [List.mem_singleton.1 hu]; rfl) (fun e => by have := HVN.out _ e; have := HLB1.out; omega) HB3.out).mono ?_
      rintro e v4 ⟨g1, cap1, rfl, hr, hg, ho⟩
      have hJ : InsAt w base Bk X vn vk #[k0, k1, k2, k3, k4, k5, k6, k7] (.slice (some ⟨g1, 0, none⟩) (n + 1) cap1) (n + 1) ((S.map Value.string).take (p * 1) ++ [Value.string x] ++ (S.map Value.string).drop (p * 1)) vk n C v4 := HI3.out.ins24 hg hr ho
      have hbl : base ≤ v4.heap.size := by have := HB3.out; have := hg.size; omega
      have hcB2 : v4.heap[B2]? = some (.cells [k0, k1, k2, k3, k4, k5, k6, k7].toArray 70 (0, 0)) := (hg.block B2 (Array.getElem?_eq_some_iff.1 HRB23.out).1 (fun e => own_apart HI3.out.names HRB23.out (by decide) e.symm)).trans HRB23.out
      refine hK.out _ _ (fun _ => HF.out _ _ _ _ _ _ _ hJ) ?_
      clear hK K
      have HI4 := Lib.hid hJ
      have HB4 := Lib.hid hbl
      clear hJ hbl hr hg ho
      have HRB24 := Lib.hid hcB2
      clear hcB2
      refine wpAnyM_one (i := 17) (o := { dst := some 36, op := Op.call { callee := Callee.value (Operand.func 67), args := #[Operand.tmp 32, Operand.tmp 33, Operand.tmp 35], argTypes := #[67, 3, 67] }, type := 67, pos := "value.go:142", after := #[{ on := 13, ground := Ground.data }, { on := 14, ground := Ground.data }, { on := 16, ground := Ground.data }, { on := 9, ground := Ground.chain }], guard := none }) (by kernel_rfl) rfl (fun K hK => ?_)
      go_simp
      refine (ins_any_25 v4 base n p B2 1 vk C [k0, k1, k2, k3, k4, k5, k6, k7] (by omega) hp HI4.out.kids HCo.out rfl HRB24.out HKo.out (fun e => by have := HVK.out _ e; have := HLB2.out; omega) HB4.out).mono ?_
      rintro e v5 ⟨g2, cap2, rfl, hr, hg, ho⟩
      have hJ : InsAt w base Bk X vn vk #[k0, k1, k2, k3, k4, k5, k6, k7] (.slice (some ⟨g1, 0, none⟩) (n + 1) cap1) (n + 1) ((S.map Value.string).take (p * 1) ++ [Value.string x] ++ (S.map Value.string).drop (p * 1)) (.slice (some ⟨g2, 0, none⟩) (n + 1) cap2) (n + 1) (C.take (p * 8) ++ [k0, k1, k2, k3, k4, k5, k6, k7] ++ C.drop (p * 8)) v5 := HI4.out.ins25 hg hr ho HXk.out rfl
      refine hK.out _ _ (fun h => absurd h (by decide +kernel)) ?_
      clear hK K
      have HI5 := Lib.hid hJ
      clear hJ hr hg ho
      have b0 : v5.cell? ⟨Bk, 0, none⟩ = some vn := by rw [cell_of_row v5 Bk 0 _ 120 _ HI5.out.box]; rfl
      have b1 : v5.cell? ⟨Bk, 1, none⟩ = some vk := by rw [cell_of_row v5 Bk 1 _ 120 _ HI5.out.box]; rfl
      have f0 : v5.frozen? ⟨Bk, 0, none⟩ = false := frozen_of_row v5 Bk 0 _ 120 HI5.out.box
      have f1 : v5.frozen? ⟨Bk, 1, none⟩ = false := frozen_of_row v5 Bk 1 _ 120 HI5.out.box
      refine' wpAnyM_take (i := 18) (oi := { dst := some 37, op := Op.nilCheck (Operand.tmp 19), type := 0, pos := "value.go:142", after := #[{ on := 0, ground := Ground.data }, { on := 0, ground := Ground.phase }, { on := 1, ground := Ground.textOnly Departure.lateStores }, { on := 2, ground := Ground.phase }, { on := 3, ground := Ground.phase }, { on := 4, ground := Ground.phase }, { on := 5, ground := Ground.phase }, { on := 6, ground := Ground.phase }, { on := 7, ground := Ground.phase }, { on := 8, ground := Ground.phase }, { on := 9, ground := Ground.phase }, { on := 10, ground := Ground.textOnly Departure.lateStores }, { on := 11, ground := Ground.textOnly Departure.lateStoresUnsure }, { on := 12, ground := Ground.textOnly Departure.lateStoresUnsure }, { on := 13, ground := Ground.phase }, { on := 14, ground := Ground.textOnly Departure.lateStores }, { on := 15, ground := Ground.textOnly Departure.lateStores }, { on := 16, ground := Ground.textOnly Departure.lateStoresUnsure }, { on := 17, ground := Ground.phase }], guard := none }) (v := ?v19) rfl (by kernel_rfl) (by kernel_rfl) (by kernel_rfl) (fun _ _ _ h => h) (by kernel_rfl) (fun h => absurd h (by decide +kernel)) (Or.inl ⟨by rfl, ?hy19⟩) ?rest19
      case hy19 =>
        intro w' hSw
        go_simp
        try with_reducible rfl
      try simp only [Act.put, List.setIfInBounds_toArray, List.set_cons_zero, List.set_cons_succ]
      refine' wpAnyM_take (i := 19) (oi := { dst := some 38, op := Op.fieldAddr 120 (Operand.tmp 37) 0, type := 0, pos := "value.go:142", after := #[{ on := 18, ground := Ground.data }, { on := 0, ground := Ground.phase }, { on := 1, ground := Ground.textOnly Departure.lateStores }, { on := 2, ground := Ground.phase }, { on := 3, ground := Ground.phase }, { on := 4, ground := Ground.phase }, { on := 5, ground := Ground.phase }, { on := 6, ground := Ground.phase }, { on := 7, ground := Ground.phase }, { on := 8, ground := Ground.phase }, { on := 9, ground := Ground.phase }, { on := 10, ground := Ground.textOnly Departure.lateStores }, { on := 11, ground := Ground.textOnly Departure.lateStoresUnsure }, { on := 12, ground := Ground.textOnly Departure.lateStoresUnsure }, { on := 13, ground := Ground.phase }, { on := 14, ground := Ground.textOnly Departure.lateStores }, { on := 15, ground := Ground.textOnly Departure.lateStores }, { on := 16, ground := Ground.textOnly Departure.lateStoresUnsure }, { on := 17, ground := Ground.phase }], guard := none }) (v := ?v20) rfl (by kernel_rfl) (by kernel_rfl) (by kernel_rfl) (fun _ _ _ h => h) (by kernel_rfl) (fun h => absurd h (by decide +kernel)) (Or.inl ⟨by rfl, ?hy20⟩) ?rest20
      case hy20 =>
        intro w' hSw
        go_simp
        try with_reducible rfl
      try simp only [Act.put, List.setIfInBounds_toArray, List.set_cons_zero, List.set_cons_succ]
      refine wpAnyM_one (i := 20) (o := { dst := none, op := Op.store 35 (Operand.tmp 38) (Operand.tmp 28), type := 0, pos := "value.go:142", after := #[{ on := 19, ground := Ground.data }, { on := 9, ground := Ground.data }, { on := 17, ground := Ground.chain }, { on := 0, ground := Ground.phase }, { on := 1, ground := Ground.textOnly Departure.lateStores }, { on := 2, ground := Ground.phase }, { on := 3, ground := Ground.phase }, { on := 4, ground := Ground.phase }, { on := 5, ground := Ground.phase }, { on := 6, ground := Ground.phase }, { on := 7, ground := Ground.phase }, { on := 8, ground := Ground.phase }, { on := 9, ground := Ground.phase }, { on := 10, ground := Ground.textOnly Departure.lateStores }, { on := 11, ground := Ground.textOnly Departure.lateStoresUnsure }, { on := 12, ground := Ground.textOnly Departure.lateStoresUnsure }, { on := 13, ground := Ground.phase }, { on := 14, ground := Ground.textOnly Departure.lateStores }, { on := 15, ground := Ground.textOnly Departure.lateStores }, { on := 16, ground := Ground.textOnly Departure.lateStoresUnsure }, { on := 17, ground := Ground.phase }], guard := none }) (by kernel_rfl) rfl (fun K hK => ?_)
      go_simp
      refine hK.out _ _ (fun h => absurd h (by decide +kernel)) ?_
      clear hK K
      refine' wpAnyM_take (i := 21) (oi := { dst := some 39, op := Op.nilCheck (Operand.tmp 20), type := 0, pos := "value.go:142", after := #[{ on := 1, ground := Ground.data }, { on := 0, ground := Ground.phase }, { on := 1, ground := Ground.phase }, { on := 2, ground := Ground.phase }, { on := 3, ground := Ground.phase }, { on := 4, ground := Ground.phase }, { on := 5, ground := Ground.phase }, { on := 6, ground := Ground.phase }, { on := 7, ground := Ground.phase }, { on := 8, ground := Ground.phase }, { on := 9, ground := Ground.phase }, { on := 10, ground := Ground.phase }, { on := 11, ground := Ground.phase }, { on := 12, ground := Ground.phase }, { on := 13, ground := Ground.phase }, { on := 14, ground := Ground.phase }, { on := 15, ground := Ground.phase }, { on := 16, ground := Ground.phase }, { on := 17, ground := Ground.phase }, { on := 18, ground := Ground.phase }, { on := 19, ground := Ground.phase }, { on := 20, ground := Ground.phase }], guard := none }) (v := ?v21) rfl (by kernel_rfl) (by kernel_rfl) (by kernel_rfl) (fun _ _ _ h => h) (by kernel_rfl) (fun h => absurd h (by decide +kernel)) (Or.inl ⟨by rfl, ?hy21⟩) ?rest21
      case hy21 =>
        intro w' hSw
        go_simp
        try with_reducible rfl
      try simp only [Act.put, List.setIfInBounds_toArray, List.set_cons_zero, List.set_cons_succ]
      refine' wpAnyM_take (i := 22) (oi := { dst := some 40, op := Op.fieldAddr 120 (Operand.tmp 39) 1, type := 0, pos := "value.go:142", after := #[{ on := 21, ground := Ground.data }, { on := 0, ground := Ground.phase }, { on := 1, ground := Ground.phase }, { on := 2, ground := Ground.phase }, { on := 3, ground := Ground.phase }, { on := 4, ground := Ground.phase }, { on := 5, ground := Ground.phase }, { on := 6, ground := Ground.phase }, { on := 7, ground := Ground.phase }, { on := 8, ground := Ground.phase }, { on := 9, ground := Ground.phase }, { on := 10, ground := Ground.phase }, { on := 11, ground := Ground.phase }, { on := 12, ground := Ground.phase }, { on := 13, ground := Ground.phase }, { on := 14, ground := Ground.phase }, { on := 15, ground := Ground.phase }, { on := 16, ground := Ground.phase }, { on := 17, ground := Ground.phase }, { on := 18, ground := Ground.phase }, { on := 19, ground := Ground.phase }, { on := 20, ground := Ground.phase }], guard := none }) (v := ?v22) rfl (by kernel_rfl) (by kernel_rfl) (by kernel_rfl) (fun _ _ _ h => h) (by kernel_rfl) (fun h => absurd h (by decide +kernel)) (Or.inl ⟨by rfl, ?hy22⟩) ?rest22
      case hy22 =>
        intro w' hSw
        go_simp
        try with_reducible rfl
      try simp only [Act.put, List.setIfInBounds_toArray, List.set_cons_zero, List.set_cons_succ]
      refine wpAnyM_one (i := 23) (o := { dst := none, op := Op.store 67 (Operand.tmp 40) (Operand.tmp 36), type := 0, pos := "value.go:142", after := #[{ on := 22, ground := Ground.data }, { on := 17, ground := Ground.data }, { on := 20, ground := Ground.chain }, { on := 0, ground := Ground.phase }, { on := 1, ground := Ground.phase }, { on := 2, ground := Ground.phase }, { on := 3, ground := Ground.phase }, { on := 4, ground := Ground.phase }, { on := 5, ground := Ground.phase }, { on := 6, ground := Ground.phase }, { on := 7, ground := Ground.phase }, { on := 8, ground := Ground.phase }, { on := 9, ground := Ground.phase }, { on := 10, ground := Ground.phase }, { on := 11, ground := Ground.phase }, { on := 12, ground := Ground.phase }, { on := 13, ground := Ground.phase }, { on := 14, ground := Ground.phase }, { on := 15, ground := Ground.phase }, { on := 16, ground := Ground.phase }, { on := 17, ground := Ground.phase }, { on := 18, ground := Ground.phase }, { on := 19, ground := Ground.phase }, { on := 20, ground := Ground.phase }], guard := none }) (by kernel_rfl) rfl (fun K hK => ?_)
      go_simp
      refine hK.out _ _ (fun h => absurd h (by decide +kernel)) ?_
      clear hK K
      refine wpAnyM_done (by kernel_rfl) ?_ _
      go_wp2
      go_end0
      exact ⟨rfl, HI5.out.done⟩
  · skip
    go_simp
    have hJ : InsAt w base Bk X vn vk #[k0, k1, k2, k3, k4, k5, k6, k7] vn n (S.map Value.string) vk n C (w1.alloc (.cells #[k0, k1, k2, k3, k4, k5, k6, k7] 70)).drew := (HI1.out.alloc _).drew
    have hB : (w1.alloc (.cells #[k0, k1, k2, k3, k4, k5, k6, k7] 70)).drew.heap[w1.heap.size]? = some (.cells [k0, k1, k2, k3, k4, k5, k6, k7].toArray 70 (0, 0)) := heap_alloc_new w1 _
    have hBl : w.heap.size ≤ w1.heap.size := HI1.out.size
    have hbl : base ≤ (w1.alloc (.cells #[k0, k1, k2, k3, k4, k5, k6, k7] 70)).drew.heap.size := by have := HB1.out; simp; omega
    refine hK.out _ _ (fun _ => HF.out _ _ _ _ _ _ _ hJ) ?_
    clear hK K
    generalize (w1.alloc (.cells #[k0, k1, k2, k3, k4, k5, k6, k7] 70)).drew = v2 at *
    generalize w1.heap.size = B2 at *
    have HI2 := Lib.hid hJ
    have HLB2 := Lib.hid hBl
    have HB2 := Lib.hid hbl
    have hcB2 := hB
    clear hJ hB hBl hbl
    have HRB22 := Lib.hid hcB2
    clear hcB2
    refine wpAnyM_one (i := 8) (o := { dst := some 27, op := Op.buildSlice 35 1 #[(0, Operand.tmp 26)], type := 35, pos := "value.go:142", after := #[{ on := 7, ground := Ground.data }], guard := none }) (by kernel_rfl) rfl (fun K hK => ?_)
    go_simp
    have hJ : InsAt w base Bk X vn vk #[k0, k1, k2, k3, k4, k5, k6, k7] vn n (S.map Value.string) vk n C (v2.alloc (.cells #[Value.string x] 9)) := HI2.out.alloc _
    have hB : (v2.alloc (.cells #[Value.string x] 9)).heap[v2.heap.size]? = some (.cells [Value.string x].toArray 9 (0, 0)) := heap_alloc_new v2 _
    have hBl : w.heap.size ≤ v2.heap.size := HI2.out.size
    have hbl : base ≤ (v2.alloc (.cells #[Value.string x] 9)).heap.size := by have := HB2.out; simp; omega
    have hcB2 : (v2.alloc (.cells #[Value.string x] 9)).heap[B2]? = some (.cells [k0, k1, k2, k3, k4, k5, k6, k7].toArray 70 (0, 0)) := (Below.heap_alloc v2 _ B2 (Array.getElem?_eq_some_iff.1 HRB22.out).1).trans HRB22.out
    refine hK.out _ _ (fun _ => HF.out _ _ _ _ _ _ _ hJ) ?_
    clear hK K
    generalize (v2.alloc (.cells #[Value.string x] 9)) = v3 at *
    generalize v2.heap.size = B1 at *
    have HI3 := Lib.hid hJ
    have HLB1 := Lib.hid hBl
    have HB3 := Lib.hid hbl
    have hcB1 := hB
    clear hJ hB hBl hbl
    have HRB13 := Lib.hid hcB1
    clear hcB1
    have HRB23 := Lib.hid hcB2
    clear hcB2
    refine wpAnyM_one (i := 9) (o := { dst := some 28, op := Op.call { callee := Callee.value (Operand.func 66), args := #[Operand.tmp 24, Operand.tmp 25, Operand.tmp 27], argTypes := #[35, 3, 35] }, type := 35, pos := "value.go:142", after := #[{ on := 5, ground := Ground.data }, { on := 6, ground := Ground.data }, { on := 8, ground := Ground.data }], guard := none }) (by kernel_rfl) rfl (fun K hK => ?_)
    go_simp
    refine (ins_any_24 v3 base n p B1 1 vn (S.map Value.string) [Value.string x] (by omega) hp HI3.out.names HNo.out rfl HRB13.out (by intro u hu; rw [List.mem_singleton.1 hu]; rfl) (fun e => by have := HVN.out _ e; have := HLB1.out; omega) HB3.out).mono ?_
    rintro e v4 ⟨g1, cap1, rfl, hr, hg, ho⟩
    have hJ : InsAt w base Bk X vn vk #[k0, k1, k2, k3, k4, k5, k6, k7] (.slice (some ⟨g1, 0, none⟩) (n + 1) cap1) (n + 1) ((S.map Value.string).take (p * 1) ++ [Value.string x] ++ (S.map Value.string).drop (p * 1)) vk n C v4 := HI3.out.ins24 hg hr ho
    have hbl : base ≤ v4.heap.size := by have := HB3.out; have := hg.size; omega
    have hcB2 : v4.heap[B2]? = some (.cells [k0, k1, k2, k3, k4, k5, k6, k7].toArray 70 (0, 0)) := (hg.block B2 (Array.getElem?_eq_some_iff.1 HRB23.out).1 (fun e => own_apart HI3.out.names HRB23.out (by decide) e.symm)).trans HRB23.out
    refine hK.out _ _ (fun _ => HF.out _ _ _ _ _ _ _ hJ) ?_
    clear hK K
    have HI4 := Lib.hid hJ
    have HB4 := Lib.hid hbl
    clear hJ hbl hr hg ho
    have HRB24 := Lib.hid hcB2
    clear hcB2
    refine wpAnyM_one (i := 17) (o := { dst := some 36, op := Op.call { callee := Callee.value (Operand.func 67), args := #[Operand.tmp 32, Operand.tmp 33, Operand.tmp 35], argTypes := #[67, 3, 67] }, type := 67, pos := "value.go:142", after := #[{ on := 13, ground := Ground.data }, { on := 14, ground := Ground.data }, { on := 16, ground := Ground.data }, { on := 9, ground := Ground.chain }], guard := none }) (by kernel_rfl) rfl (fun K hK => ?_)
    go_simp
    refine (ins_any_25 v4 base n p B2 1 vk C [k0, k1, k2, k3, k4, k5, k6, k7] (by omega) hp HI4.out.kids HCo.out rfl HRB24.out HKo.out (fun e => by have := HVK.out _ e; have := HLB2.out; omega) HB4.out).mono ?_
    rintro e v5 ⟨g2, cap2, rfl, hr, hg, ho⟩
    have hJ : InsAt w base Bk X vn vk #[k0, k1, k2, k3, k4, k5, k6, k7] (.slice (some ⟨g1, 0, none⟩) (n + 1) cap1) (n + 1) ((S.map Value.string).take (p * 1) ++ [Value.string x] ++ (S.map Value.string).drop (p * 1)) (.slice (some ⟨g2, 0, none⟩) (n + 1) cap2) (n + 1) (C.take (p * 8) ++ [k0, k1, k2, k3, k4, k5, k6, k7] ++ C.drop (p * 8)) v5 := HI4.out.ins25 hg hr ho HXk.out rfl
    refine hK.out _ _ (fun h => absurd h (by decide +kernel)) ?_
    clear hK K
    have HI5 := Lib.hid hJ
    clear hJ hr hg ho
    have b0 : v5.cell? ⟨Bk, 0, none⟩ = some vn := by rw [cell_of_row v5 Bk 0 _ 120 _ HI5.out.box]; rfl
    have b1 : v5.cell? ⟨Bk, 1, none⟩ = some vk := by rw [cell_of_row v5 Bk 1 _ 120 _ HI5.out.box]; rfl
    have f0 : v5.frozen? ⟨Bk, 0, none⟩ = false := frozen_of_row v5 Bk 0 _ 120 HI5.out.box
    have f1 : v5.frozen? ⟨Bk, 1, none⟩ = false := frozen_of_row v5 Bk 1 _ 120 HI5.out.box
    refine' wpAnyM_take (i := 18) (oi := { dst := some 37, op := Op.nilCheck (Operand.tmp 19), type := 0, pos := "value.go:142", after := #[{ on := 0, ground := Ground.data }, { on := 0, ground := Ground.phase }, { on := 1, ground := Ground.textOnly Departure.lateStores }, { on := 2, ground := Ground.phase }, { on := 3, ground := Ground.phase }, { on := 4, ground := Ground.phase }, { on := 5, ground := Ground.phase }, { on := 6, ground := Ground.phase }, { on := 7, ground := Ground.phase }, { on := 8, ground := Ground.phase }, { on := 9, ground := Ground.phase }, { on := 10, ground := Ground.textOnly Departure.lateStores }, { on := 11, ground := Ground.textOnly Departure.lateStoresUnsure }, { on := 12, ground := Ground.textOnly Departure.lateStoresUnsure }, { on := 13, ground := Ground.phase }, { on := 14, ground := Ground.textOnly Departure.lateStores }, { on := 15, ground := Ground.textOnly Departure.lateStores }, { on := 16, ground := Ground.textOnly Departure.lateStoresUnsure }, { on := 17, ground := Ground.phase }], guard := none }) (v := ?v23) rfl (by kernel_rfl) (by kernel_rfl) (by kernel_rfl) (fun _ _ _ h => h) (by kernel_rfl) (fun h => absurd h (by decide +kernel)) (Or.inl ⟨by rfl, ?hy23⟩) ?rest23
    case hy23 =>
      intro w' hSw
      go_simp
      try with_reducible rfl
    try simp only [Act.put, List.setIfInBounds_toArray, List.set_cons_zero, List.set_cons_succ]
    refine' wpAnyM_take (i := 19) (oi := { dst := some 38, op := Op.fieldAddr 120 (Operand.tmp 37) 0, type := 0, pos := "value.go:142", after := #[{ on := 18, ground := Ground.data }, { on := 0, ground := Ground.phase }, { on := 1, ground := Ground.textOnly Departure.lateStores }, { on := 2, ground := Ground.phase }, { on := 3, ground := Ground.phase }, { on := 4, ground := Ground.phase }, { on := 5, ground := Ground.phase }, { on := 6, ground := Ground.phase }, { on := 7, ground := Ground.phase }, { on := 8, ground := Ground.phase }, { on := 9, ground := Ground.phase }, { on := 10, ground := Ground.textOnly Departure.lateStores }, { on := 11, ground := Ground.textOnly Departure.lateStoresUnsure }, { on := 12, ground := Ground.textOnly Departure.lateStoresUnsure }, { on := 13, ground := Ground.phase }, { on := 14, ground := Ground.textOnly Departure.lateStores }, { on := 15, ground := Ground.textOnly Departure.lateStores }, { on := 16, ground := Ground.textOnly Departure.lateStoresUnsure }, { on := 17, ground := Ground.phase }], guard := none }) (v := ?v24) rfl (by kernel_rfl) (by kernel_rfl) (by kernel_rfl) (fun _ _ _ h => h) (by kernel_rfl) (fun h => absurd h (by decide +kernel)) (Or.inl ⟨by rfl, ?hy24⟩) ?rest24
    case hy24 =>
      intro w' hSw
      go_simp
      try with_reducible rfl
    try simp only [Act.put, List.setIfInBounds_toArray, List.set_cons_zero, List.set_cons_succ]
    refine wpAnyM_one (i := 20) (o := { dst := none, op := Op.store 35 (Operand.tmp 38) (Operand.tmp 28), type := 0, pos := "value.go:142", after := #[{ on := 19, ground := Ground.data }, { on := 9, ground := Ground.data }, { on := 17, ground := Ground.chain }, { on := 0, ground := Ground.phase }, { on := 1, ground := Ground.textOnly Departure.lateStores }, { on := 2, ground := Ground.phase }, { on := 3, ground := Ground.phase }, { on := 4, ground := Ground.phase }, { on := 5, ground := Ground.phase }, { on := 6, ground := Ground.phase }, { on := 7, ground := Ground.phase }, { on := 8, ground := Ground.phase }, { on := 9, ground := Ground.phase }, { on := 10, ground := Ground.textOnly Departure.lateStores }, { on := 11, ground := Ground.textOnly Departure.lateStoresUnsure }, { on := 12, ground := Ground.textOnly Departure.lateStoresUnsure }, { on := 13, ground := Ground.phase }, { on := 14, ground := Ground.textOnly Departure.lateStores }, { on := 15, ground := Ground.textOnly Departure.lateStores }, { on := 16, ground := Ground.textOnly Departure.lateStoresUnsure }, { on := 17, ground := Ground.phase }], guard := none }) (by kernel_rfl) rfl (fun K hK => ?_)
    go_simp
    refine hK.out _ _ (fun h => absurd h (by decide +kernel)) ?_
    clear hK K
    refine' wpAnyM_take (i := 21) (oi := { dst := some 39, op := Op.nilCheck (Operand.tmp 20), type := 0, pos := "value.go:142", after := #[{ on := 1, ground := Ground.data }, { on := 0, ground := Ground.phase }, { on := 1, ground := Ground.phase }, { on := 2, ground := Ground.phase }, { on := 3, ground := Ground.phase }, { on := 4, ground := Ground.phase }, { on := 5, ground := Ground.phase }, { on := 6, ground := Ground.phase }, { on := 7, ground := Ground.phase }, { on := 8, ground := Ground.phase }, { on := 9, ground := Ground.phase }, { on := 10, ground := Ground.phase }, { on := 11, ground := Ground.phase }, { on := 12, ground := Ground.phase }, { on := 13, ground := Ground.phase }, { on := 14, ground := Ground.phase }, { on := 15, ground := Ground.phase }, { on := 16, ground := Ground.phase }, { on := 17, ground := Ground.phase }, { on := 18, ground := Ground.phase }, { on := 19, ground := Ground.phase }, { on := 20, ground := Ground.phase }], guard := none }) (v := ?v25) rfl (by kernel_rfl) (by kernel_rfl) (by kernel_rfl) (fun _ _ _ h => h) (by kernel_rfl) (fun h => absurd h (by decide +kernel)) (Or.inl ⟨by rfl, ?hy25⟩) ?rest25
    case hy25 =>
      intro w' hSw
      go_simp
      try with_reducible rfl
    try simp only [Act.put, List.setIfInBounds_toArray, List.set_cons_zero, List.set_cons_succ]
    refine' wpAnyM_take (i := 22) (oi := { dst := some 40, op := Op.fieldAddr 120 (Operand.tmp 39) 1, type := 0, pos := "value.go:142", after := #[{ on := 21, ground := Ground.data }, { on := 0, ground := Ground.phase }, { on := 1, ground := Ground.phase }, { on := 2, ground := Ground.phase }, { on := 3, ground := Ground.phase }, { on := 4, ground := Ground.phase }, { on := 5, ground := Ground.phase }, { on := 6, ground := Ground.phase }, { on := 7, ground := Ground.phase }, { on := 8, ground := Ground.phase }, { on := 9, ground := Ground.phase }, { on := 10, ground := Ground.phase }, { on := 11, ground := Ground.phase }, { on := 12, ground := Ground.phase }, { on := 13, ground := Ground.phase }, { on := 14, ground := Ground.phase }, { on := 15, ground := Ground.phase }, { on := 16, ground := Ground.phase }, { on := 17, ground := Ground.phase }, { on := 18, ground := Ground.phase }, { on := 19, ground := Ground.phase }, { on := 20, ground := Ground.phase }], guard := none }) (v := ?v26) rfl (by kernel_rfl) (by kernel_rfl) (by kernel_rfl) (fun _ _ _ h => h) (by kernel_rfl) (fun h => absurd h (by decide +kernel)) (Or.inl ⟨by rfl, ?hy26⟩) ?rest26
    case hy26 =>
      intro w' hSw
      go_simp
      try with_reducible rfl
    try simp only [Act.put, List.setIfInBounds_toArray, List.set_cons_zero, List.set_cons_succ]
    refine wpAnyM_one (i := 23) (o := { dst := none, op := Op.store 67 (Operand.tmp 40) (Operand.tmp 36), type := 0, pos := "value.go:142", after := #[{ on := 22, ground := Ground.data }, { on := 17, ground := Ground.data }, { on := 20, ground := Ground.chain }, { on := 0, ground := Ground.phase }, { on := 1, ground := Ground.phase }, { on := 2, ground := Ground.phase }, { on := 3, ground := Ground.phase }, { on := 4, ground := Ground.phase }, { on := 5, ground := Ground.phase }, { on := 6, ground := Ground.phase }, { on := 7, ground := Ground.phase }, { on := 8, ground := Ground.phase }, { on := 9, ground := Ground.phase }, { on := 10, ground := Ground.phase }, { on := 11, ground := Ground.phase }, { on := 12, ground := Ground.phase }, { on := 13, ground := Ground.phase }, { on := 14, ground := Ground.phase }, { on := 15, ground := Ground.phase }, { on := 16, ground := Ground.phase }, { on := 17, ground := Ground.phase }, { on := 18, ground := Ground.phase }, { on := 19, ground := Ground.phase }, { on := 20, ground := Ground.phase }], guard := none }) (by kernel_rfl) rfl (fun K hK => ?_)
    go_simp
    refine hK.out _ _ (fun h => absurd h (by decide +kernel)) ?_
    clear hK K
    refine wpAnyM_done (by kernel_rfl) ?_ _
    go_wp2
    go_end0
    exact ⟨rfl, HI5.out.done⟩
theorem insert_old (w : World) (base Bk n p : Nat) (S : List ByteArray) (k0 k1 k2 k3 k4 k5 k6 k7 : Value) (vn vk : Value) (x : ByteArray) (hS : S.length = n) (hn : n ≤ 99998)
    (hBk : w.heap[Bk]? = some (.cells #[vn, vk] 120 (0, 0))) (hN : w.ownsRow base 9 1 vn n (S.map Value.string))
    (hp : p ≤ n) (hpart : ∀ k s, S[k]? = some s → Op.bytesLess s.toList x.toList = decide (k < p)) (hnot : isAt S p x = true) :
    Calls Tryz.prog 56 #[.pointer (some ⟨Bk, 0, none⟩), .string x, .agg #[k0, k1, k2, k3, k4, k5, k6, k7]] w fun e w' => e = .returned (.tuple #[]) ∧ w' = w.alloc (.cells #[k0, k1, k2, k3, k4, k5, k6, k7] 70) := by
  have HPt := Lib.hid hpart
  have hBkl := (Array.getElem?_eq_some_iff.1 hBk).1
  have hB : (w.alloc (.cells #[k0, k1, k2, k3, k4, k5, k6, k7] 70)).heap[Bk]? = some (.cells #[vn, vk] 120 (0, 0)) := by rw [Below.heap_alloc w _ Bk hBkl]; exact hBk
  have hNN : (w.alloc (.cells #[k0, k1, k2, k3, k4, k5, k6, k7] 70)).ownsRow base 9 1 vn n (S.map Value.string) := hN.kept (World.grownBy_alloc w _ none) (by cases h : vn.ownBlock <;> simp)
  have HBS : Hid (Calls Tryz.prog 65 #[vn, .string x] (w.alloc (.cells #[k0, k1, k2, k3, k4, k5, k6, k7] 70)) fun e w' => e = .returned (.tuple #[.int .i64 (p : Int), .bool true]) ∧ (w.alloc (.cells #[k0, k1, k2, k3, k4, k5, k6, k7] 70)) = w') := Lib.hid (by
    have := bs_own _ base n p S x vn hS (by omega) hNN hp HPt
    rw [hnot] at this
    exact this)
  have c0 : (w.alloc (.cells #[k0, k1, k2, k3, k4, k5, k6, k7] 70)).cell? ⟨Bk, 0, none⟩ = some vn := by rw [cell_of_row _ Bk 0 _ 120 _ hB]; rfl
  clear hpart hnot hBk hN hBkl hB hNN
  go_enter Tryz.func56, Tryz.ntmps56
  go_wp2_with (go_at_call 65; refine HBS.out.mono ?_; rintro e w' ⟨rfl, rfl⟩)
  go_end0
  exact ⟨rfl, rfl⟩
end Go.Proofs.YtoakfninndkgaaaGreatDoor.Val
