/- Walks: tree.Check of a tree of types (printed by genpr.py, out of Ni). Plain and walks: graph.alone over a tree of types: which types are used. Walks: graph.alone over a tree of types. Walks: scope.Through over a tree of types. -/
import Derived.Test.YtifilhkkgkihpaaGreatDoorAs24
import Derived.Test.YtifilhkkgkihpaaGreatDoorAs03
import Derived.Test.YtifilhkkgkihpaaGreatDoorAs08
set_option linter.unusedSimpArgs false
set_option linter.unusedVariables false
set_option linter.unusedSimpArgs false
set_option linter.unusedVariables false
namespace Go.Proofs.YtifilhkkgkihpaaGreatDoor
open Go.RowKit
def UU (n r : Nat) : List Int := bump (List.replicate n 0) r
def kidsN (L : List Nd) : List Nat := L.flatMap fun y => y.1.KS.map Int.toNat
theorem kidsN_split (L : List Nd) (i : Nat) : kidsN L = kidsN (L.take i) ++ kidsN (L.drop i) := by
  unfold kidsN
  rw [← List.flatMap_append, List.take_append_drop]
theorem kidsN_step {L : List Nd} {i : Nat} {x : Nd} (hx : L[i]? = some x) : kidsN (L.take (i + 1)) = kidsN (L.take i) ++ x.1.KS.map Int.toNat := by
  unfold kidsN
  rw [List.take_add_one, hx, List.flatMap_append]
  simp
theorem bumps_app (U : List Int) (A B : List Nat) : bumps U (A ++ B) = bumps (bumps U A) B := by simp [bumps]
theorem bump_ge {V : List Int} {j : Nat} {v : Int} (k : Nat) (h : V[j]? = some v) : ∃ y, (bump V k)[j]? = some y ∧ v ≤ y := by
  have hj := (List.getElem?_eq_some_iff.1 h).1
  unfold bump
  rw [List.getElem?_set]
  by_cases e : k = j
  · subst e
    rw [if_pos rfl, if_pos hj]
    refine ⟨_, rfl, ?_⟩
    rw [List.getD_eq_getElem?_getD, h]
    simp
    omega
  · rw [if_neg e]
    exact ⟨v, h, Int.le_refl _⟩
theorem bumps_ge (B : List Nat) : ∀ {V : List Int} {j : Nat} {v : Int}, V[j]? = some v → ∃ y, (bumps V B)[j]? = some y ∧ v ≤ y := by
  induction B with
  | nil => intro V j v h; exact ⟨v, h, Int.le_refl _⟩
  | cons k l ih =>
    intro V j v h
    obtain ⟨y, h1, h2⟩ := bump_ge k h
    obtain ⟨z, h3, h4⟩ := ih h1
    exact ⟨z, h3, Int.le_trans h2 h4⟩
theorem small_part {n r : Nat} {K A B : List Nat} (h : ∀ x ∈ bumps (UU n r) K, x = 1) (e : K = A ++ B) : Small 1000 (bumps (UU n r) A) := by
  subst e
  rw [bumps_app] at h
  intro v hv
  obtain ⟨j, hj⟩ := List.mem_iff_getElem?.1 hv
  obtain ⟨y, h1, h2⟩ := bumps_ge B hj
  have := h y (List.mem_of_getElem? h1)
  refine ⟨?_, by omega⟩
  have hl : j < n := by
    have := (List.getElem?_eq_some_iff.1 hj).1
    rw [bumps_len] at this
    simpa [UU, bump_len] using this
  obtain ⟨z, h3, h4⟩ := bump_ge r (V := List.replicate n (0 : Int)) (j := j) (v := 0) (by simp [hl])
  obtain ⟨q, h5, h6⟩ := bumps_ge A h3
  have e : q = v := by
    have h5' : (bumps (UU n r) A)[j]? = some q := h5
    rw [hj] at h5'
    cases h5'
    rfl
  omega
def NotePost (w5 : World) (T : Nat) (U : List Int) (KS : List Int) (e : Ending) (w' : World) : Prop := e = .returned (.bool true) ∧ w'.heap[T]? = some (.cells (uRow (bumps U (KS.map Int.toNat))) 3 (0, 0)) ∧ w5.grownBy w' (some T)
theorem note_all (w5 : World) (T n : Nat) (U : List Int) (ka : Option Addr) (kn kc : Nat) (KS : List Int) (b : Int) (hK : IntsAt w5 ka kn KS) (hk : ∀ k ∈ KS, 0 ≤ k ∧ k < b ∧ k < n) (hU : U.length = n) (hT : w5.heap[T]? = some (.cells (uRow U) 3 (0, 0))) (hne : ∀ ad, ka = some ad → kn ≠ 0 → ad.block ≠ T) (hs : Small 1000 U) (hn : n ≤ 100000) (hk1 : kn ≤ 1000) :
    Calls Tryz.prog 118 #[.slice (some ⟨T, 0, none⟩) n n, .slice ka kn kc, .int .i64 b] w5 (NotePost w5 T U KS) := by
  by_cases h0 : kn = 0
  · subst h0
    obtain rfl : KS = [] := List.length_eq_zero_iff.1 hK.1.symm
    refine (note_zero w5 T n n kc b ka).mono ?_
    rintro e w' ⟨rfl, rfl⟩
    exact ⟨rfl, hT, ⟨rfl, rfl, rfl, Nat.le_refl _, fun _ _ _ => rfl⟩⟩
  · obtain ⟨g, o, rfl, hg, hc⟩ := hK.2.resolve_left h0
    refine note_some w5 T n n g o kn kc b U (KS.map Int.toNat) hU hT (by simpa using hK.1) hg (hne _ rfl h0) (Lib.hid (fun j q hj => ?_)) (Lib.hid (fun q hq => ?_)) (Lib.hid hs) hn hk1
    · rw [List.getElem?_map] at hj
      cases hx : KS[j]? with
      | none => rw [hx] at hj; simp at hj
      | some x =>
        rw [hx] at hj
        simp only [Option.map_some, Option.some.injEq] at hj
        rw [hc j x hx, ← hj, Int.toNat_of_nonneg (hk x (List.mem_of_getElem? hx)).1]
    · obtain ⟨x, hx, rfl⟩ := List.mem_map.1 hq
      have := hk x hx
      omega
/-- each type has what its kind asks; its kids stand ahead of it. -/
def TypsOk (YT : List Nd) : Prop := ∀ (i : Nat) (x : Nd), YT[i]? = some x → typB x.1.kd x.1.op x.1.nn x.1.kn x.1.NS = true ∧ risesB x.1.NS = true ∧ x.1.kd ≠ 10 ∧ ∀ k ∈ x.1.KS, 0 ≤ k ∧ k < (i : Int)
/-- the two terms of a tree of types, as they lie. -/
structure TreeT (w : World) (gn gk gt r : Nat) : Prop where
  n0 : ∀ i u, ([.int .i64 1, .int .i64 0, .string ⟨#[]⟩, .int .i64 0, .int .u64 0, .slice none 0 0, .slice none 0 0, .slice none 0 0, .int .i64 15, .int .i64 0, .string ⟨#[]⟩, .int .i64 0, .int .u64 0, .slice none 0 0, .slice (some ⟨gk, 0, none⟩) 1 1, .slice (some ⟨gt, 0, none⟩) 1 1] : List Value)[i]? = some u → w.cell? ⟨gn, i, none⟩ = some u
  kk : w.cell? ⟨gk, 0, none⟩ = some (.int .i64 0)
  kt : w.cell? ⟨gt, 0, none⟩ = some (.int .i64 (r : Int))
  ln : gn < w.heap.size
  lk : gk < w.heap.size
  lt : gt < w.heap.size
set_option maxRecDepth 20000 in
set_option maxHeartbeats 4000000 in
theorem tree_types (w : World) (gn gk gt gy oy cy cn r NN : Nat) (YT : List Nd) (hT : TreeT w gn gk gt r) (hY : TpsIn w (some ⟨gy, oy, none⟩) NN YT) (hN3 : NN ≤ 1000) (hr : r < NN) (hty : TypsOk YT) (h1 : ∀ x ∈ bumps (UU NN r) (kidsN YT), x = 1) :
    Calls Tryz.prog 96 #[.agg #[.slice (some ⟨gn, 0, none⟩) 2 cn, .slice (some ⟨gy, oy, none⟩) NN cy, .slice none 0 0]] w (ErrPost w true) := by
  have HT := Lib.hid hT
  have HY := Lib.hid hY
  have HR := Lib.hid hr
  have HTY0 := Lib.hid hty
  have HONE := Lib.hid h1
  have HM0 : Hid (∀ o1 o2 V1 V2, o1 = Obj.cells (uRow V1) 3 → o2 = Obj.cells (uRow V2) 3 → (((w.alloc (.cells #[.slice (some ⟨gn, 0, none⟩) 2 cn, .slice (some ⟨gy, oy, none⟩) NN cy, .slice none 0 0] 108)).alloc o1).alloc o2).heap[w.heap.size]? = some (.cells #[.slice (some ⟨gn, 0, none⟩) 2 cn, .slice (some ⟨gy, oy, none⟩) NN cy, .slice none 0 0] 108 (0, 0)) ∧ (((w.alloc (.cells #[.slice (some ⟨gn, 0, none⟩) 2 cn, .slice (some ⟨gy, oy, none⟩) NN cy, .slice none 0 0] 108)).alloc o1).alloc o2).heap[w.heap.size + 1]? = some o1 ∧ (((w.alloc (.cells #[.slice (some ⟨gn, 0, none⟩) 2 cn, .slice (some ⟨gy, oy, none⟩) NN cy, .slice none 0 0] 108)).alloc o1).alloc o2).heap[w.heap.size + 1 + 1]? = some o2 ∧ Below w.heap.size w (((w.alloc (.cells #[.slice (some ⟨gn, 0, none⟩) 2 cn, .slice (some ⟨gy, oy, none⟩) NN cy, .slice none 0 0] 108)).alloc o1).alloc o2)) := Lib.hid (fun o1 o2 V1 V2 e1 e2 => by
    refine ⟨?_, ?_, ?_, (((Below.refl _ _).alloc (Nat.le_refl _) _).alloc (by simp) _).alloc (by simp; omega) _⟩
    · rw [Below.heap_alloc _ _ _ (by simp; omega), Below.heap_alloc _ _ _ (by simp)]; exact heap_alloc_new w _
    · rw [Below.heap_alloc _ _ _ (by simp)]
      have := heap_alloc_new (w.alloc (.cells #[.slice (some ⟨gn, 0, none⟩) 2 cn, .slice (some ⟨gy, oy, none⟩) NN cy, .slice none 0 0] 108)) o1
      simpa using this
    · have := heap_alloc_new ((w.alloc (.cells #[.slice (some ⟨gn, 0, none⟩) 2 cn, .slice (some ⟨gy, oy, none⟩) NN cy, .slice none 0 0] 108)).alloc o1) o2
      simpa using this)
  have hk2 : (NN : Int) ≤ 65536 := by omega
  have hm2 : ∀ w : World, (Instr.makeSlice 186 (.int .i64 2) (.int .i64 2)).run Tryz.prog w = .ok (.slice (some ⟨w.heap.size, 0, none⟩) 2 2) (w.alloc (.cells (uZ 2) 3)) := fun w => make_run 2 (by omega) w
  have hmN : ∀ w : World, (Instr.makeSlice 186 (.int .i64 (NN : Int)) (.int .i64 (NN : Int))).run Tryz.prog w = .ok (.slice (some ⟨w.heap.size, 0, none⟩) NN NN) (w.alloc (.cells (uZ NN) 3)) := fun w => make_run NN (by omega) w
  clear hT hY hr hty h1
  go_enter Tryz.func96, Tryz.ntmps96
  go_upto_region 3 with (fail)
  go_cut [3, 4] (fun t3 t4 wc => ∃ T1 T2 : Nat, t3 = .slice (some ⟨T1, 0, none⟩) 2 2 ∧ t4 = .slice (some ⟨T2, 0, none⟩) NN NN ∧ Hid (Mid w wc #[.slice (some ⟨gn, 0, none⟩) 2 cn, .slice (some ⟨gy, oy, none⟩) NN cy, .slice none 0 0] T1 T2 [0, 0] (List.replicate NN 0)))
  case first =>
    go_region
    · go_wp2
      go_meet
      case rel =>
        obtain ⟨q1, q2, q3, q4⟩ := HM0.out (.cells (uZ 2) 3) (.cells (uZ NN) 3) [0, 0] (List.replicate NN 0) rfl rfl
        exact ⟨_, _, rfl, rfl, Lib.hid ⟨q1, q2, q3, by omega, by omega, by omega, q4.drew⟩⟩
    · go_wp2
      go_meet
      case rel =>
        obtain ⟨q1, q2, q3, q4⟩ := HM0.out (.cells (uZ NN) 3) (.cells (uZ 2) 3) (List.replicate NN 0) [0, 0] rfl rfl
        exact ⟨_, _, rfl, rfl, Lib.hid ⟨q1, q3, q2, by omega, by omega, by omega, q4.drew⟩⟩
  case rest =>
    obtain ⟨T1, T2, rfl, rfl, HM⟩ := hcut
    clear hm2 hmN HM0
    have x0 : wc.cell? ⟨w.heap.size, 0, none⟩ = some (.slice (some ⟨gn, 0, none⟩) 2 cn) := by rw [cell_of_row _ _ 0 _ 108 _ HM.out.box]; rfl
    go_wp2
    clear x0
    go_loopw [39] (fun s39 wr => (s39 = .int .i64 0 ∧ Hid (Mid w wr #[.slice (some ⟨gn, 0, none⟩) 2 cn, .slice (some ⟨gy, oy, none⟩) NN cy, .slice none 0 0] T1 T2 [0, 0] (List.replicate NN 0))) ∨ (s39 = .int .i64 1 ∧ Hid (Mid w wr #[.slice (some ⟨gn, 0, none⟩) 2 cn, .slice (some ⟨gy, oy, none⟩) NN cy, .slice none 0 0] T1 T2 [0, 0] (List.replicate NN 0))) ∨ (s39 = .int .i64 2 ∧ Hid (Mid w wr #[.slice (some ⟨gn, 0, none⟩) 2 cn, .slice (some ⟨gy, oy, none⟩) NN cy, .slice none 0 0] T1 T2 [1, 0] (UU NN r)))) (fun s39 _ => 2 - (intOf s39).toNat)
    case atStart => exact Or.inl ⟨rfl, HM⟩
    case round =>
      clear HM
      rcases hrel with ⟨rfl, HM⟩ | ⟨rfl, HM⟩ | ⟨rfl, HM⟩
      · have n0 : wr.cell? ⟨gn, 0, none⟩ = some (.int .i64 1) := by rw [← HT.out.n0 0 _ rfl]; exact HM.out.below.cell (p := ⟨gn, 0, none⟩) HT.out.ln
        have n1 : wr.cell? ⟨gn, 1, none⟩ = some (.int .i64 0) := by rw [← HT.out.n0 1 _ rfl]; exact HM.out.below.cell (p := ⟨gn, 1, none⟩) HT.out.ln
        have n2 : wr.cell? ⟨gn, 2, none⟩ = some (.string ⟨#[]⟩) := by rw [← HT.out.n0 2 _ rfl]; exact HM.out.below.cell (p := ⟨gn, 2, none⟩) HT.out.ln
        have n3 : wr.cell? ⟨gn, 3, none⟩ = some (.int .i64 0) := by rw [← HT.out.n0 3 _ rfl]; exact HM.out.below.cell (p := ⟨gn, 3, none⟩) HT.out.ln
        have n4 : wr.cell? ⟨gn, 4, none⟩ = some (.int .u64 0) := by rw [← HT.out.n0 4 _ rfl]; exact HM.out.below.cell (p := ⟨gn, 4, none⟩) HT.out.ln
        have n5 : wr.cell? ⟨gn, 5, none⟩ = some (.slice none 0 0) := by rw [← HT.out.n0 5 _ rfl]; exact HM.out.below.cell (p := ⟨gn, 5, none⟩) HT.out.ln
        have n6 : wr.cell? ⟨gn, 6, none⟩ = some (.slice none 0 0) := by rw [← HT.out.n0 6 _ rfl]; exact HM.out.below.cell (p := ⟨gn, 6, none⟩) HT.out.ln
        have n7 : wr.cell? ⟨gn, 7, none⟩ = some (.slice none 0 0) := by rw [← HT.out.n0 7 _ rfl]; exact HM.out.below.cell (p := ⟨gn, 7, none⟩) HT.out.ln
        have HNB : Hid ((wr.alloc (.cells #[.int .i64 1, .int .i64 0, .string ⟨#[]⟩, .int .i64 0, .int .u64 0, .slice none 0 0, .slice none 0 0, .slice none 0 0] 156)).heap[wr.heap.size]? = some (.cells #[.int .i64 1, .int .i64 0, .string ⟨#[]⟩, .int .i64 0, .int .u64 0, .slice none 0 0, .slice none 0 0, .slice none 0 0] 156 (0, 0))) := Lib.hid (heap_alloc_new wr _)
        have HMA := Lib.hid (HM.out.alloc (.cells #[.int .i64 1, .int .i64 0, .string ⟨#[]⟩, .int .i64 0, .int .u64 0, .slice none 0 0, .slice none 0 0, .slice none 0 0] 156))
        have HLT : Hid (T1 < wr.heap.size ∧ T2 < wr.heap.size ∧ w.heap.size < wr.heap.size) := Lib.hid ⟨HM.out.lt.2.1, HM.out.lt.2.2, HM.out.lt.1⟩
        go_upto_region 7 with (fail)
        clear n0 n1 n2 n3 n4 n5 n6 n7
        generalize (wr.alloc (.cells #[.int .i64 1, .int .i64 0, .string ⟨#[]⟩, .int .i64 0, .int .u64 0, .slice none 0 0, .slice none 0 0, .slice none 0 0] 156)) = wa at *
        generalize wr.heap.size = B6 at *
        have p0 : wa.cell? ⟨B6, 0, none⟩ = some (.int .i64 1) := (by rw [cell_of_row _ _ 0 _ 156 _ HNB.out]; rfl)
        have p1 : wa.cell? ⟨B6, 1, none⟩ = some (.int .i64 0) := (by rw [cell_of_row _ _ 1 _ 156 _ HNB.out]; rfl)
        have p2 : wa.cell? ⟨B6, 2, none⟩ = some (.string ⟨#[]⟩) := (by rw [cell_of_row _ _ 2 _ 156 _ HNB.out]; rfl)
        have p3 : wa.cell? ⟨B6, 3, none⟩ = some (.int .i64 0) := (by rw [cell_of_row _ _ 3 _ 156 _ HNB.out]; rfl)
        have p4 : wa.cell? ⟨B6, 4, none⟩ = some (.int .u64 0) := (by rw [cell_of_row _ _ 4 _ 156 _ HNB.out]; rfl)
        have p5 : wa.cell? ⟨B6, 5, none⟩ = some (.slice none 0 0) := (by rw [cell_of_row _ _ 5 _ 156 _ HNB.out]; rfl)
        have p6 : wa.cell? ⟨B6, 6, none⟩ = some (.slice none 0 0) := (by rw [cell_of_row _ _ 6 _ 156 _ HNB.out]; rfl)
        have p7 : wa.cell? ⟨B6, 7, none⟩ = some (.slice none 0 0) := (by rw [cell_of_row _ _ 7 _ 156 _ HNB.out]; rfl)
        have x1 : wa.cell? ⟨w.heap.size, 1, none⟩ = some (.slice (some ⟨gy, oy, none⟩) NN cy) := by rw [cell_of_row _ _ 1 _ 108 _ HMA.out.box]; rfl
        go_wp2_with (first | (go_at_call 117; refine (term_1 _).mono ?_; rintro e w5 ⟨rfl, hb5⟩; have HM5 := Lib.hid (HMA.out.on hb5); have HN5 := Lib.hid ((hb5.block B6 (Array.getElem?_eq_some_iff.1 HNB.out).1).trans HNB.out); have r6 : w5.cell? ⟨B6, 6, none⟩ = some (.slice none 0 0) := (by rw [cell_of_row _ _ 6 _ 156 _ HN5.out]; rfl); have r7 : w5.cell? ⟨B6, 7, none⟩ = some (.slice none 0 0) := (by rw [cell_of_row _ _ 7 _ 156 _ HN5.out]; rfl); have x5 : w5.cell? ⟨w.heap.size, 1, none⟩ = some (.slice (some ⟨gy, oy, none⟩) NN cy) := (by rw [cell_of_row _ _ 1 _ 108 _ HM5.out.box]; rfl); clear hb5) | (go_at_call 118; refine (note_zero _ _ _ _ _ _ _).mono ?_; rintro e w' ⟨rfl, rfl⟩))
        go_roundw
        case rel => exact Or.inr (Or.inl ⟨rfl, HM5⟩)
        case measure => simp [intOf]
      · have n0 : wr.cell? ⟨gn, 8, none⟩ = some (.int .i64 15) := by rw [← HT.out.n0 8 _ rfl]; exact HM.out.below.cell (p := ⟨gn, 8, none⟩) HT.out.ln
        have n1 : wr.cell? ⟨gn, 9, none⟩ = some (.int .i64 0) := by rw [← HT.out.n0 9 _ rfl]; exact HM.out.below.cell (p := ⟨gn, 9, none⟩) HT.out.ln
        have n2 : wr.cell? ⟨gn, 10, none⟩ = some (.string ⟨#[]⟩) := by rw [← HT.out.n0 10 _ rfl]; exact HM.out.below.cell (p := ⟨gn, 10, none⟩) HT.out.ln
        have n3 : wr.cell? ⟨gn, 11, none⟩ = some (.int .i64 0) := by rw [← HT.out.n0 11 _ rfl]; exact HM.out.below.cell (p := ⟨gn, 11, none⟩) HT.out.ln
        have n4 : wr.cell? ⟨gn, 12, none⟩ = some (.int .u64 0) := by rw [← HT.out.n0 12 _ rfl]; exact HM.out.below.cell (p := ⟨gn, 12, none⟩) HT.out.ln
        have n5 : wr.cell? ⟨gn, 13, none⟩ = some (.slice none 0 0) := by rw [← HT.out.n0 13 _ rfl]; exact HM.out.below.cell (p := ⟨gn, 13, none⟩) HT.out.ln
        have n6 : wr.cell? ⟨gn, 14, none⟩ = some (.slice (some ⟨gk, 0, none⟩) 1 1) := by rw [← HT.out.n0 14 _ rfl]; exact HM.out.below.cell (p := ⟨gn, 14, none⟩) HT.out.ln
        have n7 : wr.cell? ⟨gn, 15, none⟩ = some (.slice (some ⟨gt, 0, none⟩) 1 1) := by rw [← HT.out.n0 15 _ rfl]; exact HM.out.below.cell (p := ⟨gn, 15, none⟩) HT.out.ln
        have HNB : Hid ((wr.alloc (.cells #[.int .i64 15, .int .i64 0, .string ⟨#[]⟩, .int .i64 0, .int .u64 0, .slice none 0 0, .slice (some ⟨gk, 0, none⟩) 1 1, .slice (some ⟨gt, 0, none⟩) 1 1] 156)).heap[wr.heap.size]? = some (.cells #[.int .i64 15, .int .i64 0, .string ⟨#[]⟩, .int .i64 0, .int .u64 0, .slice none 0 0, .slice (some ⟨gk, 0, none⟩) 1 1, .slice (some ⟨gt, 0, none⟩) 1 1] 156 (0, 0))) := Lib.hid (heap_alloc_new wr _)
        have HMA := Lib.hid (HM.out.alloc (.cells #[.int .i64 15, .int .i64 0, .string ⟨#[]⟩, .int .i64 0, .int .u64 0, .slice none 0 0, .slice (some ⟨gk, 0, none⟩) 1 1, .slice (some ⟨gt, 0, none⟩) 1 1] 156))
        have HLT : Hid (T1 < wr.heap.size ∧ T2 < wr.heap.size ∧ w.heap.size < wr.heap.size) := Lib.hid ⟨HM.out.lt.2.1, HM.out.lt.2.2, HM.out.lt.1⟩
        go_upto_region 7 with (fail)
        clear n0 n1 n2 n3 n4 n5 n6 n7
        generalize (wr.alloc (.cells #[.int .i64 15, .int .i64 0, .string ⟨#[]⟩, .int .i64 0, .int .u64 0, .slice none 0 0, .slice (some ⟨gk, 0, none⟩) 1 1, .slice (some ⟨gt, 0, none⟩) 1 1] 156)) = wa at *
        generalize wr.heap.size = B6 at *
        have p0 : wa.cell? ⟨B6, 0, none⟩ = some (.int .i64 15) := (by rw [cell_of_row _ _ 0 _ 156 _ HNB.out]; rfl)
        have p1 : wa.cell? ⟨B6, 1, none⟩ = some (.int .i64 0) := (by rw [cell_of_row _ _ 1 _ 156 _ HNB.out]; rfl)
        have p2 : wa.cell? ⟨B6, 2, none⟩ = some (.string ⟨#[]⟩) := (by rw [cell_of_row _ _ 2 _ 156 _ HNB.out]; rfl)
        have p3 : wa.cell? ⟨B6, 3, none⟩ = some (.int .i64 0) := (by rw [cell_of_row _ _ 3 _ 156 _ HNB.out]; rfl)
        have p4 : wa.cell? ⟨B6, 4, none⟩ = some (.int .u64 0) := (by rw [cell_of_row _ _ 4 _ 156 _ HNB.out]; rfl)
        have p5 : wa.cell? ⟨B6, 5, none⟩ = some (.slice none 0 0) := (by rw [cell_of_row _ _ 5 _ 156 _ HNB.out]; rfl)
        have p6 : wa.cell? ⟨B6, 6, none⟩ = some (.slice (some ⟨gk, 0, none⟩) 1 1) := (by rw [cell_of_row _ _ 6 _ 156 _ HNB.out]; rfl)
        have p7 : wa.cell? ⟨B6, 7, none⟩ = some (.slice (some ⟨gt, 0, none⟩) 1 1) := (by rw [cell_of_row _ _ 7 _ 156 _ HNB.out]; rfl)
        have x1 : wa.cell? ⟨w.heap.size, 1, none⟩ = some (.slice (some ⟨gy, oy, none⟩) NN cy) := by rw [cell_of_row _ _ 1 _ 108 _ HMA.out.box]; rfl
        go_wp2_with (first | (go_at_call 117; refine (term_15 _ _ _).mono ?_; rintro e w5 ⟨rfl, hb5⟩; have HM5 := Lib.hid (HMA.out.on hb5); have HN5 := Lib.hid ((hb5.block B6 (Array.getElem?_eq_some_iff.1 HNB.out).1).trans HNB.out); have r6 : w5.cell? ⟨B6, 6, none⟩ = some (.slice (some ⟨gk, 0, none⟩) 1 1) := (by rw [cell_of_row _ _ 6 _ 156 _ HN5.out]; rfl); have r7 : w5.cell? ⟨B6, 7, none⟩ = some (.slice (some ⟨gt, 0, none⟩) 1 1) := (by rw [cell_of_row _ _ 7 _ 156 _ HN5.out]; rfl); have x5 : w5.cell? ⟨w.heap.size, 1, none⟩ = some (.slice (some ⟨gy, oy, none⟩) NN cy) := (by rw [cell_of_row _ _ 1 _ 108 _ HM5.out.box]; rfl); clear hb5; have HA1 := Lib.hid (show gk < w5.heap.size from Nat.lt_of_lt_of_le HT.out.lk HM5.out.below.size); have HA2 := Lib.hid (show gk ≠ T1 from (by have h1 := HT.out.lk; have h2 := HM5.out.l1; omega)); have HA3 : Hid (∀ (j q : Nat), [0][j]? = some q → w5.cell? ⟨gk, 0 + j, none⟩ = some (.int .i64 (q : Int))) := Lib.hid (fun j q hj => by (have hj0 : j = 0 := by (have := (List.getElem?_eq_some_iff.1 hj).1; simp at this; exact this)); subst hj0; simp at hj; subst hj; exact (HM5.out.below.cell (p := ⟨gk, 0, none⟩) HT.out.lk).trans HT.out.kk); have HA4 : Hid (∀ q ∈ [0], q < 2 ∧ ((q : Nat) : Int) < 1) := Lib.hid (by simp); have HA5 : Hid (Small 1000 [0, 0]) := Lib.hid (zeros_small 2); have HK1 : Hid (Calls Tryz.prog 118 #[.slice (some ⟨T1, 0, none⟩) 2 2, .slice (some ⟨gk, 0, none⟩) 1 1, .int .i64 1] w5 fun e w' => e = .returned (.bool true) ∧ w'.heap[T1]? = some (.cells (uRow (bumps [0, 0] [0])) 3 (0, 0)) ∧ w5.grownBy w' (some T1)) := Lib.hid (note_some w5 T1 2 2 gk 0 1 1 1 [0, 0] [0] rfl HM5.out.t1 rfl HA1.out HA2.out HA3 HA4 HA5 (by omega) (by omega))) | (go_at_call 118; (with_reducible refine HK1.out.mono ?_); rintro e w6 ⟨rfl, ht6, hg6⟩; have HM6 := Lib.hid (HM5.out.n1 hg6 ht6); have HN6 := Lib.hid ((hg6.block B6 (Array.getElem?_eq_some_iff.1 HN5.out).1 (by have := HLT.out; intro e; have := Option.some.inj e; omega)).trans HN5.out); have s6 : w6.cell? ⟨B6, 6, none⟩ = some (.slice (some ⟨gk, 0, none⟩) 1 1) := (by rw [cell_of_row _ _ 6 _ 156 _ HN6.out]; rfl); have s7 : w6.cell? ⟨B6, 7, none⟩ = some (.slice (some ⟨gt, 0, none⟩) 1 1) := (by rw [cell_of_row _ _ 7 _ 156 _ HN6.out]; rfl); have x6 : w6.cell? ⟨w.heap.size, 1, none⟩ = some (.slice (some ⟨gy, oy, none⟩) NN cy) := (by rw [cell_of_row _ _ 1 _ 108 _ HM6.out.box]; rfl); clear ht6 hg6; have HB1 := Lib.hid (show gt < w6.heap.size from Nat.lt_of_lt_of_le HT.out.lt HM6.out.below.size); have HB2 := Lib.hid (show gt ≠ T2 from (by have h1 := HT.out.lt; have h2 := HM6.out.l2; omega)); have HB3 : Hid (∀ (j q : Nat), [r][j]? = some q → w6.cell? ⟨gt, 0 + j, none⟩ = some (.int .i64 (q : Int))) := Lib.hid (fun j q hj => by (have hj0 : j = 0 := by (have := (List.getElem?_eq_some_iff.1 hj).1; simp at this; exact this)); subst hj0; simp at hj; subst hj; exact (HM6.out.below.cell (p := ⟨gt, 0, none⟩) HT.out.lt).trans HT.out.kt); have HB4 : Hid (∀ q ∈ [r], q < NN ∧ ((q : Nat) : Int) < (NN : Int)) := Lib.hid (by have := HR.out; simp; omega); have HB5 : Hid (Small 1000 (List.replicate NN 0)) := Lib.hid (zeros_small NN); have HK2 : Hid (Calls Tryz.prog 118 #[.slice (some ⟨T2, 0, none⟩) NN NN, .slice (some ⟨gt, 0, none⟩) 1 1, .int .i64 (NN : Int)] w6 fun e w' => e = .returned (.bool true) ∧ w'.heap[T2]? = some (.cells (uRow (bumps (List.replicate NN 0) [r])) 3 (0, 0)) ∧ w6.grownBy w' (some T2)) := Lib.hid (note_some w6 T2 NN NN gt 0 1 1 NN (List.replicate NN 0) [r] (by simp) HM6.out.t2 rfl HB1.out HB2.out HB3 HB4 HB5 (by omega) (by omega))) | (go_at_call 118; (with_reducible refine HK2.out.mono ?_); rintro e w7 ⟨rfl, ht7, hg7⟩; have HM7 := Lib.hid (HM6.out.n2 hg7 ht7); clear ht7 hg7))
        go_roundw
        case rel => exact Or.inr (Or.inr ⟨rfl, Lib.hid HM7.out⟩)
        case measure => simp [intOf]
      · obtain ⟨wn, rfl⟩ : ∃ wn : World, wn = wr := ⟨_, rfl⟩
        have x1 : wn.cell? ⟨w.heap.size, 1, none⟩ = some (.slice (some ⟨gy, oy, none⟩) NN cy) := by rw [cell_of_row _ _ 1 _ 108 _ HM.out.box]; rfl
        have x0 : wn.cell? ⟨w.heap.size, 0, none⟩ = some (.slice (some ⟨gn, 0, none⟩) 2 cn) := by rw [cell_of_row _ _ 0 _ 108 _ HM.out.box]; rfl
        go_wp2
        clear x1 x0
        go_loopw [69] (fun s69 wr => ∃ i : Nat, i ≤ NN ∧ s69 = .int .i64 (i : Int) ∧ Hid (Mid w wr #[.slice (some ⟨gn, 0, none⟩) 2 cn, .slice (some ⟨gy, oy, none⟩) NN cy, .slice none 0 0] T1 T2 [1, 0] (bumps (UU NN r) (kidsN (YT.take i))))) (fun s69 _ => NN - (intOf s69).toNat)
        case atStart => exact ⟨0, by omega, rfl, Lib.hid HM.out⟩
        case round =>
          clear HM
          obtain ⟨i, hi, rfl, HM⟩ := hrel
          have hwi : IntKind.i64.wrap ((i : Int) + 1) = (i : Int) + 1 := by rw [IntKind.wrap_i64]; omega
          by_cases hiN : i < NN
          · have hiN2 : (i : Int) < NN := by omega
            obtain ⟨x, hx⟩ : ∃ x, YT[i]? = some x := ⟨_, List.getElem?_eq_getElem (by rw [← HY.out.len]; exact hiN)⟩
            have HXX := Lib.hid hx
            have HOK := Lib.hid (HY.out.nds x (List.mem_of_getElem? hx))
            have HTX := Lib.hid (HTY0.out i x hx)
            obtain ⟨g, o, he, hg, n0, n1, n2, n3, n4, n5⟩ := (HY.out.on HM.out.below).at hx
            cases he
            clear hx hg
            obtain ⟨⟨kd, na, nn, nc, NS, ka, kn, kc, KS, op⟩, ps⟩ := x
            simp only at n0 n1 n2 n3 n4 n5 HOK HTX
            have HNB : Hid ((wr.alloc (.cells #[.int .i64 kd, .int .i64 ps, .string ⟨#[]⟩, .slice na nn nc, .slice ka kn kc, .bool op] 152)).heap[wr.heap.size]? = some (.cells #[.int .i64 kd, .int .i64 ps, .string ⟨#[]⟩, .slice na nn nc, .slice ka kn kc, .bool op] 152 (0, 0))) := Lib.hid (heap_alloc_new wr _)
            have HMA := Lib.hid (HM.out.alloc (.cells #[.int .i64 kd, .int .i64 ps, .string ⟨#[]⟩, .slice na nn nc, .slice ka kn kc, .bool op] 152))
            have HSM : Hid (Small 1000 (bumps (UU NN r) (kidsN (YT.take i)))) := Lib.hid (small_part HONE.out (kidsN_split YT i))
            have HUL : Hid ((bumps (UU NN r) (kidsN (YT.take i))).length = NN) := Lib.hid (by rw [bumps_len]; simp [UU, bump_len])
            go_upto_region 13 with (fail)
            clear n0 n1 n2 n3 n4 n5
            generalize (wr.alloc (.cells #[.int .i64 kd, .int .i64 ps, .string ⟨#[]⟩, .slice na nn nc, .slice ka kn kc, .bool op] 152)) = wa at *
            generalize wr.heap.size = B8 at *
            have p0 : wa.cell? ⟨B8, 0, none⟩ = some (.int .i64 kd) := (by rw [cell_of_row _ _ 0 _ 152 _ HNB.out]; rfl)
            have p1 : wa.cell? ⟨B8, 1, none⟩ = some (.int .i64 ps) := (by rw [cell_of_row _ _ 1 _ 152 _ HNB.out]; rfl)
            have p2 : wa.cell? ⟨B8, 2, none⟩ = some (.string ⟨#[]⟩) := (by rw [cell_of_row _ _ 2 _ 152 _ HNB.out]; rfl)
            have p3 : wa.cell? ⟨B8, 3, none⟩ = some (.slice na nn nc) := (by rw [cell_of_row _ _ 3 _ 152 _ HNB.out]; rfl)
            have p4 : wa.cell? ⟨B8, 4, none⟩ = some (.slice ka kn kc) := (by rw [cell_of_row _ _ 4 _ 152 _ HNB.out]; rfl)
            have p5 : wa.cell? ⟨B8, 5, none⟩ = some (.bool op) := (by rw [cell_of_row _ _ 5 _ 152 _ HNB.out]; rfl)
            have HTY := Lib.hid (typ_any wa kd ps na nn nc NS ka kn kc op (HOK.out.1.names.on HMA.out.below) HOK.out.1.nnb (by have := HOK.out.1.knb; simp only at this; omega) HOK.out.1.small HTX.out.2.1 HTX.out.2.2.1)
            rw [HTX.out.1] at HTY
            have HNK : Hid (∀ w5, Mid w w5 #[.slice (some ⟨gn, 0, none⟩) 2 cn, .slice (some ⟨gy, oy, none⟩) NN cy, .slice none 0 0] T1 T2 [1, 0] (bumps (UU NN r) (kidsN (YT.take i))) → Calls Tryz.prog 118 #[.slice (some ⟨T2, 0, none⟩) NN NN, .slice ka kn kc, .int .i64 (i : Int)] w5 (NotePost w5 T2 (bumps (UU NN r) (kidsN (YT.take i))) KS)) := Lib.hid (fun w5 hm => note_all w5 T2 NN _ ka kn kc KS (i : Int) (HOK.out.1.kids.on hm.below) (fun k hk => by have := HTX.out.2.2.2 k hk; exact ⟨this.1, this.2, by omega⟩) HUL.out hm.t2 (fun ad e h0 => by
              rcases HOK.out.1.kids.2 with h9 | ⟨g, o, e2, hl, _⟩
              · exact absurd h9 h0
              · simp only at e2
                rw [e2] at e; cases e; have := hm.l2; simp only; omega) HSM.out (by omega) HOK.out.1.knb)
            go_wp2_with (first | (go_at_call 119; (with_reducible refine HTY.out.mono ?_); rintro e w5 ⟨rfl, hb5⟩; have HM5 := Lib.hid (HMA.out.on hb5); have HN5 := Lib.hid ((hb5.block B8 (Array.getElem?_eq_some_iff.1 HNB.out).1).trans HNB.out); have r4 : w5.cell? ⟨B8, 4, none⟩ = some (.slice ka kn kc) := (by rw [cell_of_row _ _ 4 _ 152 _ HN5.out]; rfl); have HNK5 := Lib.hid (HNK.out w5 HM5.out); clear hb5) | (go_at_call 118; (with_reducible refine HNK5.out.mono ?_); rintro e w6 ⟨rfl, ht6, hg6⟩; have HM6 := Lib.hid (HM5.out.n2 hg6 ht6); clear ht6 hg6))
            go_roundw
            case rel => exact ⟨i + 1, by omega, by go_num, Lib.hid (by
              have := HM6.out
              rw [← bumps_app, ← kidsN_step HXX.out] at this
              exact this)⟩
            case measure => simp [intOf]; omega
          · have hiN2 : ¬ (i : Int) < NN := by omega
            obtain rfl : i = NN := by omega
            rw [List.take_of_length_le (by rw [← HY.out.len]; exact Nat.le_refl _)] at HM
            obtain ⟨wf, rfl⟩ : ∃ wf : World, wf = wr := ⟨_, rfl⟩
            have x2 : wf.cell? ⟨w.heap.size, 2, none⟩ = some (.slice none 0 0) := by rw [cell_of_row _ _ 2 _ 108 _ HM.out.box]; rfl
            have y1 : wf.cell? ⟨T1, 1, none⟩ = some (.int .i64 0) := by rw [cell_of_row _ T1 1 _ 3 _ HM.out.t1]; rfl
            have f1 : wf.frozen? ⟨T1, 1, none⟩ = false := frozen_of_row _ _ 1 _ 3 HM.out.t1
            go_wp2
            go_loop [89] (fun s89 => s89 = .int .i64 0) (fun _ => 0)
            case atStart => exact rfl
            case round =>
              obtain rfl := hrel
              have HT1 : Hid ((wf.setCell ⟨T1, 1, none⟩ (.int .i64 1)).heap[T1]? = some (.cells (uRow [1, 1]) 3 (0, 0))) := Lib.hid (set_heap wf T1 1 [1, 0] 1 HM.out.t1)
              have HT2 : Hid ((wf.setCell ⟨T1, 1, none⟩ (.int .i64 1)).heap[T2]? = some (.cells (uRow (bumps (UU i r) (kidsN YT))) 3 (0, 0))) := Lib.hid ((Below.heap_setCell _ _ _ _ (fun e => HM.out.ne e.symm)).trans HM.out.t2)
              have HBE : Hid (Below w.heap.size w (wf.setCell ⟨T1, 1, none⟩ (.int .i64 1))) := Lib.hid (HM.out.below.setCell (p := ⟨T1, 1, none⟩) (by have := HM.out.l1; show w.heap.size ≤ T1; omega) _)
              have HLN : Hid ((bumps (UU i r) (kidsN YT)).length = i) := Lib.hid (by rw [bumps_len]; simp [UU, bump_len])
              go_upto_region 23 with (fail)
              generalize (wf.setCell ⟨T1, 1, none⟩ (.int .i64 1)) = we at *
              have HO1 := Lib.hid (odds_ones we T1 2 2 [1, 1] rfl HT1.out (fun x hx => by simp at hx; exact hx) (by omega))
              have HO2 := Lib.hid (odds_ones we T2 i i (bumps (UU i r) (kidsN YT)) HLN.out HT2.out HONE.out (by omega))
              go_wp2_with (first | (go_at_call 122; (with_reducible refine HO1.out.mono ?_); rintro e w' ⟨rfl, rfl⟩) | (go_at_call 122; (with_reducible refine HO2.out.mono ?_); rintro e w' ⟨rfl, rfl⟩))
              go_ret
              exact ⟨rfl, HBE.out⟩
end Go.Proofs.YtifilhkkgkihpaaGreatDoor
set_option linter.unusedSimpArgs false
set_option linter.unusedVariables false
namespace Go.Proofs.YtifilhkkgkihpaaGreatDoor
open Go.RowKit
/-- a set of numbers. -/
structure MapB (D : DataW Unit) (A : List Nat) : Prop where
  tidy : Maps.Tidy D
  at_ : ∀ x, D.atKey (keyI x) (.lit (.bool false)) = .lit (.bool (decide (x ∈ A)))
theorem MapB.nil : MapB (.map []) [] := ⟨Maps.tidy_empty, fun _ => rfl⟩
theorem MapB.put {D : DataW Unit} {A : List Nat} (h : MapB D A) (c : Nat) : MapB (D.put (keyI c) (.lit (.bool true))) (A ++ [c]) where
  tidy := h.tidy.put (keyI_is c) _
  at_ y := by
    by_cases hxy : y = c
    · subst hxy
      rw [Maps.atKey_put_same h.tidy.isMap (keyI_is y)]; simp
    · rw [Maps.atKey_put_other (fun e => hxy (keyI_inj e)), h.at_ y]; simp [hxy]
/-- alone under way. -/
structure ASt (w wr : World) (C : Array Value) (M n : Nat) (D : DataW Unit) : Prop where
  below : Below w.heap.size w wr
  box : wr.heap[w.heap.size]? = some (.cells C 108 (0, 0))
  res : wr.heap[w.heap.size + 1]? = some (.cells #[.slice none 0 0, .slice none 0 0, .slice none 0 0] 108 (0, 0))
  map : wr.ownsMap Tryz.prog 3 (plainElem (H := Unit) Tryz.prog 4) M n D
  ge : M = w.heap.size + 2
section
variable {w wr w' : World} {C : Array Value} {M n : Nat} {D : DataW Unit}
theorem ASt.lt (h : ASt w wr C M n D) : w.heap.size + 2 < wr.heap.size := by have := h.map.lt; have := h.ge; omega
theorem ASt.on (h : ASt w wr C M n D) (hb : Below wr.heap.size wr w') : ASt w w' C M n D where
  below := h.below.trans (hb.mono h.below.size)
  box := (hb.block _ (by have := h.lt; omega)).trans h.box
  res := (hb.block _ (by have := h.lt; omega)).trans h.res
  map := h.map.kept (row := none) ⟨hb.os, hb.tape, hb.output, hb.size, fun j hj _ => hb.block j hj⟩ (by simp)
  ge := h.ge
theorem ASt.upd (h : ASt w wr C M n D) (hg : wr.grownBy w' (some M)) {n' : Nat} {D' : DataW Unit} (hm : w'.ownsMap Tryz.prog 3 (plainElem (H := Unit) Tryz.prog 4) M n' D') : ASt w w' C M n' D' where
  below := below_grow h.below hg h.below.size (fun k e => by cases e; have := h.ge; omega)
  box := (hg.block _ (by have := h.lt; omega) (fun e => by cases e; have := h.ge; omega)).trans h.box
  res := (hg.block _ (by have := h.lt; omega) (fun e => by cases e; have := h.ge; omega)).trans h.res
  map := hm
  ge := h.ge
theorem ASt.set (h : ASt w wr C M n D) (j : Nat) (v : Value) : ASt w (wr.setCell ⟨w.heap.size, j, none⟩ v) (C.setIfInBounds j v) M n D where
  below := h.below.setCell (p := ⟨w.heap.size, j, none⟩) (Nat.le_refl _) _
  box := heap_setCell_same _ _ j _ 108 _ h.box
  res := (Below.heap_setCell _ _ _ _ (by simp)).trans h.res
  map := h.map.setCell (a := ⟨w.heap.size, j, none⟩) (by have := h.ge; simp only; omega) _
  ge := h.ge
end
theorem take_len {L : List Nd} {i : Nat} {x : Nd} (hx : L[i]? = some x) : (kidsN (L.take (i + 1))).length = (kidsN (L.take i)).length + x.1.KS.length := by
  rw [kidsN_step hx]; simp
def PostU (w wr : World) (C : Array Value) (M : Nat) (YT : List Nd) (i : Nat) : Prop := ∃ D, ASt w wr C M (kidsN (YT.take i)).length D ∧ MapB D (kidsN (YT.take i))
def PostV (w wr : World) (C : Array Value) (M : Nat) (YT : List Nd) (KS : List Int) (i j : Nat) : Prop := ∃ D, ASt w wr C M ((kidsN (YT.take i)).length + j) D ∧ MapB D (kidsN (YT.take i) ++ (KS.take j).map Int.toNat)
end Go.Proofs.YtifilhkkgkihpaaGreatDoor
set_option linter.unusedSimpArgs false
set_option linter.unusedVariables false
namespace Go.Proofs.YtifilhkkgkihpaaGreatDoor
open Go.RowKit
def node0 : List Value := [.int .i64 1, .int .i64 0, .string ⟨#[]⟩, .int .i64 0, .int .u64 0, .slice none 0 0, .slice none 0 0, .slice none 0 0]
def node1 (gk gt : Nat) : List Value := [.int .i64 15, .int .i64 0, .string ⟨#[]⟩, .int .i64 0, .int .u64 0, .slice none 0 0, .slice (some ⟨gk, 0, none⟩) 1 1, .slice (some ⟨gt, 0, none⟩) 1 1]
theorem Tryz.infoNo : (Tryz.prog.info? 156).map (fun i => (i.zero, i.size, i.bytes)) = some (some (.agg #[.int .i64 0, .int .i64 0, .string ⟨#[]⟩, .int .i64 0, .int .u64 0, .slice none 0 0, .slice none 0 0, .slice none 0 0]), 8, 120) := by kernel_rfl
/-- a tree of types made whole. -/
def AlonePost (w : World) (gy oy cy NN r : Nat) (e : Ending) (w' : World) : Prop := ∃ gn cn gk gt, e = .returned (.agg #[.slice (some ⟨gn, 0, none⟩) 2 cn, .slice (some ⟨gy, oy, none⟩) NN cy, .slice none 0 0]) ∧ TreeT w' gn gk gt r ∧ w.heap.size ≤ gn ∧ w.heap.size ≤ gk ∧ w.heap.size ≤ gt ∧ Below w.heap.size w w'
/-- the terms as far as they are: one, or two. -/
def NodesAt (w wr : World) (r i : Nat) (gn nn cn : Nat) : Prop :=
  (i ≤ r ∧ nn = 1 ∧ wr.ownsRow (w.heap.size + 3) 156 8 (.slice (some ⟨gn, 0, none⟩) 1 cn) 1 node0) ∨
  (r < i ∧ nn = 2 ∧ ∃ gk gt, wr.ownsRow (w.heap.size + 3) 156 8 (.slice (some ⟨gn, 0, none⟩) 2 cn) 2 (node0 ++ node1 gk gt) ∧ wr.cell? ⟨gk, 0, none⟩ = some (.int .i64 0) ∧ wr.cell? ⟨gt, 0, none⟩ = some (.int .i64 (r : Int)) ∧ w.heap.size + 3 ≤ gk ∧ w.heap.size + 3 ≤ gt ∧ gk < wr.heap.size ∧ gt < wr.heap.size)
theorem ASt.grow {w wr w' : World} {C : Array Value} {M n : Nat} {D : DataW Unit} (h : ASt w wr C M n D) {g : Nat} (hg : wr.grownBy w' (some g)) (hn : w.heap.size + 3 ≤ g) : ASt w w' C M n D where
  below := below_grow h.below hg h.below.size (fun k e => by cases e; omega)
  box := (hg.block _ (by have := h.lt; omega) (fun e => by cases e; omega)).trans h.box
  res := (hg.block _ (by have := h.lt; omega) (fun e => by cases e; omega)).trans h.res
  map := h.map.kept hg (fun e => by cases e; have := h.ge; omega)
  ge := h.ge
theorem nodes_put {w wi w8 : World} {T Z : Value} {M n : Nat} {D : DataW Unit} {gn cn r g8 c8 : Nat} {o3 : Obj} (hA : ASt w wi #[.slice (some ⟨gn, 0, none⟩) 1 cn, T, Z] M n D) (hown : wi.ownsRow (w.heap.size + 3) 156 8 (.slice (some ⟨gn, 0, none⟩) 1 cn) 1 node0)
    (hg : (((wi.alloc (.cells #[.int .i64 0] 3)).alloc (.cells #[.int .i64 (r : Int)] 3)).alloc o3).grownBy w8 (Value.slice (some ⟨gn, 0, none⟩) 1 cn).ownBlock) (h8 : w8.ownsRow (w.heap.size + 3) 156 8 (.slice (some ⟨g8, 0, none⟩) (1 + 1) c8) (1 + 1) (node0 ++ node1 wi.heap.size (wi.heap.size + 1))) :
    ASt w (w8.setCell ⟨w.heap.size, 0, none⟩ (.slice (some ⟨g8, 0, none⟩) 2 c8)) #[.slice (some ⟨g8, 0, none⟩) 2 c8, T, Z] M n D ∧ NodesAt w (w8.setCell ⟨w.heap.size, 0, none⟩ (.slice (some ⟨g8, 0, none⟩) 2 c8)) r (r + 1) g8 2 c8 := by
  have hl := hA.lt
  have hgn := hown.lt gn rfl
  have hne : ∀ b, wi.heap.size ≤ b → some b ≠ (Value.slice (some ⟨gn, 0, none⟩) 1 cn).ownBlock := fun b h e => by
    have e' : b = gn := by simpa [Value.ownBlock] using e
    omega
  have hb3 : Below wi.heap.size wi (((wi.alloc (.cells #[.int .i64 0] 3)).alloc (.cells #[.int .i64 (r : Int)] 3)).alloc o3) := (((Below.refl _ _).alloc (Nat.le_refl _) _).alloc (by simp) _).alloc (by simp; omega) _
  have hA8 := ((hA.on hb3).grow (g := gn) hg hgn.1).set 0 (.slice (some ⟨g8, 0, none⟩) 2 c8)
  refine ⟨hA8, .inr ⟨by omega, rfl, wi.heap.size, wi.heap.size + 1, ownsRow_setCell_below h8 (a := ⟨w.heap.size, 0, none⟩) (by simp only; omega) _, ?_, ?_, by omega, by omega, ?_, ?_⟩⟩
  · have e1 : (w8.setCell ⟨w.heap.size, 0, none⟩ (.slice (some ⟨g8, 0, none⟩) 2 c8)).heap[wi.heap.size]? = some (.cells #[.int .i64 0] 3 (0, 0)) := by
      rw [Below.heap_setCell _ _ _ _ (by first | omega | (simp only; omega)), hg.block _ (by first | (simp; done) | (simp; omega)) (hne _ (Nat.le_refl _)), Below.heap_alloc _ _ _ (by simp; omega), Below.heap_alloc _ _ _ (by simp)]
      exact heap_alloc_new wi _
    rw [cell_of_row _ _ 0 _ 3 _ e1]; rfl
  · have e1 : (w8.setCell ⟨w.heap.size, 0, none⟩ (.slice (some ⟨g8, 0, none⟩) 2 c8)).heap[wi.heap.size + 1]? = some (.cells #[.int .i64 (r : Int)] 3 (0, 0)) := by
      rw [Below.heap_setCell _ _ _ _ (by first | omega | (simp only; omega)), hg.block _ (by first | (simp; done) | (simp; omega)) (hne _ (Nat.le_succ _)), Below.heap_alloc _ _ _ (by simp)]
      have := heap_alloc_new (wi.alloc (.cells #[.int .i64 0] 3)) (.cells #[.int .i64 (r : Int)] 3)
      simpa using this
    rw [cell_of_row _ _ 0 _ 3 _ e1]; rfl
  · have := hg.size; simp at this ⊢; omega
  · have := hg.size; simp at this ⊢; omega
theorem NodesAt.on {w wr w' : World} {r i gn nn cn : Nat} (h : NodesAt w wr r i gn nn cn) (hb : Below wr.heap.size wr w') : NodesAt w w' r i gn nn cn := by
  rcases h with ⟨h1, h2, h3⟩ | ⟨h1, h2, gk, gt, h3, h4, h5, h6, h7, h8, h9⟩
  · exact .inl ⟨h1, h2, ownsRow_mono h3 (fun g hg => hb.block g (h3.lt g hg).2)⟩
  · exact .inr ⟨h1, h2, gk, gt, ownsRow_mono h3 (fun g hg => hb.block g (h3.lt g hg).2), keepB hb h8 h4, keepB hb h9 h5, h6, h7, Nat.lt_of_lt_of_le h8 hb.size, Nat.lt_of_lt_of_le h9 hb.size⟩
theorem NodesAt.next {w wr : World} {r i gn nn cn : Nat} (h : NodesAt w wr r i gn nn cn) (hne : i ≠ r) : NodesAt w wr r (i + 1) gn nn cn := by
  rcases h with ⟨h1, h⟩ | ⟨h1, h⟩
  · exact .inl ⟨by omega, h⟩
  · exact .inr ⟨by omega, h⟩
set_option maxRecDepth 20000 in
set_option maxHeartbeats 8000000 in
theorem alone_any (w : World) (gy oy cy r NN : Nat) (YT : List Nd) (hY : TpsIn w (some ⟨gy, oy, none⟩) NN YT) (hN3 : NN ≤ 1000) (hr : r < NN) (hin : ∀ i, i < NN → (i ∈ kidsN YT ↔ i ≠ r)) (hkl : (kidsN YT).length ≤ 10000) (hks : ∀ x ∈ YT, ∀ k ∈ x.1.KS, 0 ≤ k ∧ k ≤ 1000) :
    Calls Tryz.prog 100 #[.agg #[.slice none 0 0, .slice (some ⟨gy, oy, none⟩) NN cy, .slice none 0 0]] w (AlonePost w gy oy cy NN r) := by
  have HY := Lib.hid hY
  have HIN := Lib.hid hin
  have HKL := Lib.hid hkl
  have HKS := Lib.hid hks
  have HRN := Lib.hid hr
  have hmm := @run_makeMap Tryz.prog
  have HX : Hid (((w.alloc (.cells #[.slice none 0 0, .slice (some ⟨gy, oy, none⟩) NN cy, .slice none 0 0] 108)).alloc (.cells #[.slice none 0 0, .slice none 0 0, .slice none 0 0] 108)).heap[w.heap.size]? = some (.cells #[.slice none 0 0, .slice (some ⟨gy, oy, none⟩) NN cy, .slice none 0 0] 108 (0, 0))) := Lib.hid (by rw [Below.heap_alloc _ _ _ (by simp)]; exact heap_alloc_new w _)
  have HXY : Hid (((w.alloc (.cells #[.slice none 0 0, .slice (some ⟨gy, oy, none⟩) NN cy, .slice none 0 0] 108)).alloc (.cells #[.slice none 0 0, .slice none 0 0, .slice none 0 0] 108)).heap[w.heap.size + 1]? = some (.cells #[.slice none 0 0, .slice none 0 0, .slice none 0 0] 108 (0, 0))) := Lib.hid (by
    have := heap_alloc_new (w.alloc (.cells #[.slice none 0 0, .slice (some ⟨gy, oy, none⟩) NN cy, .slice none 0 0] 108)) (.cells #[.slice none 0 0, .slice none 0 0, .slice none 0 0] 108)
    simpa using this)
  have HB : Hid (Below w.heap.size w ((w.alloc (.cells #[.slice none 0 0, .slice (some ⟨gy, oy, none⟩) NN cy, .slice none 0 0] 108)).alloc (.cells #[.slice none 0 0, .slice none 0 0, .slice none 0 0] 108))) := Lib.hid (((Below.refl _ _).alloc (Nat.le_refl _) _).alloc (by simp) _)
  have HSZ : Hid (((w.alloc (.cells #[.slice none 0 0, .slice (some ⟨gy, oy, none⟩) NN cy, .slice none 0 0] 108)).alloc (.cells #[.slice none 0 0, .slice none 0 0, .slice none 0 0] 108)).heap.size = w.heap.size + 2) := Lib.hid (by simp)
  clear hY hin hkl hks
  go_enter Tryz.func100, Tryz.ntmps100
  go_upto_region 1 with (fail)
  generalize ((w.alloc (.cells #[.slice none 0 0, .slice (some ⟨gy, oy, none⟩) NN cy, .slice none 0 0] 108)).alloc (.cells #[.slice none 0 0, .slice none 0 0, .slice none 0 0] 108)) = w1 at *
  have a0 : w1.cell? ⟨w.heap.size, 0, none⟩ = some (.slice none 0 0) := (by rw [cell_of_row _ _ 0 _ 108 _ HX.out]; rfl)
  go_upto_region 4 with (fail)
  clear a0
  have HA : Hid (ASt w (w1.alloc (.map #[] 0)) #[.slice none 0 0, .slice (some ⟨gy, oy, none⟩) NN cy, .slice none 0 0] w1.heap.size 0 (.map [])) := Lib.hid ⟨HB.out.alloc HB.out.size _, (Below.heap_alloc _ _ _ (by have := HSZ.out; omega)).trans HX.out, (Below.heap_alloc _ _ _ (by have := HSZ.out; omega)).trans HXY.out, World.ownsMap_made _ _ _ _, HSZ.out⟩
  generalize hM : w1.heap.size = M at *
  generalize (w1.alloc (.map #[] 0)) = w2 at *
  clear HX HXY HB HSZ hM hmm
  have a1 : w2.cell? ⟨w.heap.size, 1, none⟩ = some (.slice (some ⟨gy, oy, none⟩) NN cy) := (by rw [cell_of_row _ _ 1 _ 108 _ HA.out.box]; rfl)
  go_upto_region 5 with (fail)
  clear a1
  go_loopw [20] (fun s20 wr => ∃ i : Nat, i ≤ NN ∧ s20 = .int .i64 (i : Int) ∧ Hid (PostU w wr #[.slice none 0 0, .slice (some ⟨gy, oy, none⟩) NN cy, .slice none 0 0] M YT i)) (fun s20 _ => NN - (intOf s20).toNat)
  case atStart => exact ⟨0, Nat.zero_le _, rfl, Lib.hid ⟨_, HA.out, MapB.nil⟩⟩
  case round =>
    clear HA
    obtain ⟨i, hi, rfl, HU⟩ := hrel
    have hwi : IntKind.i64.wrap ((i : Int) + 1) = (i : Int) + 1 := by rw [IntKind.wrap_i64]; omega
    obtain ⟨w3, rfl⟩ : ∃ w3 : World, w3 = wr := ⟨_, rfl⟩
    have HBL : Hid (Below w.heap.size w w3) := Lib.hid (by obtain ⟨D, h1, _⟩ := HU.out; exact h1.below)
    by_cases hiN : i < NN
    · have hiN2 : (i : Int) < NN := by omega
      obtain ⟨x, hx⟩ : ∃ x, YT[i]? = some x := ⟨_, List.getElem?_eq_getElem (by rw [← HY.out.len]; exact hiN)⟩
      have HXX := Lib.hid hx
      have HOK := Lib.hid (HY.out.nds x (List.mem_of_getElem? hx)).1.kids
      have HKN := Lib.hid (HY.out.nds x (List.mem_of_getElem? hx)).1.knb
      have HKX := Lib.hid (HKS.out x (List.mem_of_getElem? hx))
      have HTL := Lib.hid (take_len hx)
      have HTP : Hid ((kidsN (YT.take (i + 1))).length ≤ 10000) := Lib.hid (by have h1 := HKL.out; rw [kidsN_split YT (i + 1)] at h1; simp at h1; omega)
      obtain ⟨g, o, he, hg, n0, n1, n2, n3, n4, n5⟩ := (HY.out.on HBL.out).at hx
      cases he
      clear hx hg
      obtain ⟨⟨kd, na, nn, nc, NS, ka, kn, kc, KS, op⟩, ps⟩ := x
      simp only at n0 n1 n2 n3 n4 n5 HOK HKX HTL HKN
      go_upto_region 7 with (fail)
      clear n0 n1 n2 n3 n4 n5
      have HNB : Hid ((w3.alloc (.cells #[.int .i64 kd, .int .i64 ps, .string ⟨#[]⟩, .slice na nn nc, .slice ka kn kc, .bool op] 152)).heap[w3.heap.size]? = some (.cells #[.int .i64 kd, .int .i64 ps, .string ⟨#[]⟩, .slice na nn nc, .slice ka kn kc, .bool op] 152 (0, 0))) := Lib.hid (heap_alloc_new w3 _)
      have HBN : Hid (Below w3.heap.size w3 (w3.alloc (.cells #[.int .i64 kd, .int .i64 ps, .string ⟨#[]⟩, .slice na nn nc, .slice ka kn kc, .bool op] 152))) := Lib.hid ((Below.refl _ _).alloc (Nat.le_refl _) _)
      have HV : Hid (PostV w (w3.alloc (.cells #[.int .i64 kd, .int .i64 ps, .string ⟨#[]⟩, .slice na nn nc, .slice ka kn kc, .bool op] 152)) #[.slice none 0 0, .slice (some ⟨gy, oy, none⟩) NN cy, .slice none 0 0] M YT KS i 0) := Lib.hid (by
        obtain ⟨D, h1, h2⟩ := HU.out
        exact ⟨D, h1.on HBN.out, by simpa using h2⟩)
      generalize (w3.alloc (.cells #[.int .i64 kd, .int .i64 ps, .string ⟨#[]⟩, .slice na nn nc, .slice ka kn kc, .bool op] 152)) = w4 at *
      have p4 : w4.cell? ⟨w3.heap.size, 4, none⟩ = some (.slice ka kn kc) := (by rw [cell_of_row _ _ 4 _ 152 _ HNB.out]; rfl)
      go_upto_region 8 with (fail)
      clear p4
      go_loopw [27] (fun s27 wr => ∃ j : Nat, j ≤ kn ∧ s27 = .int .i64 (j : Int) ∧ Hid (PostV w wr #[.slice none 0 0, .slice (some ⟨gy, oy, none⟩) NN cy, .slice none 0 0] M YT KS i j)) (fun s27 _ => kn - (intOf s27).toNat)
      case atStart => exact ⟨0, Nat.zero_le _, rfl, HV⟩
      case round =>
        clear HV
        obtain ⟨j, hj, rfl, HV⟩ := hrel
        have hwj : IntKind.i64.wrap ((j : Int) + 1) = (j : Int) + 1 := by rw [IntKind.wrap_i64]; have := HKN.out; omega
        obtain ⟨w5, rfl⟩ : ∃ w5 : World, w5 = wr := ⟨_, rfl⟩
        have HBV : Hid (Below w.heap.size w w5) := Lib.hid (by obtain ⟨D, h1, _⟩ := HV.out; exact h1.below)
        by_cases hjk : j < kn
        · have hjk2 : (j : Int) < kn := by omega
          obtain ⟨q, hq⟩ : ∃ q, KS[j]? = some q := ⟨_, List.getElem?_eq_getElem (by rw [← HOK.out.1]; exact hjk)⟩
          obtain ⟨gk, ok, rfl, hgk, hck⟩ := (HOK.out.on HBV.out).2.resolve_left (by omega)
          have ac := hck j q hq
          have HQQ := Lib.hid hq
          have HQ0 := Lib.hid (HKX.out q (List.mem_of_getElem? hq))
          clear hq hck hgk
          obtain ⟨c, rfl⟩ : ∃ c : Nat, q = (c : Int) := ⟨q.toNat, (Int.toNat_of_nonneg HQ0.out.1).symm⟩
          obtain ⟨D, h1, h2⟩ := HV.out
          have H1 := Lib.hid h1
          have H2 := Lib.hid h2
          clear h1 h2
          have HKY : Hid (keyOf Tryz.prog 3 (.int .i64 (c : Int)) = some (keyI c)) := Lib.hid (keyOf3 c (by have := HQ0.out.2; omega))
          have HNL : Hid ((kidsN (YT.take i)).length + j < maxLen) := Lib.hid (by unfold maxLen; have h1 := HTP.out; have h2 := HTL.out; have h3 := HOK.out.1; omega)
          go_wp2_with (at_mapUpdate; refine wpList_mapUpdate_own _ rfl _ _ _ 94 rfl 3 4 (Maps.int_keyed Tryz.underlying3) Tryz.underlying94 _ M _ D rfl H1.out.map HNL.out _ _ _ rfl rfl HKY.out _ [] (plainElem_bool Tryz.underlying4 true) ?_; intro w6 hown6 hgrow6; have HO6 := Lib.hid hown6; have HG6 := Lib.hid hgrow6; clear hown6 hgrow6)
          go_roundw
          case rel => exact ⟨j + 1, by omega, by go_num, Lib.hid ⟨_, H1.out.upd HG6.out HO6.out, by
            have := H2.out.put c
            rw [List.take_add_one, HQQ.out, List.map_append, ← List.append_assoc]
            simpa using this⟩⟩
          case measure => simp [intOf]; omega
        · have hjk2 : ¬ (j : Int) < kn := by omega
          have HUN : Hid (PostU w w5 #[.slice none 0 0, .slice (some ⟨gy, oy, none⟩) NN cy, .slice none 0 0] M YT (i + 1)) := Lib.hid (by
            obtain ⟨D, h1, h2⟩ := HV.out
            have h3 := HOK.out.1
            have h4 := HTL.out
            have e : j = KS.length := by omega
            refine ⟨D, ?_, ?_⟩
            · rw [h4, ← e]; exact h1
            · rw [kidsN_step HXX.out]
              rw [show KS.take j = KS from List.take_of_length_le (by omega)] at h2
              exact h2)
          go_wp2
          go_roundw
          case rel => exact ⟨i + 1, by omega, by go_num, HUN⟩
          case measure => simp [intOf]; omega
    · have hiN2 : ¬ (i : Int) < NN := by omega
      obtain rfl : i = NN := by omega
      obtain ⟨D, h1, h2⟩ := HU.out
      have H1 := Lib.hid h1
      rw [List.take_of_length_le (by rw [← HY.out.len]; exact Nat.le_refl _)] at h2 H1
      have H2 := Lib.hid h2
      clear h1 h2 HU HBL
      have a2 : w3.cell? ⟨w.heap.size, 2, none⟩ = some (.slice none 0 0) := (by rw [cell_of_row _ _ 2 _ 108 _ H1.out.box]; rfl)
      go_upto_region 14 with (fail)
      clear a2
      go_loopw [38] (fun s38 wr => s38 = .int .i64 0 ∧ Hid (ASt w wr #[.slice none 0 0, .slice (some ⟨gy, oy, none⟩) i cy, .slice none 0 0] M (kidsN YT).length D)) (fun _ _ => 0)
      case atStart => exact ⟨rfl, H1⟩
      case round =>
        clear H1
        obtain ⟨rfl, H1⟩ := hrel
        obtain ⟨w4, rfl⟩ : ∃ w4 : World, w4 = wr := ⟨_, rfl⟩
        have a0 : w4.cell? ⟨w.heap.size, 0, none⟩ = some (.slice none 0 0) := (by rw [cell_of_row _ _ 0 _ 108 _ H1.out.box]; rfl)
        have f0 : w4.frozen? ⟨w.heap.size, 0, none⟩ = false := frozen_of_row _ _ 0 _ 108 H1.out.box
        have l0 : w.heap.size < w4.heap.size := (Array.getElem?_eq_some_iff.1 H1.out.box).1
        go_upto_region 19 with (fail)
        clear a0 f0 l0
        have HAS : Hid (ASt w ((w4.setCell ⟨w.heap.size, 0, none⟩ (.slice (some ⟨w4.heap.size, 0, none⟩) 1 1)).alloc (.cells #[.int .i64 1, .int .i64 0, .string ⟨#[]⟩, .int .i64 0, .int .u64 0, .slice none 0 0, .slice none 0 0, .slice none 0 0] 156)) #[.slice (some ⟨w4.heap.size, 0, none⟩) 1 1, .slice (some ⟨gy, oy, none⟩) i cy, .slice none 0 0] M (kidsN YT).length D) := Lib.hid ((H1.out.set 0 _).on ((Below.refl _ _).alloc (Nat.le_refl _) _))
        have HNA : Hid (NodesAt w ((w4.setCell ⟨w.heap.size, 0, none⟩ (.slice (some ⟨w4.heap.size, 0, none⟩) 1 1)).alloc (.cells #[.int .i64 1, .int .i64 0, .string ⟨#[]⟩, .int .i64 0, .int .u64 0, .slice none 0 0, .slice none 0 0, .slice none 0 0] 156)) r 0 w4.heap.size 1 1) := Lib.hid (.inl ⟨Nat.zero_le _, rfl, (by
          have hn := heap_alloc_new (w4.setCell ⟨w.heap.size, 0, none⟩ (.slice (some ⟨w4.heap.size, 0, none⟩) 1 1)) (.cells #[.int .i64 1, .int .i64 0, .string ⟨#[]⟩, .int .i64 0, .int .u64 0, .slice none 0 0, .slice none 0 0, .slice none 0 0] 156)
          have e9 : (w4.setCell ⟨w.heap.size, 0, none⟩ (.slice (some ⟨w4.heap.size, 0, none⟩) 1 1)).heap.size = w4.heap.size := by simp
          rw [e9] at hn
          exact ⟨by simp [node0], .inr ⟨w4.heap.size, 1, _, rfl, by have := H1.out.lt; omega, hn, Nat.le_refl _, by decide, rfl, by simp [node0]⟩⟩)⟩)
        generalize ((w4.setCell ⟨w.heap.size, 0, none⟩ (.slice (some ⟨w4.heap.size, 0, none⟩) 1 1)).alloc (.cells #[.int .i64 1, .int .i64 0, .string ⟨#[]⟩, .int .i64 0, .int .u64 0, .slice none 0 0, .slice none 0 0, .slice none 0 0] 156)) = w5 at *
        generalize w4.heap.size = g5 at *
        have a1 : w5.cell? ⟨w.heap.size, 1, none⟩ = some (.slice (some ⟨gy, oy, none⟩) i cy) := (by rw [cell_of_row _ _ 1 _ 108 _ HAS.out.box]; rfl)
        go_upto_region 20 with (fail)
        clear a1 H1
        go_loopw [52] (fun s52 wr => ∃ (j gn nn cn : Nat), j ≤ i ∧ s52 = .int .i64 (j : Int) ∧ Hid (ASt w wr #[.slice (some ⟨gn, 0, none⟩) nn cn, .slice (some ⟨gy, oy, none⟩) i cy, .slice none 0 0] M (kidsN YT).length D) ∧ Hid (NodesAt w wr r j gn nn cn)) (fun s52 _ => i - (intOf s52).toNat)
        case atStart => exact ⟨0, g5, 1, 1, Nat.zero_le _, rfl, HAS, HNA⟩
        case round =>
          clear HAS HNA
          obtain ⟨j, gn, nn, cn, hj, rfl, HAS, HNA⟩ := hrel
          have hwj : IntKind.i64.wrap ((j : Int) + 1) = (j : Int) + 1 := by rw [IntKind.wrap_i64]; omega
          obtain ⟨w6, rfl⟩ : ∃ w6 : World, w6 = wr := ⟨_, rfl⟩
          by_cases hjN : j < i
          · have hjN2 : (j : Int) < i := by omega
            have HKY : Hid (keyOf Tryz.prog 3 (.int .i64 (j : Int)) = some (keyI j)) := Lib.hid (keyOf3 j (by omega))
            have HAT := Lib.hid (H2.out.at_ j)
            by_cases hjr : j = r
            · obtain rfl : r = j := hjr.symm
              have HDB : Hid (decide (r ∈ kidsN YT) = false) := Lib.hid (by have := HIN.out r hjN; simp; intro h; exact absurd rfl (this.1 h))
              rw [HDB.out] at HAT
              obtain ⟨rfl, HOW⟩ : nn = 1 ∧ Hid (w6.ownsRow (w.heap.size + 3) 156 8 (.slice (some ⟨gn, 0, none⟩) 1 cn) 1 node0) := (by rcases HNA.out with ⟨_, h1, h2⟩ | ⟨h1, _⟩; exact ⟨h1, Lib.hid h2⟩; omega)
              have hw0 : IntKind.i64.wrap ((1 : Int) - 1) = 0 := by decide
              obtain ⟨i0, hi9, hz0, hz1, hz2⟩ := info_parts Tryz.infoNo
              have HIF := Lib.hid hi9
              have HIF0 := Lib.hid hz0
              have HIF1 := Lib.hid hz1
              have HIF2 := Lib.hid hz2
              clear hi9 hz0 hz1 hz2
              have x0 : w6.cell? ⟨w.heap.size, 0, none⟩ = some (.slice (some ⟨gn, 0, none⟩) 1 cn) := (by rw [cell_of_row _ _ 0 _ 108 _ HAS.out.box]; rfl)
              have HB6 : Hid (Below w6.heap.size w6 (((w6.alloc (.cells #[.int .i64 0] 3)).alloc (.cells #[.int .i64 (r : Int)] 3)).alloc (.cells #[.int .i64 15, .int .i64 0, .string ⟨#[]⟩, .int .i64 0, .int .u64 0, .slice none 0 0, .slice (some ⟨w6.heap.size, 0, none⟩) 1 1, .slice (some ⟨w6.heap.size + 1, 0, none⟩) 1 1] 156))) := Lib.hid ((((Below.refl _ _).alloc (Nat.le_refl _) _).alloc (by simp) _).alloc (by simp; omega) _)
              have HO6 : Hid ((((w6.alloc (.cells #[.int .i64 0] 3)).alloc (.cells #[.int .i64 (r : Int)] 3)).alloc (.cells #[.int .i64 15, .int .i64 0, .string ⟨#[]⟩, .int .i64 0, .int .u64 0, .slice none 0 0, .slice (some ⟨w6.heap.size, 0, none⟩) 1 1, .slice (some ⟨w6.heap.size + 1, 0, none⟩) 1 1] 156)).ownsRow (w.heap.size + 3) 156 8 (.slice (some ⟨gn, 0, none⟩) 1 cn) 1 node0) := Lib.hid (((HOW.out.alloc _).alloc _).alloc _)
              have HLA := Lib.hid HAS.out.lt
              have HNW : Hid (∀ (q : Nat) (u : Value), (node1 w6.heap.size (w6.heap.size + 1))[q]? = some u → (((w6.alloc (.cells #[.int .i64 0] 3)).alloc (.cells #[.int .i64 (r : Int)] 3)).alloc (.cells #[.int .i64 15, .int .i64 0, .string ⟨#[]⟩, .int .i64 0, .int .u64 0, .slice none 0 0, .slice (some ⟨w6.heap.size, 0, none⟩) 1 1, .slice (some ⟨w6.heap.size + 1, 0, none⟩) 1 1] 156)).cell? (Addr.add ⟨w6.heap.size + 1 + 1, 0, none⟩ q) = some u) := Lib.hid (by
                have := news_of (heap_alloc_new ((w6.alloc (.cells #[.int .i64 0] 3)).alloc (.cells #[.int .i64 (r : Int)] 3)) (.cells #[.int .i64 15, .int .i64 0, .string ⟨#[]⟩, .int .i64 0, .int .u64 0, .slice none 0 0, .slice (some ⟨w6.heap.size, 0, none⟩) 1 1, .slice (some ⟨w6.heap.size + 1, 0, none⟩) 1 1] 156))
                simpa [node1] using this)
              clear hwj
              have hwj : IntKind.i64.wrap ((r : Int) + 1) = (r : Int) + 1 := by rw [IntKind.wrap_i64]; omega
              go_wp2_with (first
                | (at_lookup; refine wpList_lookup_own_bool _ rfl _ _ 94 rfl 3 4 (Maps.int_keyed Tryz.underlying3) Tryz.underlying94 Tryz.underlying4 (zero4 _) M _ D rfl HAS.out.map _ (keyI r) rfl HKY.out ?_; intro c0 hat; obtain rfl : c0 = false := (by rw [HAT.out] at hat; injection hat with hat; injection hat with hat; exact hat.symm); clear hat)
                | (at_builtin; refine wpList_append_lies _ rfl _ _ 104 rfl (w.heap.size + 3) 156 i0 (.agg #[.int .i64 0, .int .i64 0, .string ⟨#[]⟩, .int .i64 0, .int .u64 0, .slice none 0 0, .slice none 0 0, .slice none 0 0]) 8 120 Tryz.underlying104 HIF.out HIF0.out HIF1.out HIF2.out rfl (by decide) (.slice (some ⟨gn, 0, none⟩) 1 cn) 1 node0 rfl HO6.out ⟨w6.heap.size + 1 + 1, 0, none⟩ 1 1 (node1 w6.heap.size (w6.heap.size + 1)) rfl rfl HNW.out (by simp [node1, Value.oneCell']) (by decide) (by decide) (by decide) (by have h1 := HLA.out; simp; omega) _ rfl ?_; intro g8 c8 w8 hown8 hgr8 hat8 hlt8; have HPUT := Lib.hid (nodes_put HAS.out HOW.out hgr8 hown8); have HG8 := Lib.hid ((HAS.out.on HB6.out).grow (g := gn) hgr8 (HOW.out.lt gn rfl).1); have x8 : w8.cell? ⟨w.heap.size, 0, none⟩ = some (.slice (some ⟨gn, 0, none⟩) 1 cn) := (by rw [cell_of_row _ _ 0 _ 108 _ HG8.out.box]; rfl); have f8 : w8.frozen? ⟨w.heap.size, 0, none⟩ = false := frozen_of_row _ _ 0 _ 108 HG8.out.box; have l8 : w.heap.size < w8.heap.size := (Array.getElem?_eq_some_iff.1 HG8.out.box).1; clear hown8 hgr8 hat8 hlt8))
              go_roundw
              case rel => exact ⟨r + 1, g8, 2, c8, by omega, by go_num, Lib.hid HPUT.out.1, Lib.hid HPUT.out.2⟩
              case measure => simp [intOf]; omega
            · have HDB : Hid (decide (j ∈ kidsN YT) = true) := Lib.hid (by have := HIN.out j hjN; simp; exact this.2 hjr)
              rw [HDB.out] at HAT
              go_wp2_with (at_lookup; refine wpList_lookup_own_bool _ rfl _ _ 94 rfl 3 4 (Maps.int_keyed Tryz.underlying3) Tryz.underlying94 Tryz.underlying4 (zero4 _) M _ D rfl HAS.out.map _ (keyI j) rfl HKY.out ?_; intro c0 hat; obtain rfl : c0 = true := (by rw [HAT.out] at hat; injection hat with hat; injection hat with hat; exact hat.symm); clear hat)
              go_roundw
              case rel => exact ⟨j + 1, gn, nn, cn, by omega, by go_num, HAS, Lib.hid (HNA.out.next hjr)⟩
              case measure => simp [intOf]; omega
          · have hjN2 : ¬ (j : Int) < i := by omega
            obtain rfl : i = j := by omega
            rcases HNA.out with ⟨q1, _⟩ | ⟨_, rfl, gk, gt, q3, q4, q5, q6, q7, q8, q9⟩
            · omega
            have HTT : Hid (TreeT (w6.setRow (w.heap.size + 1) #[.slice (some ⟨gn, 0, none⟩) 2 cn, .slice (some ⟨gy, oy, none⟩) i cy, .slice none 0 0]) gn gk gt r) := Lib.hid (by
              have hn := q3.lt gn rfl
              have hk : ∀ b, b ≠ w.heap.size + 1 → ∀ q, (w6.setRow (w.heap.size + 1) #[.slice (some ⟨gn, 0, none⟩) 2 cn, .slice (some ⟨gy, oy, none⟩) i cy, .slice none 0 0]).cell? ⟨b, q, none⟩ = w6.cell? ⟨b, q, none⟩ := fun b hb q => by simp only [World.cell?, setRow_other _ _ _ _ hb]
              refine ⟨fun q u hq => ?_, (hk _ (by omega) _).trans q4, (hk _ (by omega) _).trans q5, by rw [setRow_size]; exact hn.2, by rw [setRow_size]; exact q8, by rw [setRow_size]; exact q9⟩
              rw [hk _ (by omega)]
              have hl : q < 16 := (List.getElem?_eq_some_iff.1 hq).1
              have := q3.cellAt q (by omega)
              rw [this]
              exact hq)
            have HGE : Hid (w.heap.size ≤ gn ∧ w.heap.size ≤ gk ∧ w.heap.size ≤ gt) := Lib.hid ⟨by have := (q3.lt gn rfl).1; omega, by omega, by omega⟩
            clear q3 q4 q5 q6 q7 q8 q9
            have x0 : w6.cell? ⟨w.heap.size, 0, none⟩ = some (.slice (some ⟨gn, 0, none⟩) 2 cn) := (by rw [cell_of_row _ _ 0 _ 108 _ HAS.out.box]; rfl)
            have x1 : w6.cell? ⟨w.heap.size, 1, none⟩ = some (.slice (some ⟨gy, oy, none⟩) i cy) := (by rw [cell_of_row _ _ 1 _ 108 _ HAS.out.box]; rfl)
            have x2 : w6.cell? ⟨w.heap.size, 2, none⟩ = some (.slice none 0 0) := (by rw [cell_of_row _ _ 2 _ 108 _ HAS.out.box]; rfl)
            go_wp2_with (refine wpList_store_row rfl 108 _ _ rfl (w.heap.size + 1) _ rfl rfl 108 _ HAS.out.res (by kernel_rfl) rfl (by simp [Value.oneCell']) ?_)
            (try simp only [Exit.inBlock, Exit.then])
            exact bodyPost_ret (v := .agg #[.slice (some ⟨gn, 0, none⟩) 2 cn, .slice (some ⟨gy, oy, none⟩) i cy, .slice none 0 0]) (results_cell_row (P := Tryz.prog) rfl _ _ (w.heap.size + 1) 108 _ (0, 0) _ rfl (setRow_heap _ _ _ _ _ _ HAS.out.res) Tryz.underlying108 rfl (by kernel_rfl)) rfl
              ⟨gn, cn, gk, gt, rfl, HTT.out, HGE.out.1, HGE.out.2.1, HGE.out.2.2, below_rowP HAS.out.below (by omega)⟩
end Go.Proofs.YtifilhkkgkihpaaGreatDoor
set_option linter.unusedSimpArgs false
set_option linter.unusedVariables false
namespace Go.Proofs.YtifilhkkgkihpaaGreatDoor
open Go.RowKit
def ThruPost (w : World) (i : Nat) (e : Ending) (w' : World) : Prop := e = .returned (.tuple #[.int .i64 (i : Int), .int .i64 0]) ∧ Below w.heap.size w w'
set_option maxRecDepth 20000 in
set_option maxHeartbeats 4000000 in
theorem thru_low (w : World) (NV : Value) (gy oy cy NN i : Nat) (YT : List Nd) (hY : TpsIn w (some ⟨gy, oy, none⟩) NN YT) (hN3 : NN ≤ 1000) (x : Nd) (hx : YT[i]? = some x) (h10 : x.1.kd ≠ 10) (hv : NV.oneCell' = true) :
    Calls Tryz.prog 173 #[.agg #[NV, .slice (some ⟨gy, oy, none⟩) NN cy, .slice none 0 0], .int .i64 (i : Int)] w (ThruPost w i) := by
  have HY := Lib.hid hY
  have HXX := Lib.hid hx
  have hin : i < NN := by have := (List.getElem?_eq_some_iff.1 hx).1; have := hY.len; omega
  have hin2 : (i : Int) < NN := by omega
  have HX : Hid ((w.alloc (.cells #[NV, .slice (some ⟨gy, oy, none⟩) NN cy, .slice none 0 0] 108)).heap[w.heap.size]? = some (.cells #[NV, .slice (some ⟨gy, oy, none⟩) NN cy, .slice none 0 0] 108 (0, 0))) := Lib.hid (heap_alloc_new w _)
  have HB : Hid (Below w.heap.size w (w.alloc (.cells #[NV, .slice (some ⟨gy, oy, none⟩) NN cy, .slice none 0 0] 108))) := Lib.hid ((Below.refl _ _).alloc (Nat.le_refl _) _)
  have q10 : (x.1.kd != 10) = true := by simpa using h10
  clear hY hx h10
  go_enter Tryz.func173, Tryz.ntmps173
  go_upto_region 1 with (fail)
  generalize (w.alloc (.cells #[NV, .slice (some ⟨gy, oy, none⟩) NN cy, .slice none 0 0] 108)) = w1 at *
  have a2 : w1.cell? ⟨w.heap.size, 2, none⟩ = some (.slice none 0 0) := (by rw [cell_of_row _ _ 2 _ 108 _ HX.out]; rfl)
  go_upto_region 2 with (fail)
  clear a2
  go_loopw [1, 12] (fun s1 s12 wr => s1 = .int .i64 (i : Int) ∧ s12 = .int .i64 0 ∧ Hid (wr.heap[w.heap.size]? = some (.cells #[NV, .slice (some ⟨gy, oy, none⟩) NN cy, .slice none 0 0] 108 (0, 0))) ∧ Hid (Below w.heap.size w wr)) (fun _ _ _ => 0)
  case atStart => exact ⟨rfl, rfl, HX, HB⟩
  case round =>
    clear HX HB
    obtain ⟨rfl, rfl, HX, HB⟩ := hrel
    obtain ⟨w2, rfl⟩ : ∃ w2 : World, w2 = wr := ⟨_, rfl⟩
    have a1 : w2.cell? ⟨w.heap.size, 1, none⟩ = some (.slice (some ⟨gy, oy, none⟩) NN cy) := (by rw [cell_of_row _ _ 1 _ 108 _ HX.out]; rfl)
    obtain ⟨g, o, he, hg, n0, n1, n2, n3, n4, n5⟩ := (HY.out.on HB.out).at HXX.out
    cases he
    clear hg
    go_upto_region 4 with (fail)
    clear a1 n0 n1 n2 n3 n4 n5
    have HT : Hid ((w2.alloc (.cells #[.int .i64 x.1.kd, .int .i64 x.2, .string ⟨#[]⟩, .slice x.1.na x.1.nn x.1.nc, .slice x.1.ka x.1.kn x.1.kc, .bool x.1.op] 152)).heap[w2.heap.size]? = some (.cells #[.int .i64 x.1.kd, .int .i64 x.2, .string ⟨#[]⟩, .slice x.1.na x.1.nn x.1.nc, .slice x.1.ka x.1.kn x.1.kc, .bool x.1.op] 152 (0, 0))) := Lib.hid (heap_alloc_new w2 _)
    have HB3 : Hid (Below w.heap.size w (w2.alloc (.cells #[.int .i64 x.1.kd, .int .i64 x.2, .string ⟨#[]⟩, .slice x.1.na x.1.nn x.1.nc, .slice x.1.ka x.1.kn x.1.kc, .bool x.1.op] 152))) := Lib.hid (HB.out.alloc HB.out.size _)
    generalize (w2.alloc (.cells #[.int .i64 x.1.kd, .int .i64 x.2, .string ⟨#[]⟩, .slice x.1.na x.1.nn x.1.nc, .slice x.1.ka x.1.kn x.1.kc, .bool x.1.op] 152)) = w3 at *
    have p0 : w3.cell? ⟨w2.heap.size, 0, none⟩ = some (.int .i64 x.1.kd) := (by rw [cell_of_row _ _ 0 _ 152 _ HT.out]; rfl)
    go_wp2
    go_ret2
    exact ⟨rfl, HB3.out⟩
theorem TreeT.on {w w' : World} {gn gk gt r : Nat} (h : TreeT w gn gk gt r) (hb : Below w.heap.size w w') : TreeT w' gn gk gt r :=
  ⟨fun i u hu => keepB hb h.ln (h.n0 i u hu), keepB hb h.lk h.kk, keepB hb h.lt h.kt, Nat.lt_of_lt_of_le h.ln hb.size, Nat.lt_of_lt_of_le h.lk hb.size, Nat.lt_of_lt_of_le h.lt hb.size⟩
set_option maxRecDepth 20000 in
set_option maxHeartbeats 4000000 in
theorem thru_any (w : World) (gn gk gt gy oy cy cn r NN i : Nat) (YT : List Nd) (hT : TreeT w gn gk gt r) (hY : TpsIn w (some ⟨gy, oy, none⟩) NN YT) (hN3 : NN ≤ 1000) (hr : r < NN) (hty : TypsOk YT) (h1 : ∀ x ∈ bumps (UU NN r) (kidsN YT), x = 1) (x : Nd) (hx : YT[i]? = some x) :
    Calls Tryz.prog 134 #[.agg #[.slice (some ⟨gn, 0, none⟩) 2 cn, .slice (some ⟨gy, oy, none⟩) NN cy, .slice none 0 0], .int .i64 (i : Int)] w (ThruPost w i) := by
  have hin : i < NN := by have := (List.getElem?_eq_some_iff.1 hx).1; have := hY.len; omega
  have hin2 : (i : Int) < NN := by omega
  have hin3 : ¬ (NN : Int) ≤ i := by omega
  have HX : Hid ((w.alloc (.cells #[.slice (some ⟨gn, 0, none⟩) 2 cn, .slice (some ⟨gy, oy, none⟩) NN cy, .slice none 0 0] 108)).heap[w.heap.size]? = some (.cells #[.slice (some ⟨gn, 0, none⟩) 2 cn, .slice (some ⟨gy, oy, none⟩) NN cy, .slice none 0 0] 108 (0, 0))) := Lib.hid (heap_alloc_new w _)
  have HB : Hid (Below w.heap.size w (w.alloc (.cells #[.slice (some ⟨gn, 0, none⟩) 2 cn, .slice (some ⟨gy, oy, none⟩) NN cy, .slice none 0 0] 108))) := Lib.hid ((Below.refl _ _).alloc (Nat.le_refl _) _)
  have HCK := Lib.hid (tree_types (w.alloc (.cells #[.slice (some ⟨gn, 0, none⟩) 2 cn, .slice (some ⟨gy, oy, none⟩) NN cy, .slice none 0 0] 108)) gn gk gt gy oy cy cn r NN YT (hT.on HB.out) (hY.on HB.out) hN3 hr hty h1)
  have HLO : Hid (∀ w', Below w.heap.size w w' → Calls Tryz.prog 173 #[.agg #[.slice (some ⟨gn, 0, none⟩) 2 cn, .slice (some ⟨gy, oy, none⟩) NN cy, .slice none 0 0], .int .i64 (i : Int)] w' (ThruPost w' i)) := Lib.hid (fun w' hb => thru_low w' _ gy oy cy NN i YT (hY.on hb) hN3 x hx (hty i x hx).2.2.1 rfl)
  clear hT hY hty h1 hx hr
  go_enter Tryz.func134, Tryz.ntmps134
  go_upto_region 1 with (fail)
  generalize (w.alloc (.cells #[.slice (some ⟨gn, 0, none⟩) 2 cn, .slice (some ⟨gy, oy, none⟩) NN cy, .slice none 0 0] 108)) = w1 at *
  have HL1 : Hid (w.heap.size < w1.heap.size) := Lib.hid (Array.getElem?_eq_some_iff.1 HX.out).1
  have a0 : w1.cell? ⟨w.heap.size, 0, none⟩ = some (.slice (some ⟨gn, 0, none⟩) 2 cn) := (by rw [cell_of_row _ _ 0 _ 108 _ HX.out]; rfl)
  have a1 : w1.cell? ⟨w.heap.size, 1, none⟩ = some (.slice (some ⟨gy, oy, none⟩) NN cy) := (by rw [cell_of_row _ _ 1 _ 108 _ HX.out]; rfl)
  have a2 : w1.cell? ⟨w.heap.size, 2, none⟩ = some (.slice none 0 0) := (by rw [cell_of_row _ _ 2 _ 108 _ HX.out]; rfl)
  go_upto_region 4 with (go_at_call 96; (with_reducible refine HCK.out.mono ?_); rintro e w2 ⟨rfl, hb2⟩; have HB2 := Lib.hid hb2; clear hb2)
  have HX2 := Lib.hid ((HB2.out.block _ HL1.out).trans HX.out)
  clear a0 a1 a2
  have a0 : w2.cell? ⟨w.heap.size, 0, none⟩ = some (.slice (some ⟨gn, 0, none⟩) 2 cn) := (by rw [cell_of_row _ _ 0 _ 108 _ HX2.out]; rfl)
  have a1 : w2.cell? ⟨w.heap.size, 1, none⟩ = some (.slice (some ⟨gy, oy, none⟩) NN cy) := (by rw [cell_of_row _ _ 1 _ 108 _ HX2.out]; rfl)
  have a2 : w2.cell? ⟨w.heap.size, 2, none⟩ = some (.slice none 0 0) := (by rw [cell_of_row _ _ 2 _ 108 _ HX2.out]; rfl)
  have HB2' : Hid (Below w.heap.size w w2) := Lib.hid (HB.out.trans (HB2.out.mono HB.out.size))
  have HLO2 := Lib.hid (HLO.out w2 HB2'.out)
  go_wp2_with (go_at_call 173; (with_reducible refine HLO2.out.mono ?_); rintro e w3 ⟨rfl, hb3⟩; have HB3 := Lib.hid hb3; clear hb3)
  go_ret2
  exact ⟨rfl, HB2'.out.trans (HB3.out.mono HB2'.out.size)⟩
end Go.Proofs.YtifilhkkgkihpaaGreatDoor
