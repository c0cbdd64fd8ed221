/- Walks: Made. -/
import Derived.Test.YtoakfninndkgaaaGreatDoorGa10
set_option linter.unusedSimpArgs false
set_option linter.unusedVariables false
set_option linter.unusedVariables false
namespace Go.Proofs.YtoakfninndkgaaaGreatDoor.Val
open Go.RowKit
theorem below_set1 (w : World) (B i : Nat) (v : Value) : Below B w (w.setCell ⟨B, i, none⟩ v) := (Below.refl B w).setCell (p := ⟨B, i, none⟩) (Nat.le_refl B) v
theorem below_set2 {w w' : World} {B : Nat} (h : Below B w w') (i : Nat) (v : Value) : Below B w (w'.setCell ⟨B, i, none⟩ v) := h.setCell (p := ⟨B, i, none⟩) (Nat.le_refl B) v
theorem mem_size {C : List Mde} {e : Mde} (h : e ∈ C) : e.n ≤ sizeOf' C := by
  induction C with
  | nil => cases h
  | cons x l ih =>
    simp only [sizeOf', List.map_cons, List.sum_cons] at *
    rcases List.mem_cons.1 h with rfl | h
    · omega
    · have := ih h; omega
theorem Tryz.info3 : (Tryz.prog.info? 3).map (fun i => (i.zero, i.size, i.bytes)) = some (some (.int .i64 0), 1, 8) := by kernel_rfl
set_option maxRecDepth 20000 in
set_option maxHeartbeats 4000000 in
theorem made_some (w : World) (b off n c : Nat) (T : List Shp) (hT : n = T.length) (h1 : 1 ≤ n) (h20 : n ≤ 20) (hIn : ∀ i t, T[i]? = some t → ShpIn w b off i t) :
    Calls Tryz.prog 28 #[.slice (some ⟨b, off, none⟩) n c] w (MadePost w) := by
  have HT := Lib.hid hT
  have HIN := Lib.hid hIn
  have hnI : (n : Int) ≤ 20 := by omega
  have hn0 : ((n : Int) == 0) = false := by simp; omega
  obtain ⟨i0, hi, hz0, hz1, hz2⟩ := info_parts Tryz.info70
  have HI0 := Lib.hid hi
  have HZ0 := Lib.hid hz0
  have HZ1 := Lib.hid hz1
  have HZ2 := Lib.hid hz2
  obtain ⟨i3, hi3, hy0, hy1, hy2⟩ := info_parts Tryz.info3
  have HI3 := Lib.hid hi3
  have HY0 := Lib.hid hy0
  have HY1 := Lib.hid hy1
  have HY2 := Lib.hid hy2
  have hrb : ((w.alloc (.cells #[.int .i64 0, .int .i64 0, .int .u64 0, .string ⟨#[]⟩, .slice none 0 0, .slice none 0 0, .pointer none, .int .i64 0] 70)).alloc (.cells #[] 3)).heap[w.heap.size]? = some (.cells #[.int .i64 0, .int .i64 0, .int .u64 0, .string ⟨#[]⟩, .slice none 0 0, .slice none 0 0, .pointer none, .int .i64 0] 70 (0, 0)) := by rw [Below.heap_alloc _ _ _ (by simp)]; exact heap_alloc_new w _
  have hbl : Below w.heap.size w ((w.alloc (.cells #[.int .i64 0, .int .i64 0, .int .u64 0, .string ⟨#[]⟩, .slice none 0 0, .slice none 0 0, .pointer none, .int .i64 0] 70)).alloc (.cells #[] 3)) := ((Below.refl _ _).alloc (Nat.le_refl _) _).alloc (by simp) _
  have hoi : OutIn ((w.alloc (.cells #[.int .i64 0, .int .i64 0, .int .u64 0, .string ⟨#[]⟩, .slice none 0 0, .slice none 0 0, .pointer none, .int .i64 0] 70)).alloc (.cells #[] 3)) (w.heap.size + 1) (fun _ => False) (.slice none 0 0) (.slice (some ⟨w.heap.size + 1, 0, none⟩) 0 0) [] := by
    refine ⟨World.ownsRow_nil _ _ _ _, ?_, fun e he => by simp at he, fun b h => h.elim, fun b h => h.elim, fun b h => h.elim, fun b h => h.elim⟩
    have := World.ownsRow_made (base := w.heap.size + 1) (e := 3) (size := 1) (w.alloc (.cells #[.int .i64 0, .int .i64 0, .int .u64 0, .string ⟨#[]⟩, .slice none 0 0, .slice none 0 0, .pointer none, .int .i64 0] 70)) #[] 0 (by simp) (by unfold maxLen; omega) rfl
    simpa using this
  have HRB0 := Lib.hid hrb
  have HBL0 := Lib.hid hbl
  have HOI0 := Lib.hid hoi
  clear hT hIn hi hz0 hz1 hz2 hi3 hy0 hy1 hy2 hrb hbl hoi
  go_enter Tryz.func28, Tryz.ntmps28
  go_upto_region 5 with (fail)
  generalize ((w.alloc (.cells #[.int .i64 0, .int .i64 0, .int .u64 0, .string ⟨#[]⟩, .slice none 0 0, .slice none 0 0, .pointer none, .int .i64 0] 70)).alloc (.cells #[] 3)) = w3 at *
  go_wp2
  go_loopw [4, 5, 30] (fun s4 s5 s30 wr => ∃ (j : Nat) (Z : List Mde) (F : Nat → Prop) (a4 a5 : Option Addr) (c4 c5 : Nat), j ≤ n ∧ s30 = .int .i64 (j : Int) ∧ s4 = .slice a4 j c4 ∧ s5 = .slice a5 j c5 ∧ Hid (Z.length = j) ∧ Hid (OutIn wr (w.heap.size + 1) F (.slice a4 j c4) (.slice a5 j c5) Z) ∧ Hid (wr.heap[w.heap.size]? = some (.cells #[.int .i64 0, .int .i64 0, .int .u64 0, .string ⟨#[]⟩, .slice none 0 0, .slice none 0 0, .pointer none, .int .i64 0] 70 (0, 0))) ∧ Hid (Below w.heap.size w wr)) (fun _ _ s30 _ => n - (intOf s30).toNat)
  case atStart => exact ⟨0, [], _, none, _, 0, 0, by omega, rfl, rfl, rfl, rfl, HOI0, HRB0, HBL0⟩
  case round =>
    obtain ⟨j, Z, F, a4, a5, c4, c5, hj, rfl, rfl, rfl, HZL, HOI, HRB, HBX⟩ := hrel
    by_cases hjn : j < n
    · obtain ⟨t, ht⟩ : ∃ t, T[j]? = some t := ⟨_, List.getElem?_eq_getElem (by rw [← HT.out]; exact hjn)⟩
      have hsi := (HIN.out j t ht).on HBX.out
      obtain ⟨kd, it, bt, st, na, nn, nc, NS, ka, kn, kc, KS⟩ := t
      have HSI := Lib.hid hsi
      have s0 := hsi.c0
      have s1 := hsi.c1
      have s2 := hsi.c2
      have s3 := hsi.c3
      have s4 := hsi.c4
      have s5 := hsi.c5
      simp only at s0 s1 s2 s3 s4 s5
      have hlt : (j : Int) < n := by omega
      have hwj : IntKind.i64.wrap ((j : Int) + 1) = (j : Int) + 1 := by rw [IntKind.wrap_i64]; omega
      clear ht hsi
      have hS : ((wr.alloc (.cells #[.int .i64 kd, .int .i64 it, .int .u64 (bt : Int), .string st, .slice na nn nc, .slice ka kn kc] 101)).alloc (.cells #[.int .i64 kd, .int .i64 0, .int .u64 0, .string ⟨#[]⟩, .slice none 0 0, .slice none 0 0, .pointer none, .int .i64 0] 70)).heap[wr.heap.size]? = some (.cells #[.int .i64 kd, .int .i64 it, .int .u64 (bt : Int), .string st, .slice na nn nc, .slice ka kn kc] 101 (0, 0)) := by rw [Below.heap_alloc _ _ _ (by simp)]; exact heap_alloc_new wr _
      have hV : ((wr.alloc (.cells #[.int .i64 kd, .int .i64 it, .int .u64 (bt : Int), .string st, .slice na nn nc, .slice ka kn kc] 101)).alloc (.cells #[.int .i64 kd, .int .i64 0, .int .u64 0, .string ⟨#[]⟩, .slice none 0 0, .slice none 0 0, .pointer none, .int .i64 0] 70)).heap[wr.heap.size + 1]? = some (.cells #[.int .i64 kd, .int .i64 0, .int .u64 0, .string ⟨#[]⟩, .slice none 0 0, .slice none 0 0, .pointer none, .int .i64 0] 70 (0, 0)) := by
        have := heap_alloc_new (wr.alloc (.cells #[.int .i64 kd, .int .i64 it, .int .u64 (bt : Int), .string st, .slice na nn nc, .slice ka kn kc] 101)) (.cells #[.int .i64 kd, .int .i64 0, .int .u64 0, .string ⟨#[]⟩, .slice none 0 0, .slice none 0 0, .pointer none, .int .i64 0] 70)
        simpa using this
      have hB8 : Below wr.heap.size wr ((wr.alloc (.cells #[.int .i64 kd, .int .i64 it, .int .u64 (bt : Int), .string st, .slice na nn nc, .slice ka kn kc] 101)).alloc (.cells #[.int .i64 kd, .int .i64 0, .int .u64 0, .string ⟨#[]⟩, .slice none 0 0, .slice none 0 0, .pointer none, .int .i64 0] 70)) := ((Below.refl _ _).alloc (Nat.le_refl _) _).alloc (by simp) _
      have hS8 : ((wr.alloc (.cells #[.int .i64 kd, .int .i64 it, .int .u64 (bt : Int), .string st, .slice na nn nc, .slice ka kn kc] 101)).alloc (.cells #[.int .i64 kd, .int .i64 0, .int .u64 0, .string ⟨#[]⟩, .slice none 0 0, .slice none 0 0, .pointer none, .int .i64 0] 70)).heap.size = wr.heap.size + 2 := by simp
      have HSS := Lib.hid hS
      have HVV := Lib.hid hV
      have HB8 := Lib.hid hB8
      have HS8 := Lib.hid hS8
      clear hS hV hB8 hS8
      obtain ⟨w7, rfl⟩ : ∃ w7 : World, w7 = wr := ⟨_, rfl⟩
      go_upto_region 9 with (fail)
      clear s0 s1 s2 s3 s4 s5
      generalize ((w7.alloc (.cells #[.int .i64 kd, .int .i64 it, .int .u64 (bt : Int), .string st, .slice na nn nc, .slice ka kn kc] 101)).alloc (.cells #[.int .i64 kd, .int .i64 0, .int .u64 0, .string ⟨#[]⟩, .slice none 0 0, .slice none 0 0, .pointer none, .int .i64 0] 70)) = w8 at *
      have k5 : w8.cell? ⟨w7.heap.size, 5, none⟩ = some (.slice ka kn kc) := by rw [cell_of_row _ _ 5 _ 101 _ HSS.out]; rfl
      have hrl : w.heap.size < w7.heap.size := (Array.getElem?_eq_some_iff.1 HRB.out).1
      have HRB8 : Hid (w8.heap[w.heap.size]? = some (.cells #[.int .i64 0, .int .i64 0, .int .u64 0, .string ⟨#[]⟩, .slice none 0 0, .slice none 0 0, .pointer none, .int .i64 0] 70 (0, 0))) := Lib.hid ((HB8.out.block w.heap.size hrl).trans HRB.out)
      have HRL := Lib.hid hrl
      have HOI8 := Lib.hid (HOI.out.on HB8.out)
      have HSI8 := Lib.hid (HSI.out.on HB8.out)
      have HBX8 : Hid (Below w.heap.size w w8) := Lib.hid (HBX.out.trans (HB8.out.mono HBX.out.size))
      clear hrl HRB HBX
      go_wp2
      clear k5
      go_loopw [9, 10, 41] (fun s9 s10 s41 wr => ∃ (m : Nat) (C : List Mde) (ak : Option Addr) (ck : Nat), m ≤ kn ∧ s10 = .slice ak m ck ∧ s41 = .int .i64 (m : Int) ∧ s9 = .int .i64 ((1 + sizeOf' C : Nat) : Int) ∧ Hid (C.length = m ∧ (∀ e ∈ C, e ∈ Z) ∧ (0 < m → 0 < j ∧ kn ≤ 5) ∧ (m = 0 → Value.slice ak m ck = .slice none 0 0)) ∧ Hid (wr.ownsRow w8.heap.size 70 8 (.slice ak m ck) m (cells (kRowK (kidsOf C)))) ∧ Hid (Below w8.heap.size w8 wr)) (fun _ _ s41 _ => kn - (intOf s41).toNat)
      case atStart => exact ⟨0, [], none, 0, by omega, rfl, rfl, rfl, Lib.hid ⟨rfl, fun e he => by simp at he, fun h => by omega, fun _ => rfl⟩, Lib.hid (World.ownsRow_nil _ _ _ _), Lib.hid (Below.refl _ _)⟩
      case round =>
        obtain ⟨m, C, ak, ck, hm, rfl, rfl, rfl, HC, HK, HBR⟩ := hrel
        have HRB : Hid (wr.heap[w.heap.size]? = some (.cells #[.int .i64 0, .int .i64 0, .int .u64 0, .string ⟨#[]⟩, .slice none 0 0, .slice none 0 0, .pointer none, .int .i64 0] 70 (0, 0))) := Lib.hid ((HBR.out.block w.heap.size (by have := HS8.out; have := HRL.out; omega)).trans HRB8.out)
        have HBX : Hid (Below w.heap.size w wr) := Lib.hid (HBX8.out.trans (HBR.out.mono HBX8.out.size))
        have hsr := HSI8.out.on HBR.out
        have HSR := Lib.hid hsr
        have k5 : wr.cell? ⟨w7.heap.size, 5, none⟩ = some (.slice ka kn kc) := by rw [cell_of_row _ _ 5 _ 101 _ ((HBR.out.block w7.heap.size (by have := HS8.out; omega)).trans HSS.out)]; rfl
        by_cases hmk : m < kn
        · have hkn0 := hsr.kids
          simp only at hkn0
          obtain ⟨gk, ok, rfl, hgk, hck⟩ := hkn0.resolve_left (by omega)
          have hknl : kn = KS.length := hsr.knl
          obtain ⟨kk, hkk⟩ : ∃ kk, KS[m]? = some kk := ⟨_, List.getElem?_eq_getElem (by rw [← hknl]; exact hmk)⟩
          have ac := hck m kk hkk
          have hkm : (kn : Int) ≤ 9223372036854775807 := by have h1 := hsr.knc; have h2 := hsr.kcc; unfold maxLen at h2; simp only at h1 h2; omega
          have hmk2 : (m : Int) < kn := by omega
          clear hsr hkn0 hck hkk hknl hgk
          by_cases hj0 : j = 0
          · have hj1 : ((j : Int) == 0) = true := by simp [hj0]
            clear hj0
            go_wp2_with (refine wpList_store_row rfl 70 _ _ rfl w.heap.size #[.int .i64 0, .int .i64 0, .int .u64 0, .string ⟨#[]⟩, .slice none 0 0, .slice none 0 0, .pointer none, .int .i64 0] rfl rfl 70 _ HRB.out (by kernel_rfl) rfl (by simp [Value.oneCell']) ?_)
            (try simp only [Exit.inBlock, Exit.then])
            exact bodyPost_ret (v := .tuple #[.agg #[.int .i64 0, .int .i64 0, .int .u64 0, .string ⟨#[]⟩, .slice none 0 0, .slice none 0 0, .pointer none, .int .i64 0], .bool false]) (results_6 (fn := Tryz.f28) (p := 2) (u := 3) rfl _ _ w.heap.size #[.int .i64 0, .int .i64 0, .int .u64 0, .string ⟨#[]⟩, .slice none 0 0, .slice none 0 0, .pointer none, .int .i64 0] rfl (setRow_heap _ _ _ _ _ _ HRB.out) rfl) rfl ⟨keep_set HBX.out (Nat.le_refl _), Or.inl rfl⟩
          · have hj1 : ((j : Int) == 0) = false := by simp; omega
            by_cases hk5 : kn ≤ 5
            · have hk6 : (kn : Int) ≤ 5 := by omega
              have hoir := HOI8.out.on HBR.out
              have hzl : Z.length = j := HZL.out
              obtain ⟨U, hU⟩ : ∃ U : Nat, IntKind.u64.wrap kk = (U : Int) := ⟨(IntKind.u64.wrap kk).toNat, by rw [IntKind.wrap_u64]; omega⟩
              obtain ⟨q, hq, hqj⟩ : ∃ q : Nat, (U : Int) % (j : Int) = (q : Int) ∧ q < j := ⟨U % j, by omega, Nat.mod_lt _ (by omega)⟩
              have hUj : IntKind.u64.wrap (j : Int) = (j : Int) := by rw [IntKind.wrap_u64]; omega
              have hqi : (q : Int) < j := by omega
              have hqw : IntKind.i64.wrap (q : Int) = (q : Int) := by rw [IntKind.wrap_i64]; omega
              obtain ⟨e, he⟩ : ∃ e, Z[q]? = some e := ⟨_, List.getElem?_eq_getElem (by omega)⟩
              have hem := List.mem_of_getElem? he
              have hok := hoir.ok e hem
              obtain ⟨g4, rfl, hx⟩ : ∃ g4, a4 = some ⟨g4, 0, none⟩ ∧ ∀ i u, e.k.cells[i]? = some u → wr.cell? ⟨g4, q * 8 + i, none⟩ = some u := by
                rcases hoir.out.2 with ⟨-, h0⟩ | ⟨g4, cap, cur, e1, e2, e3, e4, e5, e6, e7⟩
                · omega
                · cases e1
                  exact ⟨g4, rfl, fun i u hu => by
                    rw [cell_of_row wr g4 _ _ 70 _ e3]
                    exact row_at e7 (cellE (kRowK (kidsOf Z)) q (⟨#[]⟩, e.k) i u (kRowK_at _ _ _ (by unfold kidsOf; rw [List.getElem?_map, he]; rfl)) hu)⟩
              obtain ⟨g5, rfl, hn5⟩ : ∃ g5, a5 = some ⟨g5, 0, none⟩ ∧ wr.cell? ⟨g5, q, none⟩ = some (.int .i64 (e.n : Int)) := by
                rcases hoir.size.2 with ⟨-, h0⟩ | ⟨g5, cap, cur, e1, e2, e3, e4, e5, e6, e7⟩
                · omega
                · cases e1
                  exact ⟨g5, rfl, by
                    rw [cell_of_row wr g5 _ _ 3 _ e3]
                    exact row_at e7 (by rw [List.getElem?_map, he]; rfl)⟩
              have hnt := hok.top
              have hsl := sizeOf_le C (fun x hx' => (hoir.ok x (HC.out.2.1 x hx')).top)
              have hcl := HC.out.1
              have hsw : IntKind.i64.wrap (((1 + sizeOf' C : Nat) : Int) + (e.n : Int)) = ((1 + sizeOf' C : Nat) : Int) + (e.n : Int) := by rw [IntKind.wrap_i64]; omega
              have hss : ((1 + sizeOf' C : Nat) : Int) + (e.n : Int) = ((1 + sizeOf' (C ++ [e]) : Nat) : Int) := by rw [sizeOf_snoc]; omega
              have hwm : IntKind.i64.wrap ((m : Int) + 1) = (m : Int) + 1 := by rw [IntKind.wrap_i64]; omega
              have HSW := Lib.hid hss
              have HEM := Lib.hid hem
              have HCS : Hid (cells (kRowK (kidsOf (C ++ [e]))) = cells (kRowK (kidsOf C)) ++ e.k.cells) := Lib.hid (by unfold kidsOf; rw [List.map_append]; exact cells_snoc _ _)
              have HSZ : Hid (w8.heap.size ≤ wr.heap.size) := Lib.hid HBR.out.size
              have hk20 : kn ≤ 20 := by omega
              have hone : ∀ u ∈ e.k.cells, u.oneCell' = true := fun u hu => by
                simp [Kid.cells] at hu
                rcases hu with rfl | rfl | rfl | rfl | rfl | rfl | rfl | rfl <;> rfl
              have HON := Lib.hid hone
              have hen : (0 : Int) ≤ (e.n : Int) := by omega
              clear hoir hzl hok he hem hnt hsl hcl hss hone
              obtain ⟨⟨xd, xi, xb, xt, xna, xnn, xnc, xka, xkn, xkc, xfp, xhv⟩, eh, en⟩ := e
              simp only at hx hn5 hsw hen
              have d0 : wr.cell? ⟨g4, q * 8, none⟩ = some (.int .i64 xd) := hx 0 _ rfl
              have d1 : wr.cell? ⟨g4, q * 8 + 1, none⟩ = some (.int .i64 xi) := hx 1 _ rfl
              have d2 : wr.cell? ⟨g4, q * 8 + 2, none⟩ = some (.int .u64 xb) := hx 2 _ rfl
              have d3 : wr.cell? ⟨g4, q * 8 + 3, none⟩ = some (.string xt) := hx 3 _ rfl
              have d4 : wr.cell? ⟨g4, q * 8 + 4, none⟩ = some (.slice xna xnn xnc) := hx 4 _ rfl
              have d5 : wr.cell? ⟨g4, q * 8 + 5, none⟩ = some (.slice xka xkn xkc) := hx 5 _ rfl
              have d6 : wr.cell? ⟨g4, q * 8 + 6, none⟩ = some (.pointer xfp) := hx 6 _ rfl
              have d7 : wr.cell? ⟨g4, q * 8 + 7, none⟩ = some (.int .i64 xhv) := hx 7 _ rfl
              have HN5A : Hid ((wr.alloc (.cells #[.int .i64 xd, .int .i64 xi, .int .u64 xb, .string xt, .slice xna xnn xnc, .slice xka xkn xkc, .pointer xfp, .int .i64 xhv] 70)).cell? ⟨g5, q, none⟩ = some (.int .i64 (en : Int))) := Lib.hid (by rw [World.cell?_alloc_some _ _ _ (by rw [hn5]; rfl)]; exact hn5)
              have HNE : Hid (some g5 ≠ (Value.slice ak m ck).ownBlock) := Lib.hid (fun he => by
                have h8 := ownsRow_ge HK.out g5 he.symm
                have h9 := (HOI8.out.size.lt g5 rfl).2
                omega)
              clear hx hn5
              generalize hACC : ((1 + sizeOf' C : Nat) : Int) = acc at *
              have HACC := Lib.hid hACC
              clear hACC
              go_wp2_with (at_builtin; refine wpList_append_own _ rfl _ _ 67 rfl w8.heap.size 70 i0 (.agg #[.int .i64 0, .int .i64 0, .int .u64 0, .string ByteArray.empty, .slice none 0 0, .slice none 0 0, .pointer none, .int .i64 0]) 8 104 Tryz.underlying67 HI0.out HZ0.out HZ1.out HZ2.out rfl (by decide) _ m _ rfl (HK.out.alloc _) ⟨wr.heap.size, 0, none⟩ 1 1 [.int .i64 xd, .int .i64 xi, .int .u64 xb, .string xt, .slice xna xnn xnc, .slice xka xkn xkc, .pointer xfp, .int .i64 xhv] rfl rfl (news28 (heap_alloc_new wr _)) HON.out (by unfold maxLen; omega) (by omega) (by have := HSZ.out; simp; omega) ?_; intro v' w5 hown hgr hnil; have hn6 : w5.cell? ⟨g5, q, none⟩ = some (.int .i64 (en : Int)) := hgr.cell HN5A.out HNE.out)
              obtain ⟨ga, capa, rfl⟩ : ∃ a c, v' = .slice a (m + 1) c := own_slice hown
              have HOW : Hid (w5.ownsRow w8.heap.size 70 8 (.slice ga (m + 1) capa) (m + 1) (cells (kRowK (kidsOf (C ++ [⟨⟨xd, xi, xb, xt, xna, xnn, xnc, xka, xkn, xkc, xfp, xhv⟩, eh, en⟩]))))) := Lib.hid (by rw [HCS.out]; exact hown)
              have HBW : Hid (Below w8.heap.size w8 w5) := Lib.hid ((HBR.out.alloc HBR.out.size _).grown hgr (by have := HSZ.out; simp; omega) (fun q' hq' => ownsRow_ge HK.out q' hq'))
              clear hown hgr hnil
              go_wp2
              go_roundw
              case rel => exact ⟨m + 1, C ++ [⟨⟨xd, xi, xb, xt, xna, xnn, xnc, xka, xkn, xkc, xfp, xhv⟩, eh, en⟩], ga, capa, by omega, rfl, rfl, congrArg (Value.int .i64) HSW.out, Lib.hid ⟨by rw [List.length_append, HC.out.1]; rfl, fun e' he' => by
                  rcases List.mem_append.1 he' with h | h
                  · exact HC.out.2.1 e' h
                  · rw [List.mem_singleton.1 h]; exact HEM.out, fun _ => ⟨by omega, hk5⟩, fun h => by omega⟩, HOW, HBW⟩
              case measure => simp [intOf]; omega
            · have hk6 : (5 : Int) < kn := by omega
              go_wp2_with (refine wpList_store_row rfl 70 _ _ rfl w.heap.size #[.int .i64 0, .int .i64 0, .int .u64 0, .string ⟨#[]⟩, .slice none 0 0, .slice none 0 0, .pointer none, .int .i64 0] rfl rfl 70 _ HRB.out (by kernel_rfl) rfl (by simp [Value.oneCell']) ?_)
              (try simp only [Exit.inBlock, Exit.then])
              exact bodyPost_ret (v := .tuple #[.agg #[.int .i64 0, .int .i64 0, .int .u64 0, .string ⟨#[]⟩, .slice none 0 0, .slice none 0 0, .pointer none, .int .i64 0], .bool false]) (results_6 (fn := Tryz.f28) (p := 2) (u := 3) rfl _ _ w.heap.size #[.int .i64 0, .int .i64 0, .int .u64 0, .string ⟨#[]⟩, .slice none 0 0, .slice none 0 0, .pointer none, .int .i64 0] rfl (setRow_heap _ _ _ _ _ _ HRB.out) rfl) rfl ⟨keep_set HBX.out (Nat.le_refl _), Or.inl rfl⟩
        · have hmk2 : ¬ (m : Int) < kn := by omega
          obtain rfl : kn = m := by omega
          have k0 : wr.cell? ⟨w7.heap.size, 0, none⟩ = some (.int .i64 kd) := by rw [cell_of_row _ _ 0 _ 101 _ ((HBR.out.block w7.heap.size (by have := HS8.out; omega)).trans HSS.out)]; rfl
          have k1 : wr.cell? ⟨w7.heap.size, 1, none⟩ = some (.int .i64 it) := by rw [cell_of_row _ _ 1 _ 101 _ ((HBR.out.block w7.heap.size (by have := HS8.out; omega)).trans HSS.out)]; rfl
          have k2 : wr.cell? ⟨w7.heap.size, 2, none⟩ = some (.int .u64 (bt : Int)) := by rw [cell_of_row _ _ 2 _ 101 _ ((HBR.out.block w7.heap.size (by have := HS8.out; omega)).trans HSS.out)]; rfl
          have k3 : wr.cell? ⟨w7.heap.size, 3, none⟩ = some (.string st) := by rw [cell_of_row _ _ 3 _ 101 _ ((HBR.out.block w7.heap.size (by have := HS8.out; omega)).trans HSS.out)]; rfl
          have k4 : wr.cell? ⟨w7.heap.size, 4, none⟩ = some (.slice na nn nc) := by rw [cell_of_row _ _ 4 _ 101 _ ((HBR.out.block w7.heap.size (by have := HS8.out; omega)).trans HSS.out)]; rfl
          have hVr : wr.heap[w7.heap.size + 1]? = some (.cells #[.int .i64 kd, .int .i64 0, .int .u64 0, .string ⟨#[]⟩, .slice none 0 0, .slice none 0 0, .pointer none, .int .i64 0] 70 (0, 0)) := (HBR.out.block (w7.heap.size + 1) (by have := HS8.out; omega)).trans HVV.out
          have HVR := Lib.hid hVr
          have hnmr := hsr.names
          have hnncr := hsr.nnc
          simp only at hnmr hnncr
          have HNM := Lib.hid hnmr
          have HNC := Lib.hid hnncr
          have hbit := hsr.bits
          simp only at hbit
          have HBIT := Lib.hid hbit
          have hsl := sizeOf_le C (fun x hx' => ((HOI8.out.ok x (HC.out.2.1 x hx')).top))
          have HSL := Lib.hid hsl
          clear hVr hnmr hnncr hbit hsr hsl
          generalize hACC : ((1 + sizeOf' C : Nat) : Int) = acc at *
          have HACC := Lib.hid hACC
          clear hACC
          obtain ⟨wi, rfl⟩ : ∃ wi : World, wi = wr := ⟨_, rfl⟩
          by_cases hN : acc ≤ 200
          · by_cases hst : st.size ≤ 30
            · have hst2 : (st.size : Int) ≤ 30 := by omega
              by_cases hnn : nn ≤ 5
              · have hnn2 : (nn : Int) ≤ 5 := by omega
                have hacc1 : (1 : Int) ≤ acc := by have := HACC.out; omega
                go_upto_block 4 with (fail)
                go_cut [] (fun wc => ∃ (k : Kid) (h : Nat) (F' : Nat → Prop), Hid (wc.heap[w7.heap.size + 1]? = some (.cells k.cells.toArray 70 (0, 0))) ∧ Hid (OkM wc F' ⟨k, h, 1 + sizeOf' C⟩) ∧ Hid ((∀ b, F b → F' b) ∧ (∀ b, F' b → F b ∨ (w8.heap.size ≤ b ∧ b < wc.heap.size))) ∧ Hid (Below (w7.heap.size + 1) wi wc))
                case first =>
                  by_cases e0 : kd = 0
                  · subst e0
                    have y1 : wi.cell? ⟨w7.heap.size + 1, 1, none⟩ = some (.int .i64 0) := by rw [cell_of_row _ _ 1 _ 70 _ HVR.out]; rfl
                    have f1 : wi.frozen? ⟨w7.heap.size + 1, 1, none⟩ = false := frozen_of_row _ _ 1 _ 70 HVR.out
                    go_wp2
                    go_meet
                    case rel =>
                      have hh := (heap_setCell_same _ (w7.heap.size + 1) 1 _ 70 (.int .i64 it) HVR.out)
                      refine ⟨⟨0, it, 0, ⟨#[]⟩, none, 0, 0, none, 0, 0, none, 0⟩, own9 0 ⟨#[]⟩, F, Lib.hid (by simpa [Kid.cells] using hh), Lib.hid (ok_leaf _ F _ _ _ _ _ (1 + sizeOf' C) (Nat.zero_le _) (by have h1 := HACC.out; omega) (by have h1 := HACC.out; omega)), Lib.hid ⟨fun _ h => h, fun _ h => Or.inl h⟩, Lib.hid (below_set1 _ _ _ _)⟩
                  · by_cases e1 : kd = 1
                    · subst e1
                      have y1 : wi.cell? ⟨w7.heap.size + 1, 1, none⟩ = some (.int .i64 0) := by rw [cell_of_row _ _ 1 _ 70 _ HVR.out]; rfl
                      have f1 : wi.frozen? ⟨w7.heap.size + 1, 1, none⟩ = false := frozen_of_row _ _ 1 _ 70 HVR.out
                      go_wp2
                      go_meet
                      case rel =>
                        have hh := (heap_setCell_same _ (w7.heap.size + 1) 1 _ 70 (.int .i64 (bits BinOp.and IntKind.i64 it 1)) HVR.out)
                        refine ⟨⟨1, _, 0, ⟨#[]⟩, none, 0, 0, none, 0, 0, none, 0⟩, own9 1 ⟨#[]⟩, F, Lib.hid (by simpa [Kid.cells] using hh), Lib.hid (ok_leaf _ F _ _ _ _ _ (1 + sizeOf' C) (Nat.zero_le _) (by have h1 := HACC.out; omega) (by have h1 := HACC.out; omega)), Lib.hid ⟨fun _ h => h, fun _ h => Or.inl h⟩, Lib.hid (below_set1 _ _ _ _)⟩
                    · by_cases e2 : kd = 2
                      · subst e2
                        have y3 : wi.cell? ⟨w7.heap.size + 1, 3, none⟩ = some (.string ⟨#[]⟩) := by rw [cell_of_row _ _ 3 _ 70 _ HVR.out]; rfl
                        have f3 : wi.frozen? ⟨w7.heap.size + 1, 3, none⟩ = false := frozen_of_row _ _ 3 _ 70 HVR.out
                        go_wp2
                        go_meet
                        case rel =>
                          have hh := (heap_setCell_same _ (w7.heap.size + 1) 3 _ 70 (.string st) HVR.out)
                          refine ⟨⟨2, 0, 0, st, none, 0, 0, none, 0, 0, none, 0⟩, own9 2 st, F, Lib.hid (by simpa [Kid.cells] using hh), Lib.hid (ok_leaf _ F _ _ _ _ _ (1 + sizeOf' C) (by omega) (by have h1 := HACC.out; omega) (by have h1 := HACC.out; omega)), Lib.hid ⟨fun _ h => h, fun _ h => Or.inl h⟩, Lib.hid (below_set1 _ _ _ _)⟩
                      · by_cases e3 : kd = 3
                        · subst e3
                          have y2 : wi.cell? ⟨w7.heap.size + 1, 2, none⟩ = some (.int .u64 0) := by rw [cell_of_row _ _ 2 _ 70 _ HVR.out]; rfl
                          have f2 : wi.frozen? ⟨w7.heap.size + 1, 2, none⟩ = false := frozen_of_row _ _ 2 _ 70 HVR.out
                          go_wp2_with (go_at_call 47; refine (parts_any bt HBIT.out _).mono ?_; rintro e w' ⟨qa, qc, qd, qz, qn, rfl, rfl⟩)
                          · go_meet
                            case rel =>
                              have hh := (heap_setCell_same _ (w7.heap.size + 1) 2 _ 70 (.int .u64 9221120237041090561) (heap_setCell_same _ (w7.heap.size + 1) 2 _ 70 (.int .u64 (bt : Int)) HVR.out))
                              refine ⟨⟨3, 0, _, ⟨#[]⟩, none, 0, 0, none, 0, 0, none, 0⟩, own9 3 ⟨#[]⟩, F, Lib.hid (by simpa [Kid.cells] using hh), Lib.hid (ok_leaf _ F _ _ _ _ _ (1 + sizeOf' C) (Nat.zero_le _) (by have h1 := HACC.out; omega) (by have h1 := HACC.out; omega)), Lib.hid ⟨fun _ h => h, fun _ h => Or.inl h⟩, Lib.hid (below_set2 (below_set1 _ _ _ _) _ _)⟩
                          · go_meet
                            case rel =>
                              have hh := (heap_setCell_same _ (w7.heap.size + 1) 2 _ 70 (.int .u64 (bt : Int)) HVR.out)
                              refine ⟨⟨3, 0, _, ⟨#[]⟩, none, 0, 0, none, 0, 0, none, 0⟩, own9 3 ⟨#[]⟩, F, Lib.hid (by simpa [Kid.cells] using hh), Lib.hid (ok_leaf _ F _ _ _ _ _ (1 + sizeOf' C) (Nat.zero_le _) (by have h1 := HACC.out; omega) (by have h1 := HACC.out; omega)), Lib.hid ⟨fun _ h => h, fun _ h => Or.inl h⟩, Lib.hid (below_set1 _ _ _ _)⟩
                        · by_cases e4 : kd = 4
                          · subst e4
                            have hoi := HOI8.out.on HBR.out
                            obtain ⟨f, hf⟩ := least_w wi F
                            have hCk : ∀ e ∈ C, OkM wi F e := fun e he => hoi.ok e (HC.out.2.1 e he)
                            have hkl : (kidsOf C).length = kn := by unfold kidsOf; rw [List.length_map]; exact HC.out.1
                            have hk20 : kn ≤ 20 := by
                              rcases Nat.eq_zero_or_pos kn with h | h
                              · omega
                              · have := (HC.out.2.2.1 h).2; omega
                            have HRC : Hid (Calls Tryz.prog 48 #[.slice na nn nc, .slice ak kn ck] wi (RecPostK wi f (upE (zipK NS (kidsOf C)) (zipK NS (kidsOf C)).length))) := Lib.hid (rec_gen wi w8.heap.size na nn nc NS _ (kidsOf C) f HNM.out HNC.out (by omega) (by omega) (by rw [hkl]; exact HK.out) (fun h => HC.out.2.2.2 (by rw [← hkl, h]; rfl)) (fun k hk => by
                              obtain ⟨e, he, rfl⟩ := kids_in hk
                              exact ((hf _ _ (hCk e he).vt).1.weighs hoi.lt).1) (fun k hk => by
                              obtain ⟨e, he, rfl⟩ := kids_in hk
                              have h1 := (hf _ _ (hCk e he).vt).2
                              have h2 := (hCk e he).le
                              have h3 := (hCk e he).top
                              omega))
                            have HF := Lib.hid hf
                            have HCK := Lib.hid hCk
                            have HOII := Lib.hid hoi
                            clear hf hCk hoi hkl
                            go_wp2_with (first | (go_at_call 48; refine HRC.out.mono ?_; rintro e w9 ⟨aN, cN, aK, cK, rfl, hrec, hbr⟩; have HV9 := Lib.hid ((hbr.block (w7.heap.size + 1) (Array.getElem?_eq_some_iff.1 HVR.out).1).trans HVR.out)) | (refine wpList_store_row rfl 70 _ _ rfl (w7.heap.size + 1) _ rfl rfl 70 _ HV9.out (by kernel_rfl) rfl (by simp [Value.oneCell']) ?_))
                            go_meet
                            case rel =>
                              obtain ⟨F', f1, f2, f3⟩ := ok_rec HF.out C HCK.out NS HOII.out.lt hbr hrec (by have := HNM.out.1; omega) (1 + sizeOf' C) rfl (by have h1 := HACC.out; omega)
                              have hls := (Array.getElem?_eq_some_iff.1 HVR.out).1
                              have hs8 := HS8.out
                              have hs9 := HBR.out.size
                              refine ⟨_, _, F', Lib.hid (setRow_heap _ _ _ _ _ _ HV9.out), Lib.hid (f3.on (fun _ h => h) (fun b hb => setRow_other _ _ _ _ ?_)), Lib.hid ⟨f1, fun b hb => ?_⟩, Lib.hid (keep_set (hbr.mono (by omega)) (Nat.le_refl _))⟩
                              · rcases f2 b hb with h | h
                                · have := HOI.out.lt b h; omega
                                · omega
                              · rcases f2 b hb with h | h
                                · exact Or.inl h
                                · exact Or.inr ⟨by omega, by rw [setRow_size]; exact h.2⟩
                          · by_cases e5 : kd = 5
                            · subst e5
                              have y3 : wi.cell? ⟨w7.heap.size + 1, 3, none⟩ = some (.string ⟨#[]⟩) := by rw [cell_of_row _ _ 3 _ 70 _ HVR.out]; rfl
                              have f3 : wi.frozen? ⟨w7.heap.size + 1, 3, none⟩ = false := frozen_of_row _ _ 3 _ 70 HVR.out
                              have y5 : wi.cell? ⟨w7.heap.size + 1, 5, none⟩ = some (.slice none 0 0) := by rw [cell_of_row _ _ 5 _ 70 _ HVR.out]; rfl
                              have f5 : wi.frozen? ⟨w7.heap.size + 1, 5, none⟩ = false := frozen_of_row _ _ 5 _ 70 HVR.out
                              by_cases hk0 : kn = 0
                              · have hkz : ((kn : Int) == 0) = true := by simp [hk0]
                                have HRB : Hid ((wi.setCell ⟨w7.heap.size + 1, 3, none⟩ (.string st)).heap[w.heap.size]? = some (.cells #[.int .i64 0, .int .i64 0, .int .u64 0, .string ⟨#[]⟩, .slice none 0 0, .slice none 0 0, .pointer none, .int .i64 0] 70 (0, 0))) := Lib.hid ((Below.heap_setCell _ _ _ _ (by have := HRL.out; show w.heap.size ≠ w7.heap.size + 1; omega)).trans HRB.out)
                                have HBX : Hid (Below w.heap.size w (wi.setCell ⟨w7.heap.size + 1, 3, none⟩ (.string st))) := Lib.hid (HBX.out.setCell (p := ⟨w7.heap.size + 1, 3, none⟩) (by have := HRL.out; show w.heap.size ≤ w7.heap.size + 1; omega) _)
                                clear hk0
                                go_wp2_with (refine wpList_store_row rfl 70 _ _ rfl w.heap.size #[.int .i64 0, .int .i64 0, .int .u64 0, .string ⟨#[]⟩, .slice none 0 0, .slice none 0 0, .pointer none, .int .i64 0] rfl rfl 70 _ HRB.out (by kernel_rfl) rfl (by simp [Value.oneCell']) ?_)
                                (try simp only [Exit.inBlock, Exit.then])
                                exact bodyPost_ret (v := .tuple #[.agg #[.int .i64 0, .int .i64 0, .int .u64 0, .string ⟨#[]⟩, .slice none 0 0, .slice none 0 0, .pointer none, .int .i64 0], .bool false]) (results_6 (fn := Tryz.f28) (p := 2) (u := 3) rfl _ _ w.heap.size #[.int .i64 0, .int .i64 0, .int .u64 0, .string ⟨#[]⟩, .slice none 0 0, .slice none 0 0, .pointer none, .int .i64 0] rfl (setRow_heap _ _ _ _ _ _ HRB.out) rfl) rfl ⟨keep_set HBX.out (Nat.le_refl _), Or.inl rfl⟩
                              · have hkz : ((kn : Int) == 0) = false := by simp; omega
                                have hoi := HOI8.out.on HBR.out
                                have hcl := HC.out.1
                                obtain ⟨e0, he0⟩ : ∃ e0, C[0]? = some e0 := ⟨_, List.getElem?_eq_getElem (by omega)⟩
                                obtain ⟨gq, rfl, hgq, hck, hx⟩ : ∃ gq, ak = some ⟨gq, 0, none⟩ ∧ w8.heap.size ≤ gq ∧ kn ≤ ck ∧ (∀ i u, e0.k.cells[i]? = some u → wi.cell? ⟨gq, i, none⟩ = some u) ∧ gq < wi.heap.size := by
                                  rcases HK.out.2 with ⟨-, h0⟩ | ⟨gq, cap, cur, q1, q2, q3, q4, q5, q6, q7⟩
                                  · omega
                                  · cases q1
                                    exact ⟨gq, rfl, q2, q4, fun i u hu => by
                                      rw [cell_of_row wi gq _ _ 70 _ q3]
                                      have := row_at q7 (cellE (kRowK (kidsOf C)) 0 (⟨#[]⟩, e0.k) i u (kRowK_at _ _ _ (by unfold kidsOf; rw [List.getElem?_map, he0]; rfl)) hu)
                                      rwa [Nat.zero_mul, Nat.zero_add] at this, (Array.getElem?_eq_some_iff.1 q3).1⟩
                                have hck1 : (1 : Int) ≤ (ck : Int) := by omega
                                have HX := Lib.hid hx
                                have HGQ := Lib.hid hgq
                                have HCKK := Lib.hid hck
                                have HOII := Lib.hid hoi
                                have HE0 := Lib.hid he0
                                clear hx hgq hoi hcl he0 hk0 hck
                                go_wp2
                                go_meet
                                case rel =>
                                  have hh := (heap_setCell_same _ (w7.heap.size + 1) 5 _ 70 (.slice (some ⟨gq, 0, none⟩) 1 ck) (heap_setCell_same _ (w7.heap.size + 1) 3 _ 70 (.string st) HVR.out))
                                  have hs8 := HS8.out
                                  have hgq := HGQ.out
                                  have hblk : ∀ b, b ≠ w7.heap.size + 1 → ((wi.setCell ⟨w7.heap.size + 1, 3, none⟩ (.string st)).setCell ⟨w7.heap.size + 1, 5, none⟩ (.slice (some ⟨gq, 0, none⟩) 1 ck)).heap[b]? = wi.heap[b]? := fun b hb => by rw [Below.heap_setCell _ _ _ _ hb, Below.heap_setCell _ _ _ _ hb]
                                  refine ⟨⟨5, 0, 0, st, none, 0, 0, some ⟨gq, 0, none⟩, 1, ck, none, 0⟩, 1 + e0.h, fun b => F b ∨ b = gq, Lib.hid (by simpa [Kid.cells] using hh), Lib.hid (ok_tag _ _ st gq ck e0 (1 + sizeOf' C) (by omega) (Or.inr rfl) ((HOII.out.ok e0 (HC.out.2.1 e0 (List.mem_of_getElem? HE0.out))).on (fun _ h => Or.inl h) (fun b hb => hblk b (by have := HOI.out.lt b hb; omega))) (fun i u hu => by rw [← HX.out.1 i u hu]; exact World.cell?_of_block (hblk gq (by omega))) (by have := mem_size (List.mem_of_getElem? HE0.out); omega) (by have h1 := HACC.out; omega) (by omega)), Lib.hid ⟨fun _ h => Or.inl h, fun b hb => ?_⟩, Lib.hid (below_set2 (below_set1 _ _ _ _) _ _)⟩
                                  rcases hb with h | h
                                  · exact Or.inl h
                                  · subst h
                                    exact Or.inr ⟨hgq, by simp; exact HX.out.2⟩
                            · by_cases e6 : kd = 6
                              · subst e6
                                have hls : w7.heap.size + 1 < wi.heap.size := (Array.getElem?_eq_some_iff.1 HVR.out).1
                                have y6 : wi.cell? ⟨w7.heap.size + 1, 6, none⟩ = some (.pointer none) := by rw [cell_of_row _ _ 6 _ 70 _ HVR.out]; rfl
                                have f6 : wi.frozen? ⟨w7.heap.size + 1, 6, none⟩ = false := frozen_of_row _ _ 6 _ 70 HVR.out
                                go_wp2
                                go_meet
                                case rel =>
                                  have hh := ((Below.heap_alloc _ (.cells #[.pointer none, .int .i64 0, .pointer none, .string ⟨#[]⟩, .pointer none] 110) _ (by simp; omega)).trans (heap_setCell_same _ (w7.heap.size + 1) 6 _ 70 (.pointer (some ⟨wi.heap.size, 0, none⟩)) HVR.out))
                                  refine ⟨⟨6, 0, 0, ⟨#[]⟩, none, 0, 0, none, 0, 0, some ⟨wi.heap.size, 0, none⟩, 0⟩, own9 6 ⟨#[]⟩, F, Lib.hid (by simpa [Kid.cells] using hh), Lib.hid (ok_leaf _ F _ _ _ _ _ (1 + sizeOf' C) (Nat.zero_le _) (by have h1 := HACC.out; omega) (by have h1 := HACC.out; omega)), Lib.hid ⟨fun _ h => h, fun _ h => Or.inl h⟩, Lib.hid ((below_set1 _ _ _ _).alloc (by simp; omega) _)⟩
                              · have q0 : (kd == 0) = false := by simp [e0]
                                have q1 : (kd == 1) = false := by simp [e1]
                                have q2 : (kd == 2) = false := by simp [e2]
                                have q3 : (kd == 3) = false := by simp [e3]
                                have q4 : (kd == 4) = false := by simp [e4]
                                have q5 : (kd == 5) = false := by simp [e5]
                                have q6 : (kd == 6) = false := by simp [e6]
                                go_wp2_with (refine wpList_store_row rfl 70 _ _ rfl w.heap.size #[.int .i64 0, .int .i64 0, .int .u64 0, .string ⟨#[]⟩, .slice none 0 0, .slice none 0 0, .pointer none, .int .i64 0] rfl rfl 70 _ HRB.out (by kernel_rfl) rfl (by simp [Value.oneCell']) ?_)
                                (try simp only [Exit.inBlock, Exit.then])
                                exact bodyPost_ret (v := .tuple #[.agg #[.int .i64 0, .int .i64 0, .int .u64 0, .string ⟨#[]⟩, .slice none 0 0, .slice none 0 0, .pointer none, .int .i64 0], .bool false]) (results_6 (fn := Tryz.f28) (p := 2) (u := 3) rfl _ _ w.heap.size #[.int .i64 0, .int .i64 0, .int .u64 0, .string ⟨#[]⟩, .slice none 0 0, .slice none 0 0, .pointer none, .int .i64 0] rfl (setRow_heap _ _ _ _ _ _ HRB.out) rfl) rfl ⟨keep_set HBX.out (Nat.le_refl _), Or.inl rfl⟩
                case rest =>
                  obtain ⟨k, h, F', HV8, HOK, HFF, HBC⟩ := hcut
                  have hbw7 : Below w7.heap.size w7 wc := (HB8.out.trans (HBR.out.mono (by have := HS8.out; omega))).trans (HBC.out.mono (by omega))
                  have hoc := HOI.out.on hbw7
                  have hz4 := hoc.out
                  have hz5 := hoc.size
                  rw [HZL.out] at hz4 hz5
                  have HZ4 := Lib.hid hz4
                  have HZ5 := Lib.hid hz5
                  have HOC := Lib.hid hoc
                  have HB7 := Lib.hid hbw7
                  have HBXC : Hid (Below w.heap.size w wc) := Lib.hid (HBX8.out.trans ((HBR.out.mono HBX8.out.size).trans (HBC.out.mono (by have := HRL.out; omega))))
                  have HRBC : Hid (wc.heap[w.heap.size]? = some (.cells #[.int .i64 0, .int .i64 0, .int .u64 0, .string ⟨#[]⟩, .slice none 0 0, .slice none 0 0, .pointer none, .int .i64 0] 70 (0, 0))) := Lib.hid ((HBC.out.block w.heap.size (by have := HRL.out; omega)).trans ((HBR.out.block w.heap.size (by have := HS8.out; have := HRL.out; omega)).trans HRB8.out))
                  have hsc : w7.heap.size + 2 ≤ wc.heap.size := by have h1 := HS8.out; have h2 := HBR.out.size; have h3 := HBC.out.size; omega
                  have HSC := Lib.hid hsc
                  clear hbw7 hoc hz4 hz5 hsc
                  obtain ⟨xd, xi, xb, xt, xna, xnn, xnc, xka, xkn, xkc, xfp, xhv⟩ := k
                  have z0 : wc.cell? ⟨w7.heap.size + 1, 0, none⟩ = some (.int .i64 xd) := by rw [cell_of_row _ _ 0 _ 70 _ HV8.out]; rfl
                  have z1 : wc.cell? ⟨w7.heap.size + 1, 1, none⟩ = some (.int .i64 xi) := by rw [cell_of_row _ _ 1 _ 70 _ HV8.out]; rfl
                  have z2 : wc.cell? ⟨w7.heap.size + 1, 2, none⟩ = some (.int .u64 xb) := by rw [cell_of_row _ _ 2 _ 70 _ HV8.out]; rfl
                  have z3 : wc.cell? ⟨w7.heap.size + 1, 3, none⟩ = some (.string xt) := by rw [cell_of_row _ _ 3 _ 70 _ HV8.out]; rfl
                  have z4 : wc.cell? ⟨w7.heap.size + 1, 4, none⟩ = some (.slice xna xnn xnc) := by rw [cell_of_row _ _ 4 _ 70 _ HV8.out]; rfl
                  have z5 : wc.cell? ⟨w7.heap.size + 1, 5, none⟩ = some (.slice xka xkn xkc) := by rw [cell_of_row _ _ 5 _ 70 _ HV8.out]; rfl
                  have z6 : wc.cell? ⟨w7.heap.size + 1, 6, none⟩ = some (.pointer xfp) := by rw [cell_of_row _ _ 6 _ 70 _ HV8.out]; rfl
                  have z7 : wc.cell? ⟨w7.heap.size + 1, 7, none⟩ = some (.int .i64 xhv) := by rw [cell_of_row _ _ 7 _ 70 _ HV8.out]; rfl
                  have hone : ∀ u ∈ ([.int .i64 xd, .int .i64 xi, .int .u64 xb, .string xt, .slice xna xnn xnc, .slice xka xkn xkc, .pointer xfp, .int .i64 xhv] : List Value), u.oneCell' = true := fun u hu => by
                    simp at hu
                    rcases hu with rfl | rfl | rfl | rfl | rfl | rfl | rfl | rfl <;> rfl
                  have HON := Lib.hid hone
                  have HLB : Hid (w.heap.size + 1 ≤ wc.heap.size) := Lib.hid (by have h1 := HRL.out; have h2 := HSC.out; omega)
                  clear hone
                  go_wp2_with (first | (at_builtin; refine wpList_append_lies _ rfl _ _ 67 rfl (w.heap.size + 1) 70 i0 (.agg #[.int .i64 0, .int .i64 0, .int .u64 0, .string ByteArray.empty, .slice none 0 0, .slice none 0 0, .pointer none, .int .i64 0]) 8 104 Tryz.underlying67 HI0.out HZ0.out HZ1.out HZ2.out rfl (by decide) _ j _ rfl (HZ4.out.alloc _) ⟨wc.heap.size, 0, none⟩ 1 1 [.int .i64 xd, .int .i64 xi, .int .u64 xb, .string xt, .slice xna xnn xnc, .slice xka xkn xkc, .pointer xfp, .int .i64 xhv] rfl rfl (news28 (heap_alloc_new wc _)) HON.out (by omega) (by unfold maxLen; omega) (by omega) (by have := HLB.out; simp; omega) (wc.heap.size + 1) (by simp) ?_; intro g4 p4 w5 hown hgr hwh hlt4; have HS5 := Lib.hid ((HZ5.out.alloc _).kept hgr (own_two HZ5.out HZ4.out (by decide))); have HL5 : Hid (w.heap.size + 1 ≤ w5.heap.size) := Lib.hid (by have h1 := hgr.size; have h2 := HLB.out; simp at h1; omega)) | (at_builtin; refine wpList_append_lies _ rfl _ _ 36 rfl (w.heap.size + 1) 3 i3 (.int .i64 0) 1 8 Tryz.underlying36 HI3.out HY0.out HY1.out HY2.out rfl (by decide) _ j _ rfl (HS5.out.alloc _) ⟨w5.heap.size, 0, none⟩ 1 1 [.int .i64 acc] rfl rfl (World.news_of_block (cs := #[.int .i64 acc]) (heap_alloc_new w5 _)) (by simp [Value.oneCell']) (by omega) (by unfold maxLen; omega) (by omega) (by have := HL5.out; simp; omega) (w5.heap.size + 1) (by simp) ?_; intro g5 p5 w6 hown2 hgr2 hwh2 hlt5))
                  have hR4 : ∀ g, (Value.slice a4 j c4).ownBlock = some g → w.heap.size + 1 ≤ g ∧ g < w7.heap.size := fun g hg => ⟨ownsRow_ge HZ4.out g hg, (HOI.out.out.lt g hg).2⟩
                  have hR5 : ∀ g, (Value.slice a5 j c5).ownBlock = some g → w.heap.size + 1 ≤ g ∧ g < w7.heap.size := fun g hg => ⟨ownsRow_ge HZ5.out g hg, (HOI.out.size.lt g hg).2⟩
                  have hse := HS8.out
                  have HO6 := Lib.hid (out_grow (R := w7.heap.size) (e := ⟨⟨xd, xi, xb, xt, xna, xnn, xnc, xka, xkn, xkc, xfp, xhv⟩, h, 1 + sizeOf' C⟩) HZL.out HOC.out hown hgr hwh (by rw [HACC.out]; exact hown2) hgr2 hwh2 HOK.out HFF.out.1 (fun b hb => by
                    rcases HFF.out.2 b hb with h' | h'
                    · exact Or.inl h'
                    · exact Or.inr ⟨by omega, h'.2⟩) (fun g hg => (hR4 g hg).2) (fun g hg => (hR5 g hg).2) (by have := HRL.out; omega))
                  have hs1 : wc.heap.size + 1 ≤ w5.heap.size := by have := hgr.size; simpa using this
                  have HX6 : Hid (Below w.heap.size w w6) := Lib.hid (((((HBXC.out.alloc HBXC.out.size _).grown hgr (by have := HBXC.out.size; simp; omega) (fun g hg => by have := (hR4 g hg).1; omega))).alloc (by have := HBXC.out.size; omega) _).grown hgr2 (by have := HBXC.out.size; simp; omega) (fun g hg => by have := (hR5 g hg).1; omega))
                  have HR6 : Hid (w6.heap[w.heap.size]? = some (.cells #[.int .i64 0, .int .i64 0, .int .u64 0, .string ⟨#[]⟩, .slice none 0 0, .slice none 0 0, .pointer none, .int .i64 0] 70 (0, 0))) := Lib.hid (by
                    rw [hgr2.block w.heap.size (by have := HLB.out; simp; omega) (fun e' => by have := (hR5 _ e'.symm).1; omega), Below.heap_alloc _ _ _ (by have := HLB.out; omega), hgr.block w.heap.size (by have := HLB.out; simp; omega) (fun e' => by have := (hR4 _ e'.symm).1; omega), Below.heap_alloc _ _ _ (by have := HLB.out; omega)]
                    exact HRBC.out)
                  have HL6 : Hid ((Z ++ [(⟨⟨xd, xi, xb, xt, xna, xnn, xnc, xka, xkn, xkc, xfp, xhv⟩, h, 1 + sizeOf' C⟩ : Mde)]).length = j + 1) := Lib.hid (by rw [List.length_append, HZL.out]; rfl)
                  clear hown hgr hwh hown2 hgr2 hwh2 hlt4 hlt5 hR4 hR5 hs1 hse
                  go_wp2
                  go_roundw
                  case rel => exact ⟨j + 1, _, F', _, _, p4, p5, by omega, rfl, rfl, rfl, HL6, HO6, HR6, HX6⟩
                  case measure => simp [intOf]; omega
              · have hnn2 : (5 : Int) < nn := by omega
                go_wp2_with (refine wpList_store_row rfl 70 _ _ rfl w.heap.size #[.int .i64 0, .int .i64 0, .int .u64 0, .string ⟨#[]⟩, .slice none 0 0, .slice none 0 0, .pointer none, .int .i64 0] rfl rfl 70 _ HRB.out (by kernel_rfl) rfl (by simp [Value.oneCell']) ?_)
                (try simp only [Exit.inBlock, Exit.then])
                exact bodyPost_ret (v := .tuple #[.agg #[.int .i64 0, .int .i64 0, .int .u64 0, .string ⟨#[]⟩, .slice none 0 0, .slice none 0 0, .pointer none, .int .i64 0], .bool false]) (results_6 (fn := Tryz.f28) (p := 2) (u := 3) rfl _ _ w.heap.size #[.int .i64 0, .int .i64 0, .int .u64 0, .string ⟨#[]⟩, .slice none 0 0, .slice none 0 0, .pointer none, .int .i64 0] rfl (setRow_heap _ _ _ _ _ _ HRB.out) rfl) rfl ⟨keep_set HBX.out (Nat.le_refl _), Or.inl rfl⟩
            · have hst2 : (30 : Int) < st.size := by omega
              go_wp2_with (refine wpList_store_row rfl 70 _ _ rfl w.heap.size #[.int .i64 0, .int .i64 0, .int .u64 0, .string ⟨#[]⟩, .slice none 0 0, .slice none 0 0, .pointer none, .int .i64 0] rfl rfl 70 _ HRB.out (by kernel_rfl) rfl (by simp [Value.oneCell']) ?_)
              (try simp only [Exit.inBlock, Exit.then])
              exact bodyPost_ret (v := .tuple #[.agg #[.int .i64 0, .int .i64 0, .int .u64 0, .string ⟨#[]⟩, .slice none 0 0, .slice none 0 0, .pointer none, .int .i64 0], .bool false]) (results_6 (fn := Tryz.f28) (p := 2) (u := 3) rfl _ _ w.heap.size #[.int .i64 0, .int .i64 0, .int .u64 0, .string ⟨#[]⟩, .slice none 0 0, .slice none 0 0, .pointer none, .int .i64 0] rfl (setRow_heap _ _ _ _ _ _ HRB.out) rfl) rfl ⟨keep_set HBX.out (Nat.le_refl _), Or.inl rfl⟩
          · have hN2 : (200 : Int) < acc := by omega
            go_wp2_with (refine wpList_store_row rfl 70 _ _ rfl w.heap.size #[.int .i64 0, .int .i64 0, .int .u64 0, .string ⟨#[]⟩, .slice none 0 0, .slice none 0 0, .pointer none, .int .i64 0] rfl rfl 70 _ HRB.out (by kernel_rfl) rfl (by simp [Value.oneCell']) ?_)
            (try simp only [Exit.inBlock, Exit.then])
            exact bodyPost_ret (v := .tuple #[.agg #[.int .i64 0, .int .i64 0, .int .u64 0, .string ⟨#[]⟩, .slice none 0 0, .slice none 0 0, .pointer none, .int .i64 0], .bool false]) (results_6 (fn := Tryz.f28) (p := 2) (u := 3) rfl _ _ w.heap.size #[.int .i64 0, .int .i64 0, .int .u64 0, .string ⟨#[]⟩, .slice none 0 0, .slice none 0 0, .pointer none, .int .i64 0] rfl (setRow_heap _ _ _ _ _ _ HRB.out) rfl) rfl ⟨keep_set HBX.out (Nat.le_refl _), Or.inl rfl⟩
    · obtain rfl : n = j := by omega
      obtain ⟨q, rfl⟩ : ∃ q, n = q + 1 := ⟨n - 1, by omega⟩
      have hjn2 : ¬ ((q + 1 : Nat) : Int) < ((q + 1 : Nat) : Int) := by omega
      have hzl : Z.length = q + 1 := HZL.out
      obtain ⟨e, he⟩ : ∃ e, Z[q]? = some e := ⟨_, List.getElem?_eq_getElem (by omega)⟩
      have hok := HOI.out.ok e (List.mem_of_getElem? he)
      obtain ⟨g4, rfl, hx⟩ : ∃ g4, a4 = some ⟨g4, 0, none⟩ ∧ ∀ i u, e.k.cells[i]? = some u → wr.cell? ⟨g4, q * 8 + i, none⟩ = some u := by
        rcases HOI.out.out.2 with ⟨-, h0⟩ | ⟨g4, cap, cur, e1, e2, e3, e4, e5, e6, e7⟩
        · omega
        · simp only [Value.slice.injEq] at e1
          obtain ⟨rfl, -, rfl⟩ := e1
          exact ⟨g4, rfl, fun i u hu => by
            rw [cell_of_row wr g4 _ _ 70 _ e3]
            exact row_at e7 (cellE (kRowK (kidsOf Z)) q (⟨#[]⟩, e.k) i u (kRowK_at _ _ _ (by unfold kidsOf; rw [List.getElem?_map, he]; rfl)) hu)⟩
      have HOK := Lib.hid hok
      obtain ⟨⟨xd, xi, xb, xt, xna, xnn, xnc, xka, xkn, xkc, xfp, xhv⟩, eh, en⟩ := e
      simp only at hx
      have d0 : wr.cell? ⟨g4, q * 8, none⟩ = some (.int .i64 xd) := hx 0 _ rfl
      have d1 : wr.cell? ⟨g4, q * 8 + 1, none⟩ = some (.int .i64 xi) := hx 1 _ rfl
      have d2 : wr.cell? ⟨g4, q * 8 + 2, none⟩ = some (.int .u64 xb) := hx 2 _ rfl
      have d3 : wr.cell? ⟨g4, q * 8 + 3, none⟩ = some (.string xt) := hx 3 _ rfl
      have d4 : wr.cell? ⟨g4, q * 8 + 4, none⟩ = some (.slice xna xnn xnc) := hx 4 _ rfl
      have d5 : wr.cell? ⟨g4, q * 8 + 5, none⟩ = some (.slice xka xkn xkc) := hx 5 _ rfl
      have d6 : wr.cell? ⟨g4, q * 8 + 6, none⟩ = some (.pointer xfp) := hx 6 _ rfl
      have d7 : wr.cell? ⟨g4, q * 8 + 7, none⟩ = some (.int .i64 xhv) := hx 7 _ rfl
      have hqw : IntKind.i64.wrap ((q : Int) + 1 - 1) = (q : Int) := by rw [IntKind.wrap_i64]; omega
      have hqw2 : ((q : Int) + 1 - 1) = (q : Int) := by omega
      clear hx he hok hzl hn0
      go_wp2_with (refine wpList_store_row rfl 70 _ _ rfl w.heap.size #[.int .i64 xd, .int .i64 xi, .int .u64 xb, .string xt, .slice xna xnn xnc, .slice xka xkn xkc, .pointer xfp, .int .i64 xhv] rfl rfl 70 _ HRB.out (by kernel_rfl) rfl (by simp [Value.oneCell']) ?_)
      (try simp only [Exit.inBlock, Exit.then])
      refine bodyPost_ret (v := .tuple #[.agg #[.int .i64 xd, .int .i64 xi, .int .u64 xb, .string xt, .slice xna xnn xnc, .slice xka xkn xkc, .pointer xfp, .int .i64 xhv], .bool true]) (results_6 (fn := Tryz.f28) (p := 2) (u := 3) rfl _ _ w.heap.size #[.int .i64 xd, .int .i64 xi, .int .u64 xb, .string xt, .slice xna xnn xnc, .slice xka xkn xkc, .pointer xfp, .int .i64 xhv] rfl (setRow_heap _ _ _ _ _ _ HRB.out) rfl) rfl ⟨keep_set HBX.out (Nat.le_refl _), Or.inr ⟨⟨xd, xi, xb, xt, xna, xnn, xnc, xka, xkn, xkc, xfp, xhv⟩, F, eh, rfl, HOK.out.vt.on (fun _ h => h) (fun b hb => setRow_other _ _ _ _ (by have := HOI.out.t28 b hb; omega)), fun b hb => by rw [setRow_size]; exact HOI.out.lt b hb, ?_, HOK.out.vs.elim fun v hv => ⟨v, hv.on (fun _ h => h) (fun b hb => setRow_other _ _ _ _ (by have := HOI.out.t28 b hb; omega))⟩⟩⟩
      have h1 := HOK.out.le
      have h2 := HOK.out.top
      simp only at h1 h2
      omega
end Go.Proofs.YtoakfninndkgaaaGreatDoor.Val
