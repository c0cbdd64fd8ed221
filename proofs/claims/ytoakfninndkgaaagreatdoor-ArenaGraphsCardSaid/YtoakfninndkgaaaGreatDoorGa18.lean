/- Walks: arena.Graph. Walks: arena.At. Walks: ref08.plain. Plain: the normal graph may be, and it is alike to the graph it is of. Plain: the worlds of Alike. Plain: a pair is struck. -/
import Derived.Test.YtoakfninndkgaaaGreatDoorGa17
set_option linter.unusedSimpArgs false
set_option linter.unusedVariables false
set_option linter.unusedVariables false
namespace Go.Proofs.YtoakfninndkgaaaGreatDoor
open Go.RowKit
theorem NPl.kids_lt {HS : List Hd} {cl : List Nat} {root : Nat} {ord : List Nat} {OS : List Hd} {KK : List Int} (h : NPl HS cl root ord OS KK) : ∀ x ∈ OS, ∀ k ∈ x.KS, 0 ≤ k ∧ k < (ord.length : Int) := by
  intro x hx k hk
  obtain ⟨i, hi⟩ := List.getElem?_of_mem hx
  obtain ⟨r, y, _, _, _, _, _, h6, h7⟩ := (h.heads i x hi).of
  rw [h6] at hk
  obtain ⟨z, hz, rfl⟩ := List.mem_map.1 hk
  obtain ⟨p, hp⟩ := Option.isSome_iff_exists.1 (h7 z hz)
  have := (List.getElem?_eq_some_iff.1 (idxN_some ord _ p hp)).1
  unfold posN
  rw [hp]
  simp
  omega
theorem GSt.start {w4 : World} {A base : Nat} {la : Option Addr} {ln lc : Nat} {most : Int} {ps : List Value} {OS : List Hd} (h : ArenaAt w4 A base la ln lc most ps) : GSt w4 w4 A base (Value.slice la ln lc).ownBlock la ln lc most ps OS [] where
  arena := by simpa using h
  le := Nat.zero_le _
  rel i x y _ h2 := by simp at h2
  heads y hy := by cases hy
  sep y hy := by cases hy
  ownp g e := .inl (by simpa [Value.ownBlock] using e)
  acts := Acts.refl _ _ _
theorem GSt.from' {w w2 wr : World} {A base : Nat} {own : Option Nat} {la' : Option Addr} {ln lc' : Nat} {most : Int} {ps : List Value} {OS YS : List Hd} (h : GSt w2 wr A base own la' ln lc' most ps OS YS) (hb : Below w.heap.size w w2) : GSt w wr A base own la' ln lc' most ps OS YS where
  arena := h.arena
  le := h.le
  rel := h.rel
  heads := h.heads
  sep := h.sep
  ownp g e := (h.ownp g e).imp id (Nat.le_trans hb.size)
  acts := ⟨h.acts.os.trans hb.os, h.acts.tape.trans hb.tape, h.acts.output.trans hb.output, Nat.le_trans hb.size h.acts.size, fun b h1 h2 h3 => (h.acts.block b (Nat.lt_of_lt_of_le h1 hb.size) h2 h3).trans (hb.block b h1)⟩
def GraphPost (w : World) (A base : Nat) (own : Option Nat) (ln : Nat) (most : Int) (ps : List Value) (HS : List Hd) (root : Nat) (e : Ending) (w' : World) : Prop := ∃ (la' : Option Addr) (lc' : Nat) (OS YS : List Hd) (cl ord : List Nat), e = .returned (.tuple #[.int .i64 (ln : Int), .int .i64 0]) ∧ GSt w w' A base own la' ln lc' most ps OS YS ∧ YS.length = OS.length ∧ cl.length = HS.length ∧ Stands HS cl ∧ Coarse HS cl ∧ NPl HS cl root ord OS [] ∧ OS.length = ord.length
set_option maxRecDepth 20000 in
set_option maxHeartbeats 8000000 in
theorem graph_ok (w : World) (A base : Nat) (la : Option Addr) (ln lc : Nat) (most : Int) (ps : List Value) (hA : ArenaAt w A base la ln lc most ps) (ga : Option Addr) (gn gc root : Nat) (HS : List Hd) (hH : HeadsIn w ga gn HS) (hf : HS.all fewH = true) (h1 : root < gn) (h25 : gn ≤ 100) (hg : graphB (root : Int) HS = true) (hnc : ∀ x ∈ HS, x.na = none → x.nc = 0) (hm : (ln : Int) + 100 ≤ most) (hmm : most ≤ 1048576) :
    Calls Tryz.prog 13 #[.pointer (some ⟨A, 0, none⟩), .agg #[.slice ga gn gc, .int .i64 (root : Int)]] w (GraphPost w A base (Value.slice la ln lc).ownBlock ln most ps HS root) := by
  have HA := Lib.hid hA
  have hb0 : Below w.heap.size w (w.alloc (.cells #[.slice ga gn gc, .int .i64 (root : Int)] 24)) := (Below.refl _ _).alloc (Nat.le_refl _) _
  have HB0 := Lib.hid hb0
  have HX1 : Hid ((w.alloc (.cells #[.slice ga gn gc, .int .i64 (root : Int)] 24)).heap[w.heap.size]? = some (.cells #[.slice ga gn gc, .int .i64 (root : Int)] 24 (0, 0))) := Lib.hid (heap_alloc_new w _)
  have HNR := Lib.hid (normal_ok _ ga gn gc root HS (hH.on hb0) hf h1 h25 hg hnc)
  have hlnm : (ln : Int) ≤ 1048576 := by omega
  have HAL : Hid (A < w.heap.size) := Lib.hid (Nat.lt_of_lt_of_le hA.lt hA.le)
  have HOWN : Hid (∀ g, (Value.slice la ln lc).ownBlock = some g → g < w.heap.size) := Lib.hid (fun g e => (hA.own.lt g e).2)
  clear hb0 hA hH hf hg hnc
  go_enter Tryz.func13, Tryz.ntmps13
  go_upto_region 1 with (fail)
  generalize (w.alloc (.cells #[.slice ga gn gc, .int .i64 (root : Int)] 24)) = w1 at *
  have hl1 : w.heap.size < w1.heap.size := (Array.getElem?_eq_some_iff.1 HX1.out).1
  have HL1 := Lib.hid hl1
  have a0 : w1.cell? ⟨w.heap.size, 0, none⟩ = some (.slice ga gn gc) := (by rw [cell_of_row _ _ 0 _ 24 _ HX1.out]; rfl)
  have a1 : w1.cell? ⟨w.heap.size, 1, none⟩ = some (.int .i64 (root : Int)) := (by rw [cell_of_row _ _ 1 _ 24 _ HX1.out]; rfl)
  go_upto_region 6 with (first
    | (go_at_call 36; (with_reducible refine HNR.out.mono ?_); rintro e w2 ⟨g2, c2, OS, cl, ord, rfl, hg3, hH3, hO3, hcl3, hst3, hco3, hnp3, hll3, hb3⟩; have HG3 := Lib.hid hg3; have HH3 := Lib.hid hH3; have HO3 := Lib.hid hO3; have HCL3 := Lib.hid hcl3; have HST3 := Lib.hid hst3; have HCO3 := Lib.hid hco3; have HNP3 := Lib.hid hnp3; have HLL3 := Lib.hid hll3; have HB3 := Lib.hid hb3; have HX3 := Lib.hid ((hb3.block _ HL1.out).trans HX1.out); clear hg3 hH3 hO3 hcl3 hst3 hco3 hnp3 hll3 hb3)
    | (refine wpList_store_row rfl 24 _ _ rfl w.heap.size _ rfl rfl 24 _ HX3.out (by kernel_rfl) rfl (by simp [Value.oneCell']) ?_))
  clear a0 a1 hl1
  have HSZ2 : Hid (w.heap.size < w2.heap.size) := Lib.hid (Nat.lt_of_lt_of_le HL1.out HB3.out.size)
  have HBB : Hid (Below w.heap.size w (w2.setRow w.heap.size #[.slice (some ⟨g2, 0, none⟩) OS.length c2, .int .i64 0])) := Lib.hid (below_row (HB0.out.trans (HB3.out.mono HB0.out.size)) (Nat.le_refl _))
  have HX4 : Hid ((w2.setRow w.heap.size #[.slice (some ⟨g2, 0, none⟩) OS.length c2, .int .i64 0]).heap[w.heap.size]? = some (.cells #[.slice (some ⟨g2, 0, none⟩) OS.length c2, .int .i64 0] 24 (0, 0))) := Lib.hid (setRow_heap _ _ _ _ _ _ HX3.out)
  have HH4 := Lib.hid (HH3.out.row w.heap.size #[.slice (some ⟨g2, 0, none⟩) OS.length c2, .int .i64 0] (by have := HG3.out; have := HL1.out; omega) (fun x hx ad e => by have := (HO3.out x hx).2.2 ad e; have := HL1.out; omega))
  generalize (w2.setRow w.heap.size #[.slice (some ⟨g2, 0, none⟩) OS.length c2, .int .i64 0]) = w3 at *
  have hol : OS.length ≤ 100 := by rw [HLL3.out]; exact nodup_len 100 ord HNP3.out.nodup HNP3.out.lt
  have hol2 : (OS.length : Int) ≤ 100 := by omega
  have HA3 := Lib.hid (HA.out.on HBB.out)
  have HR := Lib.hid (room_any w3 A la ln lc most (OS.length : Int) HA3.out.box (by simp only [maxLen]; omega) (by omega))
  rw [if_neg (show ¬ most < (ln : Int) + OS.length by omega)] at HR
  have b0 : w3.cell? ⟨w.heap.size, 0, none⟩ = some (.slice (some ⟨g2, 0, none⟩) OS.length c2) := (by rw [cell_of_row _ _ 0 _ 24 _ HX4.out]; rfl)
  go_upto_region 9 with (go_at_call 35; (with_reducible refine HR.out.mono ?_); rintro e w4 ⟨rfl, hb4⟩; have HB4 := Lib.hid hb4; clear hb4)
  clear b0
  have HL3 : Hid (w.heap.size < w3.heap.size) := Lib.hid (Array.getElem?_eq_some_iff.1 HX4.out).1
  have HX5 := Lib.hid ((HB4.out.block _ HL3.out).trans HX4.out)
  have HA4 := Lib.hid (HA3.out.on HB4.out)
  have HH5 := Lib.hid (HH4.out.on HB4.out)
  have HBW : Hid (Below w.heap.size w w4) := Lib.hid (HBB.out.trans (HB4.out.mono HBB.out.size))
  have HG0 := Lib.hid (GSt.start (OS := OS) HA4.out)
  have HSRC : Hid (∀ wr, Acts w4 wr A (Value.slice la ln lc).ownBlock → ∀ k x, OS[k]? = some x → HdIn wr g2 0 k x) := Lib.hid (fun wr ha k x hx => by
    rcases HH5.out.2 with r | ⟨g', o, e, hl, hc⟩
    · have := (List.getElem?_eq_some_iff.1 hx).1; omega
    · cases e
      obtain ⟨k0, k1, k2, k3, ok⟩ := hc k x hx
      have hg2 := HG3.out
      have hl1 := HL1.out
      have hal := HAL.out
      have hk : ∀ j, wr.cell? ⟨g2, j, none⟩ = w4.cell? ⟨g2, j, none⟩ := fun j => World.cell?_of_block (w := w4) (a := ⟨g2, j, none⟩) (ha.block g2 hl (by omega) (fun e => by have := HOWN.out g2 e; omega))
      exact ⟨(hk _).trans k0, (hk _).trans k1, (hk _).trans k2, (hk _).trans k3, hd_kept ok (fun ad e hlt => ha.block _ hlt (by have := (HO3.out x (List.mem_of_getElem? hx)).2.2 ad e; omega) (fun e2 => by have := HOWN.out _ e2; have := (HO3.out x (List.mem_of_getElem? hx)).2.2 ad e; omega)) ha.size⟩)
  have d0 : w4.cell? ⟨A, 0, none⟩ = some (.slice la ln lc) := (by rw [cell_of_row _ _ 0 _ 79 _ HA4.out.box]; rfl)
  have d1 : w4.cell? ⟨w.heap.size, 0, none⟩ = some (.slice (some ⟨g2, 0, none⟩) OS.length c2) := (by rw [cell_of_row _ _ 0 _ 24 _ HX5.out]; rfl)
  have HKB := Lib.hid HNP3.out.kids_lt
  go_upto_region 11 with (fail)
  clear d0 d1
  go_loopw [38] (fun s38 wr => ∃ (YS : List Hd) (la' : Option Addr) (lc' : Nat), s38 = .int .i64 (YS.length : Int) ∧ Hid (GSt w4 wr A base (Value.slice la ln lc).ownBlock la' ln lc' most ps OS YS)) (fun s38 _ => OS.length - (intOf s38).toNat)
  case atStart => exact ⟨[], la, lc, rfl, HG0⟩
  case round =>
    obtain ⟨YS, la', lc', rfl, HG⟩ := hrel
    obtain ⟨wi, rfl⟩ : ∃ wi : World, wi = wr := ⟨_, rfl⟩
    have hyl := HG.out.le
    have hwy : IntKind.i64.wrap ((YS.length : Int) + 1) = (YS.length : Int) + 1 := by rw [IntKind.wrap_i64]; omega
    by_cases hk : YS.length < OS.length
    · have hk2 : (YS.length : Int) < OS.length := by omega
      obtain ⟨x, hx⟩ : ∃ x, OS[YS.length]? = some x := ⟨_, List.getElem?_eq_getElem hk⟩
      have HX := Lib.hid hx
      have hin := HSRC.out wi HG.out.acts _ _ hx
      have HIN := Lib.hid hin.ok
      have HXN := Lib.hid (HO3.out x (List.mem_of_getElem? hx))
      have HKX := Lib.hid (HKB.out x (List.mem_of_getElem? hx))
      have b0 : wi.cell? ⟨g2, 0 + YS.length * 4, none⟩ = some (.int .i64 x.kd) := hin.c0
      have b1 : wi.cell? ⟨g2, 0 + YS.length * 4 + 1, none⟩ = some (.slice x.na x.nn x.nc) := hin.c1
      have b2 : wi.cell? ⟨g2, 0 + YS.length * 4 + 2, none⟩ = some (.slice x.ka x.kn x.kc) := hin.c2
      have b3 : wi.cell? ⟨g2, 0 + YS.length * 4 + 3, none⟩ = some (.bool x.op) := hin.c3
      rw [Nat.zero_add] at b0 b1 b2 b3
      clear hin hx
      have HY : Hid ((wi.alloc (.cells #[.int .i64 x.kd, .slice x.na x.nn x.nc, .slice x.ka x.kn x.kc, .bool x.op] 38)).heap[wi.heap.size]? = some (.cells #[.int .i64 x.kd, .slice x.na x.nn x.nc, .slice x.ka x.kn x.kc, .bool x.op] 38 (0, 0))) := Lib.hid (heap_alloc_new wi _)
      have HBY : Hid (Below wi.heap.size wi (wi.alloc (.cells #[.int .i64 x.kd, .slice x.na x.nn x.nc, .slice x.ka x.kn x.kc, .bool x.op] 38))) := Lib.hid ((Below.refl _ _).alloc (Nat.le_refl _) _)
      go_upto_region 13 with (fail)
      clear b0 b1 b2 b3
      obtain ⟨w6, hw6⟩ : ∃ w6, wi.alloc (.cells #[.int .i64 x.kd, .slice x.na x.nn x.nc, .slice x.ka x.kn x.kc, .bool x.op] 38) = w6 := ⟨_, rfl⟩
      rw [hw6] at HY HBY ⊢
      clear hw6
      have HYL : Hid (wi.heap.size < w6.heap.size) := Lib.hid (Array.getElem?_eq_some_iff.1 HY.out).1
      have c0 : w6.cell? ⟨wi.heap.size, 0, none⟩ = some (.int .i64 x.kd) := (by rw [cell_of_row _ _ 0 _ 38 _ HY.out]; rfl)
      have c1 : w6.cell? ⟨wi.heap.size, 1, none⟩ = some (.slice x.na x.nn x.nc) := (by rw [cell_of_row _ _ 1 _ 38 _ HY.out]; rfl)
      have c2 : w6.cell? ⟨wi.heap.size, 2, none⟩ = some (.slice x.ka x.kn x.kc) := (by rw [cell_of_row _ _ 2 _ 38 _ HY.out]; rfl)
      have c3 : w6.cell? ⟨wi.heap.size, 3, none⟩ = some (.bool x.op) := (by rw [cell_of_row _ _ 3 _ 38 _ HY.out]; rfl)
      have HCN := Lib.hid (clone_heado w6 x.kd x.na x.nn x.nc x.NS x.ka x.kn x.kc x.KS x.op (HIN.out.on HBY.out).names (HIN.out.on HBY.out).kids HIN.out.nnb (by have := HIN.out.knb; omega) HXN.out.1 HXN.out.2.1)
      go_upto_region 14 with (first
        | (go_at_call 37; (with_reducible refine HCN.out.mono ?_); rintro e w7 ⟨a7, c7, b7, d7, rfl, hn7, hk7, hap7, hza7, hzb7, hga7, hgb7, hb7⟩; have HN7 := Lib.hid hn7; have HK7 := Lib.hid hk7; have HAP7 := Lib.hid hap7; have HZA7 := Lib.hid hza7; have HZB7 := Lib.hid hzb7; have HGA7 := Lib.hid hga7; have HGB7 := Lib.hid hgb7; have HB7 := Lib.hid hb7; have HY7 := Lib.hid ((hb7.block _ HYL.out).trans HY.out); clear hn7 hk7 hap7 hza7 hzb7 hga7 hgb7 hb7)
        | (refine wpList_store_row rfl 38 _ _ rfl wi.heap.size _ rfl rfl 38 _ HY7.out (by kernel_rfl) rfl (by simp [Value.oneCell']) ?_))
      clear c0 c1 c2 c3
      have hkn := HIN.out.knb
      have hkn2 : (x.kn : Int) ≤ 1000 := by omega
      have HKN : Hid (x.kn = x.KS.length) := Lib.hid HIN.out.kids.1
      obtain ⟨w8, hw8⟩ : ∃ w8, w7.setRow wi.heap.size #[.int .i64 x.kd, .slice a7 x.nn c7, .slice b7 x.kn d7, .bool x.op] = w8 := ⟨_, rfl⟩
      have HB8 : Hid (Below wi.heap.size wi w8) := Lib.hid (by rw [← hw8]; exact below_row (HBY.out.trans (HB7.out.mono HBY.out.size)) (Nat.le_refl _))
      have HY8 : Hid (w8.heap[wi.heap.size]? = some (.cells #[.int .i64 x.kd, .slice a7 x.nn c7, .slice b7 x.kn d7, .bool x.op] 38 (0, 0))) := Lib.hid (by rw [← hw8]; exact setRow_heap _ _ _ _ _ _ HY7.out)
      have HN8 : Hid (NamesAt w8 a7 x.nn x.NS) := Lib.hid (by
        rw [← hw8]
        exact HN7.out.kept0 (fun ad e h0 hl => setRow_other _ _ _ _ (by have := HGA7.out ad e; have := HYL.out; omega)) (by rw [setRow_size]; exact Nat.le_refl _))
      have HK8 : Hid (w8.ownsRow w6.heap.size 3 1 (.slice b7 x.kn d7) x.kn ((shTo ln x.KS 0).map (Value.int .i64))) := Lib.hid (by
        rw [← hw8, shTo_zero]
        exact own_move HK7.out (fun g e => ⟨setRow_other _ _ _ _ (by have := (HK7.out.lt g e).1; have := HYL.out; omega), (HK7.out.lt g e).1⟩))
      rw [hw8]
      clear hw8
      have e2 : w8.cell? ⟨wi.heap.size, 2, none⟩ = some (.slice b7 x.kn d7) := (by rw [cell_of_row _ _ 2 _ 38 _ HY8.out]; rfl)
      go_upto_region 15 with (fail)
      clear e2
      go_loopw [47] (fun s47 wr => ∃ j : Nat, s47 = .int .i64 (j : Int) ∧ j ≤ x.kn ∧ Hid (wr.ownsRow w6.heap.size 3 1 (.slice b7 x.kn d7) x.kn ((shTo ln x.KS j).map (Value.int .i64))) ∧ Hid (w8.grownBy wr (Value.slice b7 x.kn d7).ownBlock)) (fun s47 _ => x.kn - (intOf s47).toNat)
      case atStart => exact ⟨0, rfl, Nat.zero_le _, HK8, Lib.hid (World.grownBy.refl _ _)⟩
      case round =>
        obtain ⟨j, rfl, hj, HKJ, HGJ⟩ := hrel
        obtain ⟨wj, rfl⟩ : ∃ wj : World, wj = wr := ⟨_, rfl⟩
        have hwj : IntKind.i64.wrap ((j : Int) + 1) = (j : Int) + 1 := by rw [IntKind.wrap_i64]; omega
        have HYJ : Hid (wj.heap[wi.heap.size]? = some (.cells #[.int .i64 x.kd, .slice a7 x.nn c7, .slice b7 x.kn d7, .bool x.op] 38 (0, 0))) := Lib.hid ((HGJ.out.block _ (Array.getElem?_eq_some_iff.1 HY8.out).1 (fun e => by have := (HKJ.out.lt _ e.symm).1; have := HYL.out; omega)).trans HY8.out)
        have e2 : wj.cell? ⟨wi.heap.size, 2, none⟩ = some (.slice b7 x.kn d7) := (by rw [cell_of_row _ _ 2 _ 38 _ HYJ.out]; rfl)
        by_cases hjk : j < x.kn
        · have hjk2 : (j : Int) < x.kn := by omega
          obtain ⟨q, hq⟩ : ∃ q, x.KS[j]? = some q := ⟨_, List.getElem?_eq_getElem (by rw [← HKN.out]; exact hjk)⟩
          have hqr := HKX.out q (List.mem_of_getElem? hq)
          have HSH := Lib.hid (shTo_set ln x.KS j q hq)
          have HSA := Lib.hid (shTo_at ln x.KS j q hq)
          obtain ⟨gb, cap, hbe, hgb, hgl⟩ := HKJ.out.form (by omega)
          have hwq : IntKind.i64.wrap (q + (ln : Int)) = q + (ln : Int) := by rw [IntKind.wrap_i64]; have := HLL3.out; omega
          rw [hbe] at HKJ e2 HGJ
          have kc : wj.cell? ⟨gb, j, none⟩ = some (.int .i64 q) := by
            rw [HKJ.out.cellAt j (by omega), List.getElem?_map, HSA.out]
            rfl
          have kf : wj.frozen? ⟨gb, j, none⟩ = false := HKJ.out.frozenAt j
          have HST := Lib.hid (HKJ.out.stored j (.int .i64 (q + (ln : Int))))
          rw [← List.map_set, HSH.out] at HST
          have HGN : Hid (w8.grownBy (wj.setCell ⟨gb, j, none⟩ (.int .i64 (q + (ln : Int)))) (some gb)) := Lib.hid ⟨HST.out.2.os.trans HGJ.out.os, HST.out.2.tape.trans HGJ.out.tape, HST.out.2.output.trans HGJ.out.output, Nat.le_trans HGJ.out.size HST.out.2.size, fun k h1 h2 => (HST.out.2.block k (Nat.lt_of_lt_of_le h1 HGJ.out.size) h2).trans (HGJ.out.block k h1 h2)⟩
          have HBE := Lib.hid hbe
          clear hq hbe
          go_wp2
          go_roundw
          case rel => exact ⟨j + 1, by go_num, by omega, Lib.hid (by rw [HBE.out]; exact HST.out.1), Lib.hid (by rw [HBE.out]; exact HGN.out)⟩
          case measure => simp [intOf]; omega
        · have hjk2 : ¬ (j : Int) < x.kn := by omega
          obtain rfl : j = x.kn := by omega
          have HBQ : Hid (Below wi.heap.size wi wj) := Lib.hid (below_grow HB8.out HGJ.out HB8.out.size (fun g e => by have := (HKJ.out.lt g e).1; have := HYL.out; omega))
          have HGQ := Lib.hid (HG.out.on HBQ.out)
          have HKF : Hid (wj.ownsRow w6.heap.size 3 1 (.slice b7 x.kn d7) x.kn ((x.KS.map (· + (ln : Int))).map (Value.int .i64))) := Lib.hid (by have h9 := HKJ.out; rw [HKN.out, shTo_all, ← HKN.out] at h9; exact h9)
          have HKI := Lib.hid (own_ints HKF.out)
          have HNQ : Hid (NamesAt wj a7 x.nn x.NS) := Lib.hid (HN8.out.kept0 (fun ad e h0 hl => HGJ.out.block _ hl (fun e2 => by
            cases b7 with
            | none => cases e2
            | some bd => exact HAP7.out ad bd e h0 rfl (by simpa [Value.ownBlock] using e2))) HGJ.out.size)
          have HYO : Hid (HdOk wj ⟨x.kd, a7, x.nn, c7, x.NS, b7, x.kn, d7, x.KS.map (· + (ln : Int)), x.op⟩) := Lib.hid ⟨HNQ.out, HKI.out, HIN.out.nnb, HIN.out.knb, HIN.out.small⟩
          have HOWI : Hid (∀ g, (Value.slice la' (ln + YS.length) lc').ownBlock = some g → g < wi.heap.size) := Lib.hid (fun g e => (HG.out.arena.own.lt g e).2)
          have HBS : Hid (base ≤ wi.heap.size) := Lib.hid HG.out.arena.le
          have HYS : Hid (∀ ad, blkOf ⟨x.kd, a7, x.nn, c7, x.NS, b7, x.kn, d7, x.KS.map (· + (ln : Int)), x.op⟩ ad → base ≤ ad.block ∧ ad.block < wj.heap.size ∧ (Value.slice la' (ln + YS.length) lc').ownBlock ≠ some ad.block) := Lib.hid (fun ad e => by
            have hyl := HYL.out
            have hbs := HBS.out
            rcases e with ⟨e, h0⟩ | ⟨e, h0⟩
            · have h3 := HGA7.out ad e
              refine ⟨by omega, ?_, fun e2 => by have := HOWI.out _ e2; omega⟩
              rcases HNQ.out.2 with r | ⟨g, o, e2, hl, _⟩
              · exact absurd r h0
              · rw [e2] at e; cases e; exact hl
            · have h3 := HGB7.out ad e
              refine ⟨by omega, ?_, fun e2 => by have := HOWI.out _ e2; omega⟩
              rcases HKI.out.2 with r | ⟨g, o, e2, hl, _⟩
              · exact absurd r h0
              · rw [e2] at e; cases e; exact hl)
          have HMV : Hid (Moved ln x ⟨x.kd, a7, x.nn, c7, x.NS, b7, x.kn, d7, x.KS.map (· + (ln : Int)), x.op⟩) := Lib.hid ⟨rfl, rfl, rfl, rfl⟩
          have HDR : Hid (Below wj.heap.size wj wj.drew) := Lib.hid (Below.refl _ _).drew
          have HARR := Lib.hid HGQ.out.arena
          have HOD : Hid (wj.drew.ownsRow base 83 9 (.slice la' (ln + YS.length) lc') (ln + YS.length) (ps ++ YS.flatMap pcells)) := Lib.hid (ownsRow_mono HARR.out.own (fun g hg => HDR.out.block g (HARR.out.own.lt g hg).2))
          obtain ⟨i0, hi9, hz0, hz1, hz2⟩ := info_parts Tryz.info83
          have HI := Lib.hid hi9
          have HI0 := Lib.hid hz0
          have HI1 := Lib.hid hz1
          have HI2 := Lib.hid hz2
          have HLE : Hid (base ≤ (wj.drew.alloc (.cells #[.int .i64 x.kd, .slice a7 x.nn c7, .slice b7 x.kn d7, .bool x.op, .bool false, .int .i64 0, .slice none 0 0, .slice none 0 0, .map none] 83)).heap.size) := Lib.hid (by have := HARR.out.le; have := HDR.out.size; simp; omega)
          have HONE : Hid (∀ u ∈ ([.int .i64 x.kd, .slice a7 x.nn c7, .slice b7 x.kn d7, .bool x.op, .bool false, .int .i64 0, .slice none 0 0, .slice none 0 0, .map none] : List Value), u.oneCell' = true) := Lib.hid (by
            intro u hu
            simp only [List.mem_cons, List.not_mem_nil, or_false] at hu
            rcases hu with rfl | rfl | rfl | rfl | rfl | rfl | rfl | rfl | rfl <;> rfl)
          have HBX : Hid (∀ w5' : World, (wj.drew.alloc (.cells #[.int .i64 x.kd, .slice a7 x.nn c7, .slice b7 x.kn d7, .bool x.op, .bool false, .int .i64 0, .slice none 0 0, .slice none 0 0, .map none] 83)).grownBy w5' (Value.slice la' (ln + YS.length) lc').ownBlock → w5'.heap[A]? = some (.cells #[.slice la' (ln + YS.length) lc', .int .i64 most] 79 (0, 0))) := Lib.hid (fun w5' hg => by
            have hs := HARR.out.le
            have hl := HARR.out.lt
            have hds := HDR.out.size
            rw [hg.block A (by simp; omega) (fun e => by have := ownsRow_ge HARR.out.own A e.symm; omega), Below.heap_alloc _ _ _ (by omega), HDR.out.block A (by omega)]
            exact HARR.out.box)
          have q0 : wj.cell? ⟨A, 0, none⟩ = some (.slice la' (ln + YS.length) lc') := (by rw [cell_of_row _ _ 0 _ 79 _ HARR.out.box]; rfl)
          have q1 : (wj.alloc (.cells #[.int .i64 x.kd, .slice a7 x.nn c7, .slice b7 x.kn d7, .bool x.op, .bool false, .int .i64 0, .slice none 0 0, .slice none 0 0, .map none] 83)).cell? ⟨A, 0, none⟩ = some (.slice la' (ln + YS.length) lc') := (by rw [cell_of_row _ _ 0 _ 79 _ ((Below.heap_alloc _ _ _ (by have := HARR.out.le; have := HARR.out.lt; omega)).trans HARR.out.box)]; rfl)
          have p0 : wj.cell? ⟨wi.heap.size, 0, none⟩ = some (.int .i64 x.kd) := (by rw [cell_of_row _ _ 0 _ 38 _ HYJ.out]; rfl)
          have p1 : wj.cell? ⟨wi.heap.size, 1, none⟩ = some (.slice a7 x.nn c7) := (by rw [cell_of_row _ _ 1 _ 38 _ HYJ.out]; rfl)
          have p3 : wj.cell? ⟨wi.heap.size, 3, none⟩ = some (.bool x.op) := (by rw [cell_of_row _ _ 3 _ 38 _ HYJ.out]; rfl)
          clear hi9 hz0 hz1 hz2
          go_upto_region 19 with (fail)
          go_region_law
            (first
              | (refine step_append_lies (wj.drew.alloc (.cells #[.int .i64 x.kd, .slice a7 x.nn c7, .slice b7 x.kn d7, .bool x.op, .bool false, .int .i64 0, .slice none 0 0, .slice none 0 0, .map none] 83)) rfl _ _ 77 rfl base 83 i0 (.agg #[.int .i64 0, .slice none 0 0, .slice none 0 0, .bool false, .bool false, .int .i64 0, .slice none 0 0, .slice none 0 0, .map none]) 9 136 Tryz.underlying77 HI.out HI0.out HI1.out HI2.out rfl (by decide) (.slice la' (ln + YS.length) lc') (ln + YS.length) (ps ++ YS.flatMap pcells) rfl (HOD.out.alloc _) ⟨wj.heap.size, 0, none⟩ 1 1 [.int .i64 x.kd, .slice a7 x.nn c7, .slice b7 x.kn d7, .bool x.op, .bool false, .int .i64 0, .slice none 0 0, .slice none 0 0, .map none] rfl rfl (news_of (heap_alloc_new wj.drew _)) HONE.out (by decide) (by unfold maxLen; omega) (by omega) HLE.out _ rfl ?_; intro g5 cc5 w6' hown5 hgr5 hat5 hlt5; have hA5 := HBX.out w6' hgr5; have a5 : w6'.cell? ⟨A, 0, none⟩ = some (.slice la' (ln + YS.length) lc') := (by rw [cell_of_row _ _ 0 _ 79 _ hA5]; rfl); have f5 : w6'.frozen? ⟨A, 0, none⟩ = false := frozen_of_row _ _ 0 _ 79 hA5; have HSTEP := Lib.hid (HGQ.out.step HX.out HMV.out HYO.out ⟨HZA7.out, HZB7.out⟩ HYS.out HDR.out hgr5 hown5 hat5); clear hA5 hlt5 hown5 hgr5 hat5)
              | fail)
          all_goals
            clear a5 f5 q0 q1 p0 p1 p3 e2
            go_wp2
            go_roundw
            case rel => exact ⟨YS ++ [⟨x.kd, a7, x.nn, c7, x.NS, b7, x.kn, d7, x.KS.map (· + (ln : Int)), x.op⟩], some ⟨g5, 0, none⟩, cc5, by simp, HSTEP⟩
            case measure => simp [intOf]; omega
    · have hk2 : ¬ (YS.length : Int) < OS.length := by omega
      have hyo : YS.length = OS.length := by omega
      have HYO := Lib.hid hyo
      clear hyo
      go_wp2
      go_ret2
      exact ⟨la', lc', OS, YS, cl, ord, rfl, HG.out.from' HBW.out, HYO.out, HCL3.out, HST3.out, HCO3.out, HNP3.out, HLL3.out⟩
end Go.Proofs.YtoakfninndkgaaaGreatDoor
set_option linter.unusedVariables false
namespace Go.Proofs.YtoakfninndkgaaaGreatDoor
open Go.RowKit
theorem results_38 {fn : Func} {p u : Tmp} (h : fn.results = #[.cell p 38, .tmp u]) (tmps : Array Value) (w : World) (g : Nat) (cs : Array Value) (hp : tmps.getD p undef = .pointer (some ⟨g, 0, none⟩)) (hg : w.heap[g]? = some (.cells cs 38 (0, 0))) (hs : cs.size = 4) :
    (results fn tmps).run Tryz.prog w = .ok (.tuple #[.agg cs, tmps.getD u undef]) w := by
  have hi2 : (Tryz.prog.info? 38).map (·.size) = some cs.size := by rw [hs]; kernel_rfl
  rw [results_cell_tmp h, hp]
  simp [asAddr, run_loadVar_row w g 38 38 cs (0, 0) _ hg Tryz.underlying38 rfl hi2]
def AtPost (w : World) (y : Hd) (e : Ending) (w' : World) : Prop :=
  ∃ a' c' b' d', e = .returned (.tuple #[.agg #[.int .i64 y.kd, .slice a' y.nn c', .slice b' y.kn d', .bool y.op], .bool true]) ∧ NamesAt w' a' y.nn y.NS ∧ w'.ownsRow w.heap.size 3 1 (.slice b' y.kn d') y.kn (y.KS.map (Value.int .i64)) ∧ (∀ ad bd, a' = some ad → y.nn ≠ 0 → b' = some bd → ad.block ≠ bd.block) ∧ (a' = none → c' = 0) ∧ (b' = none → d' = 0) ∧ (∀ ad, a' = some ad → w.heap.size ≤ ad.block) ∧ (∀ ad, b' = some ad → w.heap.size ≤ ad.block) ∧ Below w.heap.size w w'
set_option maxRecDepth 20000 in
set_option maxHeartbeats 4000000 in
theorem at_ok (w : World) (A base : Nat) (la : Option Addr) (ln lc : Nat) (most : Int) (ps : List Value) (i : Nat) (y : Hd) (hA : ArenaAt w A base la ln lc most ps) (hi : i < ln) (hp : ∀ j, j < 9 → ps[i * 9 + j]? = (pcells y)[j]?) (hy : HdOk w y) (hyn : (y.na = none → y.nc = 0) ∧ (y.ka = none → y.kc = 0)) (hln : ln ≤ maxLen) :
    Calls Tryz.prog 14 #[.pointer (some ⟨A, 0, none⟩), .int .i64 (i : Int)] w (AtPost w y) := by
  have hb0 : Below w.heap.size w (w.alloc (.cells #[.int .i64 0, .slice none 0 0, .slice none 0 0, .bool false] 38)) := (Below.refl _ _).alloc (Nat.le_refl _) _
  have HB0 := Lib.hid hb0
  have HX0 : Hid ((w.alloc (.cells #[.int .i64 0, .slice none 0 0, .slice none 0 0, .bool false] 38)).heap[w.heap.size]? = some (.cells #[.int .i64 0, .slice none 0 0, .slice none 0 0, .bool false] 38 (0, 0))) := Lib.hid (heap_alloc_new w _)
  have HA1 := Lib.hid (hA.on hb0)
  have HT := Lib.hid (there_any _ A la ln lc most (i : Int) HA1.out.box)
  have hi2 : (i : Int) < ln := by omega
  have hi3 : (decide (0 ≤ (i : Int)) && decide ((i : Int) < ln)) = true := by simp [hi2]
  rw [hi3] at HT
  have HCN := Lib.hid (clone_heado (w.alloc (.cells #[.int .i64 0, .slice none 0 0, .slice none 0 0, .bool false] 38)) y.kd y.na y.nn y.nc y.NS y.ka y.kn y.kc y.KS y.op (hy.on hb0).names (hy.on hb0).kids hy.nnb (by have := hy.knb; omega) hyn.1 hyn.2)
  obtain ⟨g, cap, hla, hge, hgl⟩ := HA1.out.own.form (by omega)
  cases hla
  have hc : ∀ j, j < 9 → (w.alloc (.cells #[.int .i64 0, .slice none 0 0, .slice none 0 0, .bool false] 38)).cell? ⟨g, i * 9 + j, none⟩ = (pcells y)[j]? := fun j hj => by
    rw [HA1.out.own.cellAt (i * 9 + j) (by omega)]
    exact hp j hj
  have k0 := hc 0 (by omega)
  have k1 := hc 1 (by omega)
  have k2 := hc 2 (by omega)
  have k3 := hc 3 (by omega)
  have k4 := hc 4 (by omega)
  simp only [pcells, List.getElem?_cons_zero, List.getElem?_cons_succ, Nat.add_zero] at k0 k1 k2 k3 k4
  clear hA hp hy hyn hb0 hc hgl hge
  go_enter Tryz.func14, Tryz.ntmps14
  go_upto_region 1 with (fail)
  generalize (w.alloc (.cells #[.int .i64 0, .slice none 0 0, .slice none 0 0, .bool false] 38)) = w1 at *
  have HL1 : Hid (w.heap.size < w1.heap.size) := Lib.hid (Array.getElem?_eq_some_iff.1 HX0.out).1
  have a0 : w1.cell? ⟨A, 0, none⟩ = some (.slice (some ⟨g, 0, none⟩) ln lc) := (by rw [cell_of_row _ _ 0 _ 79 _ HA1.out.box]; rfl)
  go_upto_region 3 with (go_at_call 38; (with_reducible refine HT.out.mono ?_); rintro e w2 ⟨rfl, rfl⟩)
  go_wp2_with (first
    | (go_at_call 37; (with_reducible refine HCN.out.mono ?_); rintro e w7 ⟨a7, c7, b7, d7, rfl, hn7, hk7, hap7, hza7, hzb7, hga7, hgb7, hb7⟩; have HN7 := Lib.hid hn7; have HK7 := Lib.hid hk7; have HAP7 := Lib.hid hap7; have HZA7 := Lib.hid hza7; have HZB7 := Lib.hid hzb7; have HGA7 := Lib.hid hga7; have HGB7 := Lib.hid hgb7; have HB7 := Lib.hid hb7; have HX7 := Lib.hid ((hb7.block _ HL1.out).trans HX0.out); clear hn7 hk7 hap7 hza7 hzb7 hga7 hgb7 hb7)
    | (refine wpList_store_row rfl 38 _ _ rfl w.heap.size _ rfl rfl 38 _ HX7.out (by kernel_rfl) rfl (by simp [Value.oneCell']) ?_))
  (try simp only [Exit.inBlock, Exit.then])
  exact bodyPost_ret (v := .tuple #[.agg #[.int .i64 y.kd, .slice a7 y.nn c7, .slice b7 y.kn d7, .bool y.op], .bool true]) (results_38 (fn := Tryz.f14) (p := 4) (u := 5) rfl _ _ w.heap.size _ rfl (setRow_heap _ _ _ _ _ _ HX7.out) rfl) rfl
    ⟨a7, c7, b7, d7, rfl, HN7.out.kept0 (fun ad e h0 hl => setRow_other _ _ _ _ (by have := HGA7.out ad e; have := HL1.out; omega)) (by rw [setRow_size]; exact Nat.le_refl _),
      own_move HK7.out (fun g e => by have h3 := (HK7.out.lt g e).1; have h4 := HL1.out; exact ⟨setRow_other _ _ _ _ (by omega), by omega⟩), HAP7.out, HZA7.out, HZB7.out,
      fun ad e => Nat.le_trans (Nat.le_of_lt HL1.out) (HGA7.out ad e), fun ad e => Nat.le_trans (Nat.le_of_lt HL1.out) (HGB7.out ad e), below_row (HB0.out.trans (HB7.out.mono HB0.out.size)) (Nat.le_refl _)⟩
end Go.Proofs.YtoakfninndkgaaaGreatDoor
set_option linter.unusedVariables false
namespace Go.Proofs.YtoakfninndkgaaaGreatDoor
open Go.RowKit
/-- two heads are the same by themselves. -/
def Pl (x y : Hd) : Prop := x.kd = y.kd ∧ x.op = y.op ∧ x.NS = y.NS ∧ x.KS.length = y.KS.length
def PlainPost (w : World) (x y : Hd) (e : Ending) (w' : World) : Prop := ∃ b : Bool, e = .returned (.bool b) ∧ (b = true ↔ Pl x y) ∧ Below w.heap.size w w'
theorem plain_no {w w' : World} {x y : Hd} (h : ¬ Pl x y) (hb : Below w.heap.size w w') : PlainPost w x y (.returned (.bool false)) w' := ⟨false, rfl, ⟨fun e => (by cases e), fun e => absurd e h⟩, hb⟩
set_option maxRecDepth 20000 in
set_option maxHeartbeats 4000000 in
theorem plain_any (w : World) (x y : Hd) (hx : HdOk w x) (hy : HdOk w y) :
    Calls Tryz.prog 44 #[.agg #[.int .i64 x.kd, .slice x.na x.nn x.nc, .slice x.ka x.kn x.kc, .bool x.op], .agg #[.int .i64 y.kd, .slice y.na y.nn y.nc, .slice y.ka y.kn y.kc, .bool y.op]] w (PlainPost w x y) := by
  have hb0 : Below w.heap.size w (w.alloc (.cells #[.int .i64 x.kd, .slice x.na x.nn x.nc, .slice x.ka x.kn x.kc, .bool x.op] 38)) := (Below.refl _ _).alloc (Nat.le_refl _) _
  have HB0 : Hid (Below w.heap.size w ((w.alloc (.cells #[.int .i64 x.kd, .slice x.na x.nn x.nc, .slice x.ka x.kn x.kc, .bool x.op] 38)).alloc (.cells #[.int .i64 y.kd, .slice y.na y.nn y.nc, .slice y.ka y.kn y.kc, .bool y.op] 38))) := Lib.hid (hb0.alloc hb0.size _)
  have HX1 : Hid (((w.alloc (.cells #[.int .i64 x.kd, .slice x.na x.nn x.nc, .slice x.ka x.kn x.kc, .bool x.op] 38)).alloc (.cells #[.int .i64 y.kd, .slice y.na y.nn y.nc, .slice y.ka y.kn y.kc, .bool y.op] 38)).heap[w.heap.size]? = some (.cells #[.int .i64 x.kd, .slice x.na x.nn x.nc, .slice x.ka x.kn x.kc, .bool x.op] 38 (0, 0))) := Lib.hid (by rw [Below.heap_alloc _ _ _ (by simp)]; exact heap_alloc_new w _)
  have HX2 : Hid (((w.alloc (.cells #[.int .i64 x.kd, .slice x.na x.nn x.nc, .slice x.ka x.kn x.kc, .bool x.op] 38)).alloc (.cells #[.int .i64 y.kd, .slice y.na y.nn y.nc, .slice y.ka y.kn y.kc, .bool y.op] 38)).heap[w.heap.size + 1]? = some (.cells #[.int .i64 y.kd, .slice y.na y.nn y.nc, .slice y.ka y.kn y.kc, .bool y.op] 38 (0, 0))) := Lib.hid (by
    have := heap_alloc_new (w.alloc (.cells #[.int .i64 x.kd, .slice x.na x.nn x.nc, .slice x.ka x.kn x.kc, .bool x.op] 38)) (.cells #[.int .i64 y.kd, .slice y.na y.nn y.nc, .slice y.ka y.kn y.kc, .bool y.op] 38)
    simpa using this)
  have HNX := Lib.hid (hx.names.on HB0.out)
  have HNY := Lib.hid (hy.names.on HB0.out)
  have HKX := Lib.hid hx.kids.1
  have HKY := Lib.hid hy.kids.1
  have hnn : (x.nn : Int) ≤ 100000 := by have := hx.nnb; omega
  clear hb0 hx hy
  go_enter Tryz.func44, Tryz.ntmps44
  go_upto_region 1 with (fail)
  generalize ((w.alloc (.cells #[.int .i64 x.kd, .slice x.na x.nn x.nc, .slice x.ka x.kn x.kc, .bool x.op] 38)).alloc (.cells #[.int .i64 y.kd, .slice y.na y.nn y.nc, .slice y.ka y.kn y.kc, .bool y.op] 38)) = w1 at *
  have a0 : w1.cell? ⟨w.heap.size, 0, none⟩ = some (.int .i64 x.kd) := (by rw [cell_of_row _ _ 0 _ 38 _ HX1.out]; rfl)
  have a1 : w1.cell? ⟨w.heap.size, 1, none⟩ = some (.slice x.na x.nn x.nc) := (by rw [cell_of_row _ _ 1 _ 38 _ HX1.out]; rfl)
  have a2 : w1.cell? ⟨w.heap.size, 2, none⟩ = some (.slice x.ka x.kn x.kc) := (by rw [cell_of_row _ _ 2 _ 38 _ HX1.out]; rfl)
  have a3 : w1.cell? ⟨w.heap.size, 3, none⟩ = some (.bool x.op) := (by rw [cell_of_row _ _ 3 _ 38 _ HX1.out]; rfl)
  have b0 : w1.cell? ⟨w.heap.size + 1, 0, none⟩ = some (.int .i64 y.kd) := (by rw [cell_of_row _ _ 0 _ 38 _ HX2.out]; rfl)
  have b1 : w1.cell? ⟨w.heap.size + 1, 1, none⟩ = some (.slice y.na y.nn y.nc) := (by rw [cell_of_row _ _ 1 _ 38 _ HX2.out]; rfl)
  have b2 : w1.cell? ⟨w.heap.size + 1, 2, none⟩ = some (.slice y.ka y.kn y.kc) := (by rw [cell_of_row _ _ 2 _ 38 _ HX2.out]; rfl)
  have b3 : w1.cell? ⟨w.heap.size + 1, 3, none⟩ = some (.bool y.op) := (by rw [cell_of_row _ _ 3 _ 38 _ HX2.out]; rfl)
  by_cases hk : x.kd = y.kd
  · have HK := Lib.hid hk
    rw [hk] at a0
    clear hk
    by_cases ho : x.op = y.op
    · have HO := Lib.hid ho
      rw [ho] at a3
      clear ho
      by_cases hn : x.nn = y.nn
      · have HN := Lib.hid hn
        have hn2 : ((x.nn : Int) != (y.nn : Int)) = false := by simp [hn]
        by_cases hm : x.kn = y.kn
        · have HM := Lib.hid hm
          have hm2 : ((x.kn : Int) != (y.kn : Int)) = false := by simp [hm]
          rw [hm] at a2
          rw [hn] at a1
          clear hn hm hn2 hm2
          go_wp2
          have hny : (y.nn : Int) ≤ 100000 := by have := HN.out; omega
          go_loopw [39] (fun s39 wr => ∃ j : Nat, s39 = .int .i64 (j : Int) ∧ j ≤ y.nn ∧ Hid (∀ q, q < j → x.NS[q]? = y.NS[q]?) ∧ Hid (Below w1.heap.size w1 wr)) (fun s39 _ => y.nn - (intOf s39).toNat)
          case atStart => exact ⟨0, rfl, Nat.zero_le _, Lib.hid (fun q hq => by omega), Lib.hid (Below.refl _ _)⟩
          case round =>
            obtain ⟨j, rfl, hj, HQ, HBR⟩ := hrel
            obtain ⟨wj, rfl⟩ : ∃ wj : World, wj = wr := ⟨_, rfl⟩
            have hwj : IntKind.i64.wrap ((j : Int) + 1) = (j : Int) + 1 := by rw [IntKind.wrap_i64]; omega
            have HL1 : Hid (w.heap.size + 1 < w1.heap.size) := Lib.hid (Array.getElem?_eq_some_iff.1 HX2.out).1
            by_cases hjn : j < y.nn
            · have hjn2 : (j : Int) < y.nn := by omega
              have hjx : j < x.nn := by rw [HN.out]; exact hjn
              obtain ⟨s, hs⟩ : ∃ s, x.NS[j]? = some s := ⟨_, List.getElem?_eq_getElem (by rw [← HNX.out.1]; exact hjx)⟩
              obtain ⟨t, ht⟩ : ∃ t, y.NS[j]? = some t := ⟨_, List.getElem?_eq_getElem (by rw [← HNY.out.1]; exact hjn)⟩
              obtain ⟨gx, ox, ex, hgx, hcx⟩ := HNX.out.2.resolve_left (by omega)
              obtain ⟨gy, oy, ey, hgy, hcy⟩ := HNY.out.2.resolve_left (by omega)
              have cx : wj.cell? ⟨gx, ox + j, none⟩ = some (.string s) := keepB HBR.out hgx (hcx j s hs)
              have cy : wj.cell? ⟨gy, oy + j, none⟩ = some (.string t) := keepB HBR.out hgy (hcy j t ht)
              have d1 : wj.cell? ⟨w.heap.size, 1, none⟩ = some (.slice (some ⟨gx, ox, none⟩) y.nn x.nc) := by rw [← ex]; exact keepB HBR.out (Nat.lt_of_succ_lt HL1.out) a1
              have d2 : wj.cell? ⟨w.heap.size + 1, 1, none⟩ = some (.slice (some ⟨gy, oy, none⟩) y.nn y.nc) := by rw [← ey]; exact keepB HBR.out HL1.out b1
              have HS := Lib.hid hs
              have HT := Lib.hid ht
              have HDR : Hid (Below w1.heap.size w1 wj.drew) := Lib.hid (HBR.out.trans (((Below.refl _ _).drew : Below wj.heap.size wj wj.drew).mono HBR.out.size))
              clear hs ht hcx hcy hgx hgy ex ey
              by_cases he : s = t
              · have hts : (s.toList == t.toList) = true := by simp [he]
                have HE := Lib.hid he
                rw [he] at cx
                clear he hts
                go_upto_region 6 with (fail)
                go_region
                go_wp2
                go_roundw
                case rel => exact ⟨j + 1, by go_num, by omega, Lib.hid (fun q hq => by
                  rcases Nat.lt_or_ge q j with h9 | h9
                  · exact HQ.out q h9
                  · obtain rfl : q = j := by omega
                    rw [HS.out, HT.out, HE.out]), HDR⟩
                case measure => simp [intOf]; omega
              · have hts : (s.toList == t.toList) = false := by
                  cases hh : (s.toList == t.toList) with
                  | false => rfl
                  | true => exact absurd (toList_inj (by simpa using hh)) he
                have HM' : Hid (¬ Pl x y) := Lib.hid (fun h => he (by have h9 := HS.out; rw [h.2.2.1, HT.out] at h9; cases h9; rfl))
                go_upto_region 6 with (fail)
                go_region
                go_wp2
                go_ret
                exact plain_no HM'.out (HB0.out.trans (HDR.out.mono HB0.out.size))
            · have hjn2 : ¬ (j : Int) < y.nn := by omega
              obtain rfl : j = y.nn := by omega
              have HP : Hid (Pl x y) := Lib.hid ⟨HK.out, HO.out, List.ext_getElem? (fun q => by
                rcases Nat.lt_or_ge q y.nn with h9 | h9
                · exact HQ.out q h9
                · rw [List.getElem?_eq_none (by rw [← HNX.out.1, HN.out]; exact h9), List.getElem?_eq_none (by rw [← HNY.out.1]; exact h9)]), by rw [← HKX.out, ← HKY.out]; exact HM.out⟩
              go_wp2
              go_ret
              exact ⟨true, rfl, ⟨fun _ => HP.out, fun _ => rfl⟩, HB0.out.trans (HBR.out.mono HB0.out.size)⟩
        · have hm2 : ((x.kn : Int) != (y.kn : Int)) = true := by simp; omega
          rw [hn] at a1
          have HM : Hid (¬ Pl x y) := Lib.hid (fun h => hm (by rw [HKX.out, HKY.out]; exact h.2.2.2))
          have hm3 : ¬ (x.kn : Int) = y.kn := by omega
          clear hn hm hn2
          go_wp2
          go_ret
          exact plain_no HM.out HB0.out
      · have hn3 : ¬ (x.nn : Int) = y.nn := by omega
        have HM : Hid (¬ Pl x y) := Lib.hid (fun h => hn (by rw [HNX.out.1, HNY.out.1, h.2.2.1]))
        clear hn
        go_wp2
        go_ret
        exact plain_no HM.out HB0.out
    · have HM : Hid (¬ Pl x y) := Lib.hid (fun h => ho h.2.1)
      have ho2 : (x.op == y.op) = false := by simpa using ho
      go_wp2
      go_ret
      exact plain_no HM.out HB0.out
  · have HM : Hid (¬ Pl x y) := Lib.hid (fun h => hk h.1)
    go_wp2
    go_ret
    exact plain_no HM.out HB0.out
end Go.Proofs.YtoakfninndkgaaaGreatDoor
set_option linter.unusedVariables false
namespace Go.Proofs.YtoakfninndkgaaaGreatDoor
open Go.RowKit
theorem headB_move {kd : Int} {op : Bool} {n n' : Int} {NS : List ByteArray} {KS KS' : List Int} (h : headB kd op n NS KS = true) (hl : KS'.length = KS.length) (hk : ∀ k ∈ KS', 0 ≤ k ∧ k < n') : headB kd op n' NS KS' = true := by
  unfold headB at h ⊢
  simp only [Bool.and_eq_true, List.all_eq_true, decide_eq_true_eq] at h ⊢
  exact ⟨⟨h.1.1, fun k hm => hk k hm⟩, by rw [hl]; exact h.2⟩
/-- two rows of heads and a relation between their numbers that stands under the kids. -/
structure Rel2 (XS HS : List Hd) (R : Nat → Nat → Prop) : Prop where
  pl : ∀ i k x h, XS[i]? = some x → HS[k]? = some h → R i k → Pl x h
  kid : ∀ i k x h, XS[i]? = some x → HS[k]? = some h → R i k → ∀ (n : Nat) a b, x.KS[n]? = some a → h.KS[n]? = some b → R a.toNat b.toNat
section
variable {HS : List Hd} {cl : List Nat} {root : Nat} {ord : List Nat} {OS : List Hd}
theorem NPl.graph (h : NPl HS cl root ord OS []) (hl : OS.length = ord.length) (hok : OkHeads HS) (hb : OS.length ≤ 4096) : graphB 0 OS = true := by
  have h0 : 0 < ord.length := (List.getElem?_eq_some_iff.1 h.first).1
  unfold graphB
  simp only [Bool.and_eq_true, decide_eq_true_eq, List.all_eq_true]
  refine ⟨⟨⟨⟨by omega, hb⟩, by omega⟩, by omega⟩, fun x hx => ?_⟩
  obtain ⟨i, hi⟩ := List.getElem?_of_mem hx
  obtain ⟨r, y, h1, h2, h3, h4, h5, h6, h7⟩ := (h.heads i x hi).of
  rw [h3, h4, h5]
  refine headB_move (hok y (List.mem_of_getElem? h1)) (by rw [h6, List.length_map]) (fun k hk => ?_)
  rw [hl]
  exact h.kids_lt x hx k hk
theorem NPl.rel2 (h : NPl HS cl root ord OS []) (hok : OkHeads HS) (hst : Stands HS cl) : Rel2 OS HS (fun i k => k < HS.length ∧ ord[i]? = some (cl.getD k 0)) where
  pl i k x y hx hy hr := by
    obtain ⟨r, z, h1, h2, h3, h4, h5, h6, h7⟩ := (h.heads i x hx).of
    obtain ⟨s1, s2, s3, s4⟩ := hst r k z y h1 hy (by rw [h2]; exact getD_of hr.2)
    refine ⟨h3.trans s1, h4.trans s2, h5.trans s3, ?_⟩
    rw [h6, List.length_map]
    have := congrArg List.length s4
    simpa using this
  kid i k x y hx hy hr n a b ha hb := by
    obtain ⟨r, z, h1, h2, h3, h4, h5, h6, h7⟩ := (h.heads i x hx).of
    obtain ⟨s1, s2, s3, s4⟩ := hst r k z y h1 hy (by rw [h2]; exact getD_of hr.2)
    rw [h6, List.getElem?_map] at ha
    cases hz : z.KS[n]? with
    | none => rw [hz] at ha; cases ha
    | some c =>
      rw [hz] at ha
      have hc : cl.getD c.toNat 0 = cl.getD b.toNat 0 := by
        have := congrArg (fun l => l[n]?) s4
        simp only [List.getElem?_map, hz, hb, Option.map_some, Option.some.injEq] at this
        exact this
      obtain ⟨p, hp⟩ := Option.isSome_iff_exists.1 (h7 c (List.mem_of_getElem? hz))
      have ha' : a = (p : Int) := by
        simp only [Option.map_some, Option.some.injEq] at ha
        rw [← ha]
        unfold posN
        rw [hp]
        rfl
      have hbr := (head_kind (hok y (List.mem_of_getElem? hy))).2.2.1 b (List.mem_of_getElem? hb)
      refine ⟨by omega, ?_⟩
      rw [ha', Int.toNat_natCast, idxN_some ord _ p hp, hc]
theorem NPl.root2 (h : NPl HS cl root ord OS []) (hr : root < HS.length) : root < HS.length ∧ ord[0]? = some (cl.getD root 0) := ⟨hr, h.first⟩
end
end Go.Proofs.YtoakfninndkgaaaGreatDoor
set_option linter.unusedVariables false
namespace Go.Proofs.YtoakfninndkgaaaGreatDoor
open Go.RowKit
abbrev BRow := Nat × Nat × List Bool
def rowv (m : Nat) (r : BRow) : Value := .slice (some ⟨r.1, 0, none⟩) m r.2.1
structure MatAt (w wr : World) (m go co : Nat) (rows : List BRow) : Prop where
  below : Below w.heap.size w wr
  out : wr.ownsRow w.heap.size 87 1 (.slice (some ⟨go, 0, none⟩) rows.length co) rows.length (rows.map (rowv m))
  each : ∀ r ∈ rows, r.2.2.length = m ∧ wr.ownsRow w.heap.size 4 1 (rowv m r) m (r.2.2.map Value.bool)
  nd : (rows.map (·.1)).Nodup
section
variable {w wr w' : World} {m go co : Nat} {rows : List BRow}
theorem MatAt.go_row (h : MatAt w wr m go co rows) : ∀ r ∈ rows, r.1 ≠ go := fun r hr e => by
  have := own_two (h.each r hr).2 h.out (by decide)
  rcases this with e2 | e2
  · cases e2
  · exact e2 (by show some r.1 = some go; rw [e])
theorem MatAt.far (h : MatAt w wr m go co rows) {row : Option Nat} (hg : wr.grownBy w' row) (hr : ∀ g, row = some g → g ≠ go ∧ (∀ r ∈ rows, r.1 ≠ g) ∧ w.heap.size ≤ g) : MatAt w w' m go co rows where
  below := below_grow h.below hg h.below.size (fun g e => (hr g e).2.2)
  out := h.out.kept hg (.inr (fun e => (hr go e.symm).1 rfl))
  each r hm := ⟨(h.each r hm).1, (h.each r hm).2.kept hg (.inr (fun e => (hr r.1 e.symm).2.1 r hm rfl))⟩
  nd := h.nd
theorem MatAt.on (h : MatAt w wr m go co rows) (hb : Below wr.heap.size wr w') : MatAt w w' m go co rows := h.far (grown_below hb) (fun g e => by cases e)
theorem MatAt.push (h : MatAt w wr m go co rows) {gr cr : Nat} {L : List Bool} (hL : L.length = m) (hrow : wr.ownsRow w.heap.size 4 1 (.slice (some ⟨gr, 0, none⟩) m cr) m (L.map Value.bool)) (hgr : ∀ r ∈ rows, r.1 ≠ gr) {g' c' : Nat} (hg : wr.grownBy w' (some go)) (hm : w'.ownsRow w.heap.size 87 1 (.slice (some ⟨g', 0, none⟩) (rows.length + 1) c') (rows.length + 1) (rows.map (rowv m) ++ [.slice (some ⟨gr, 0, none⟩) m cr])) : MatAt w w' m g' c' (rows ++ [(gr, cr, L)]) where
  below := below_grow h.below hg h.below.size (fun g e => by cases e; exact (h.out.lt _ rfl).1)
  out := by simpa [rowv] using hm
  each r hr := by
    rcases List.mem_append.1 hr with e | e
    · exact ⟨(h.each r e).1, (h.each r e).2.kept hg (.inr (fun e2 => h.go_row r e (by cases e2; rfl)))⟩
    · obtain rfl : r = (gr, cr, L) := by simpa using e
      refine ⟨hL, hrow.kept hg ?_⟩
      exact own_two hrow h.out (by decide)
  nd := by
    rw [List.map_append, List.nodup_append]
    refine ⟨h.nd, by simp, fun a ha b hb e => ?_⟩
    obtain ⟨r, hr, rfl⟩ := List.mem_map.1 ha
    simp at hb
    exact hgr r hr (by rw [e, hb])
end
/-- what the matrix holds: only plain pairs, and all that are related. -/
def InvM (XS HS : List Hd) (R : Nat → Nat → Prop) (rows : List BRow) : Prop := ∀ (i : Nat) r, rows[i]? = some r → ∀ (k : Nat) b, r.2.2[k]? = some b → ∀ x h, XS[i]? = some x → HS[k]? = some h → (b = true → Pl x h) ∧ (R i k → b = true)
def InvR (HS : List Hd) (R : Nat → Nat → Prop) (i : Nat) (x : Hd) (L : List Bool) : Prop := ∀ (k : Nat) b, L[k]? = some b → ∀ h, HS[k]? = some h → (b = true → Pl x h) ∧ (R i k → b = true)
theorem InvR.push {HS : List Hd} {R : Nat → Nat → Prop} {i : Nat} {x h : Hd} {L : List Bool} {b : Bool} (hi : InvR HS R i x L) (hh : HS[L.length]? = some h) (hb : b = true ↔ Pl x h) (hR : R i L.length → Pl x h) : InvR HS R i x (L ++ [b]) := by
  intro k c hk y hy
  rcases Nat.lt_or_ge k L.length with h1 | h1
  · rw [List.getElem?_append_left h1] at hk
    exact hi k c hk y hy
  · rw [List.getElem?_append_right h1] at hk
    have h2 : k - L.length = 0 := by
      have := (List.getElem?_eq_some_iff.1 hk).1
      simp at this
      omega
    obtain rfl : k = L.length := by omega
    simp at hk
    rw [hh] at hy
    cases hy
    subst hk
    exact ⟨hb.1, fun hr => hb.2 (hR hr)⟩
theorem InvM.push {XS HS : List Hd} {R : Nat → Nat → Prop} {rows : List BRow} {r : BRow} {x : Hd} (hi : InvM XS HS R rows) (hx : XS[rows.length]? = some x) (hr : InvR HS R rows.length x r.2.2) : InvM XS HS R (rows ++ [r]) := by
  intro i s hs k b hb y h hy hh
  rcases Nat.lt_or_ge i rows.length with h1 | h1
  · rw [List.getElem?_append_left h1] at hs
    exact hi i s hs k b hb y h hy hh
  · rw [List.getElem?_append_right h1] at hs
    have h2 : i - rows.length = 0 := by
      have := (List.getElem?_eq_some_iff.1 hs).1
      simp at this
      omega
    obtain rfl : i = rows.length := by omega
    simp at hs
    subst hs
    rw [hx] at hy
    cases hy
    exact hr k b hb h hh
end Go.Proofs.YtoakfninndkgaaaGreatDoor
set_option linter.unusedVariables false
namespace Go.Proofs.YtoakfninndkgaaaGreatDoor
open Go.RowKit
def cntR (rows : List BRow) : Nat := (rows.map fun r => r.2.2.count true).sum
theorem count_set : ∀ (L : List Bool) (k : Nat), L[k]? = some true → (L.set k false).count true + 1 = L.count true
  | [], k, h => by simp at h
  | b :: l, 0, h => by
    simp at h
    simp [h]
  | b :: l, k + 1, h => by
    have := count_set l k (by simpa using h)
    rw [List.set_cons_succ, List.count_cons, List.count_cons]
    omega
theorem cnt_set : ∀ (rows : List BRow) (i k g c : Nat) (L : List Bool), rows[i]? = some (g, c, L) → L[k]? = some true → cntR (rows.set i (g, c, L.set k false)) + 1 = cntR rows
  | [], i, k, g, c, L, h, _ => by simp at h
  | r :: l, 0, k, g, c, L, h, hk => by
    simp at h
    subst h
    have := count_set L k hk
    simp [cntR]
    omega
  | r :: l, i + 1, k, g, c, L, h, hk => by
    have := cnt_set l i k g c L (by simpa using h) hk
    unfold cntR at this ⊢
    rw [List.set_cons_succ, List.map_cons, List.map_cons, List.sum_cons, List.sum_cons]
    omega
theorem set_rowv (m : Nat) : ∀ (rows : List BRow) (i g c : Nat) (L L' : List Bool), rows[i]? = some (g, c, L) → (rows.set i (g, c, L')).map (rowv m) = rows.map (rowv m) ∧ (rows.set i (g, c, L')).map (·.1) = rows.map (·.1)
  | [], i, g, c, L, L', h => by simp at h
  | r :: l, 0, g, c, L, L', h => by
    simp at h
    subst h
    simp [rowv]
  | r :: l, i + 1, g, c, L, L', h => by
    obtain ⟨h1, h2⟩ := set_rowv m l i g c L L' (by simpa using h)
    rw [List.set_cons_succ, List.map_cons, List.map_cons, List.map_cons, List.map_cons, h1, h2]
    exact ⟨rfl, rfl⟩
theorem nd_ne {rows : List BRow} (h : (rows.map (·.1)).Nodup) {i j : Nat} {r s : BRow} (hi : rows[i]? = some r) (hj : rows[j]? = some s) (hij : i ≠ j) : r.1 ≠ s.1 := by
  intro e
  have h1 : (rows.map (·.1))[i]? = some r.1 := by rw [List.getElem?_map, hi]; rfl
  have h2 : (rows.map (·.1))[j]? = some r.1 := by rw [List.getElem?_map, hj, e]; rfl
  have hl := (List.getElem?_eq_some_iff.1 h1).1
  exact hij ((List.getElem?_inj hl h).1 (h1.trans h2.symm))
theorem MatAt.strike {w wr : World} {m go co : Nat} {rows : List BRow} (h : MatAt w wr m go co rows) {i k g c : Nat} {L : List Bool} (hi : rows[i]? = some (g, c, L)) : MatAt w (wr.setCell ⟨g, k, none⟩ (.bool false)) m go co (rows.set i (g, c, L.set k false)) where
  below := h.below.setCell (p := ⟨g, k, none⟩) ((h.each _ (List.mem_of_getElem? hi)).2.lt g rfl).1 _
  out := by
    rw [(set_rowv m rows i g c L _ hi).1, List.length_set]
    exact h.out.kept (Val.grown_set wr g k _) (.inr (fun e => h.go_row _ (List.mem_of_getElem? hi) (by cases e; rfl)))
  each r hr := by
    obtain ⟨j, hj⟩ := List.getElem?_of_mem hr
    rw [List.getElem?_set] at hj
    by_cases hij : i = j
    · rw [if_pos hij] at hj
      split at hj
      · cases hj
        obtain ⟨h1, h2⟩ := h.each _ (List.mem_of_getElem? hi)
        refine ⟨by simpa using h1, ?_⟩
        have := (h2.stored k (.bool false)).1
        simpa [rowv, List.map_set] using this
      · cases hj
    · rw [if_neg hij] at hj
      obtain ⟨h1, h2⟩ := h.each r (List.mem_of_getElem? hj)
      exact ⟨h1, h2.kept (Val.grown_set wr g k _) (.inr (fun e => nd_ne h.nd hi hj hij (by cases e; rfl)))⟩
  nd := by
    rw [(set_rowv m rows i g c L _ hi).2]
    exact h.nd
theorem InvM.strike {XS HS : List Hd} {R : Nat → Nat → Prop} {rows : List BRow} (h : InvM XS HS R rows) {i k g c : Nat} {L : List Bool} (hi : rows[i]? = some (g, c, L)) (hR : ¬ R i k) : InvM XS HS R (rows.set i (g, c, L.set k false)) := by
  intro j r hj q b hq x y hx hy
  rw [List.getElem?_set] at hj
  by_cases hij : i = j
  · rw [if_pos hij] at hj
    split at hj
    · cases hj
      rw [List.getElem?_set] at hq
      by_cases hkq : k = q
      · rw [if_pos hkq] at hq
        split at hq
        · cases hq
          exact ⟨fun e => (by cases e), fun hr => absurd (by rw [hij, hkq]; exact hr) hR⟩
        · cases hq
      · rw [if_neg hkq] at hq
        exact h j _ (by rw [← hij]; exact hi) q b hq x y hx hy
    · cases hj
  · rw [if_neg hij] at hj
    exact h j r hj q b hq x y hx hy
/-- what lies at i, k. -/
theorem MatAt.cells {w wr : World} {m go co : Nat} {rows : List BRow} (h : MatAt w wr m go co rows) {i k g c : Nat} {L : List Bool} {b : Bool} (hi : rows[i]? = some (g, c, L)) (hk : L[k]? = some b) : wr.cell? ⟨go, i, none⟩ = some (.slice (some ⟨g, 0, none⟩) m c) ∧ wr.cell? ⟨g, k, none⟩ = some (.bool b) ∧ wr.frozen? ⟨g, k, none⟩ = false ∧ g < wr.heap.size := by
  obtain ⟨h1, h2⟩ := h.each _ (List.mem_of_getElem? hi)
  have hil := (List.getElem?_eq_some_iff.1 hi).1
  have hkl := (List.getElem?_eq_some_iff.1 hk).1
  refine ⟨?_, ?_, ?_, (h2.lt g rfl).2⟩
  · rw [h.out.cellAt i (by omega), List.getElem?_map, hi]
    rfl
  · have := World.ownsRow.cellAt (g := g) (cap := c) h2 k (by simp at h1; omega)
    rw [this, List.getElem?_map, hk]
    rfl
  · exact World.ownsRow.frozenAt (g := g) (cap := c) h2 k
end Go.Proofs.YtoakfninndkgaaaGreatDoor
