/- Walks: ArenaGraphs, to the arena. The end of each law's proof: what has returned true, and changed nothing that was there, is as its row says. -/
import Derived.Test.YtoakfninndkgaaaGreatDoorGa20
import Derived.Test.YtoakfninndkgaaaGreatDoorRows
import Derived.ProofKit
import Derived.OpenShut
set_option linter.unusedSimpArgs false
set_option linter.unusedVariables false
set_option linter.unusedVariables false
namespace Go.Proofs.YtoakfninndkgaaaGreatDoor
open Go.RowKit
set_option maxRecDepth 20000 in
set_option maxHeartbeats 4000000 in
theorem few_top (w : World) (la : Option Addr) (ln lc : Nat) (root : Int) (HS : List Hd) (hH : HeadsRaw w la ln HS) (hln : (ln : Int) ≤ maxLen) :
    Calls Tryz.prog 8 #[.agg #[.slice la ln lc, .int .i64 root]] w (BoolPost w (fewB HS)) := by
  have HLN := Lib.hid hln
  clear hln
  have HC := Lib.hid hH.2
  have HL := Lib.hid hH.1
  have hxb : (w.alloc (.cells #[.slice la ln lc, .int .i64 root] 24)).heap[w.heap.size]? = some (.cells #[.slice la ln lc, .int .i64 root] 24 (0, 0)) := heap_alloc_new w _
  have HXB := Lib.hid hxb
  have HBA : Hid (Below w.heap.size w (w.alloc (.cells #[.slice la ln lc, .int .i64 root] 24))) := Lib.hid ((Below.refl _ _).alloc (Nat.le_refl _) _)
  clear hH hxb
  go_enter Tryz.func8, Tryz.ntmps8
  go_upto_region 1 with (fail)
  generalize (w.alloc (.cells #[.slice la ln lc, .int .i64 root] 24)) = w1 at *
  have a0 : w1.cell? ⟨w.heap.size, 0, none⟩ = some (.slice la ln lc) := (by rw [cell_of_row _ _ 0 _ 24 _ HXB.out]; rfl)
  go_wp2
  clear a0
  have HXL : Hid (w.heap.size < w1.heap.size) := Lib.hid (Array.getElem?_eq_some_iff.1 HXB.out).1
  go_loopw [10] (fun s10 wr => ∃ j : Nat, s10 = .int .i64 (j : Int) ∧ j ≤ ln ∧ Hid (Below w1.heap.size w1 wr) ∧ Hid (∀ i h, i < j → HS[i]? = some h → fewH h = true)) (fun s10 _ => ln - (intOf s10).toNat)
  case atStart => exact ⟨0, rfl, Nat.zero_le _, Lib.hid (Below.refl _ _), Lib.hid (fun i h hi => by omega)⟩
  case round =>
    obtain ⟨j, rfl, hj, HBR, HA⟩ := hrel
    have HJ := Lib.hid hj
    by_cases hjk : j < ln
    · have hwj : IntKind.i64.wrap ((j : Int) + 1) = (j : Int) + 1 := by rw [IntKind.wrap_i64]; have h9 := HLN.out; simp only [maxLen] at h9; omega
      have hjk2 : (j : Int) < ln := by omega
      obtain ⟨g, o, rfl, hg, hc⟩ := HC.out.resolve_left (by omega)
      obtain ⟨h, hh⟩ : ∃ h, HS[j]? = some h := ⟨_, List.getElem?_eq_getElem (by rw [← HL.out]; exact hjk)⟩
      have HH := Lib.hid hh
      have hin := hc j h hh
      have HIN := Lib.hid hin
      have hbr : Below w.heap.size w wr := HBA.out.trans (HBR.out.mono HBA.out.size)
      have b0 : wr.cell? ⟨g, o + j * 4, none⟩ = some (.int .i64 h.kd) := (by rw [← hin.c0]; exact hbr.cell (p := ⟨g, o + j * 4, none⟩) hg)
      have b1 : wr.cell? ⟨g, o + j * 4 + 1, none⟩ = some (.slice h.na h.nn h.nc) := (by rw [← hin.c1]; exact hbr.cell (p := ⟨g, o + j * 4 + 1, none⟩) hg)
      have b2 : wr.cell? ⟨g, o + j * 4 + 2, none⟩ = some (.slice h.ka h.kn h.kc) := (by rw [← hin.c2]; exact hbr.cell (p := ⟨g, o + j * 4 + 2, none⟩) hg)
      have b3 : wr.cell? ⟨g, o + j * 4 + 3, none⟩ = some (.bool h.op) := (by rw [← hin.c3]; exact hbr.cell (p := ⟨g, o + j * 4 + 3, none⟩) hg)
      clear hin hbr hh hc hg
      have hy : (wr.alloc (.cells #[.int .i64 h.kd, .slice h.na h.nn h.nc, .slice h.ka h.kn h.kc, .bool h.op] 38)).heap[wr.heap.size]? = some (.cells #[.int .i64 h.kd, .slice h.na h.nn h.nc, .slice h.ka h.kn h.kc, .bool h.op] 38 (0, 0)) := heap_alloc_new wr _
      have HY := Lib.hid hy
      have HBY : Hid (Below w1.heap.size w1 (wr.alloc (.cells #[.int .i64 h.kd, .slice h.na h.nn h.nc, .slice h.ka h.kn h.kc, .bool h.op] 38))) := Lib.hid (HBR.out.alloc HBR.out.size _)
      clear hy
      go_upto_region 4 with (fail)
      clear b0 b1 b2 b3
      generalize (wr.alloc (.cells #[.int .i64 h.kd, .slice h.na h.nn h.nc, .slice h.ka h.kn h.kc, .bool h.op] 38)) = w2 at *
      have b1 : w2.cell? ⟨wr.heap.size, 1, none⟩ = some (.slice h.na h.nn h.nc) := (by rw [cell_of_row _ _ 1 _ 38 _ HY.out]; rfl)
      have b2 : w2.cell? ⟨wr.heap.size, 2, none⟩ = some (.slice h.ka h.kn h.kc) := (by rw [cell_of_row _ _ 2 _ 38 _ HY.out]; rfl)
      have HBZ : Hid (Below w.heap.size w w2) := Lib.hid (HBA.out.trans (HBY.out.mono HBA.out.size))
      have HBAD : Hid (fewH h = false → fewB HS = false) := Lib.hid (fun e => by
        unfold fewB
        rw [show HS.all fewH = false from List.all_eq_false.2 ⟨h, List.mem_of_getElem? HH.out, by simp [e]⟩]
        rfl)
      rcases (by omega : 20 < h.kn ∨ (h.kn ≤ 20 ∧ 20 < h.nn) ∨ (h.kn ≤ 20 ∧ h.nn ≤ 20)) with k1 | ⟨k1, k2⟩ | ⟨k1, k2⟩
      · have k3 : (20 : Int) < h.kn := by omega
        have HFF := Lib.hid (HBAD.out (by unfold fewH; rw [show decide (h.kn ≤ 20) = false from by simp; omega]; rfl))
        go_wp2
        go_ret
        exact ⟨by rw [HFF.out]; rfl, HBZ.out⟩
      · have k3 : ¬ (20 : Int) < h.kn := by omega
        have k4 : (20 : Int) < h.nn := by omega
        have HFF := Lib.hid (HBAD.out (by unfold fewH; rw [show decide (h.nn ≤ 20) = false from by simp; omega]; simp))
        go_wp2
        go_ret
        exact ⟨by rw [HFF.out]; rfl, HBZ.out⟩
      · have k3 : ¬ (20 : Int) < h.kn := by omega
        have k4 : ¬ (20 : Int) < h.nn := by omega
        have k5 : (h.nn : Int) ≤ 20 := by omega
        have HNM := Lib.hid (HIN.out.names.on HBZ.out)
        have HNL := Lib.hid HIN.out.names.1
        go_wp2
        go_loop [27] (fun s27 => ∃ i : Nat, s27 = .int .i64 (i : Int) ∧ i ≤ h.nn ∧ Hid (∀ k s, k < i → h.NS[k]? = some s → s.size ≤ 60)) (fun s27 => h.nn - (intOf s27).toNat)
        case atStart => exact ⟨0, rfl, Nat.zero_le _, Lib.hid (fun k s hk => by omega)⟩
        case round =>
          obtain ⟨i, rfl, hi, HS6⟩ := hrel
          have hwi : IntKind.i64.wrap ((i : Int) + 1) = (i : Int) + 1 := by rw [IntKind.wrap_i64]; have h9 := k5; omega
          by_cases hin : i < h.nn
          · have hin2 : (i : Int) < h.nn := by omega
            obtain ⟨s, hs⟩ : ∃ s, h.NS[i]? = some s := ⟨_, List.getElem?_eq_getElem (by rw [← HNL.out]; exact hin)⟩
            obtain ⟨gn, on, en, hgn, hcn⟩ := HNM.out.2.resolve_left (by omega)
            have an := hcn i s hs
            have HSS := Lib.hid hs
            clear hs hcn
            generalize h.na = na at *
            subst en
            rcases (by omega : 60 < s.size ∨ s.size ≤ 60) with k6 | k6
            · have k7 : (60 : Int) < s.size := by omega
              have HFF := Lib.hid (HBAD.out (by
                unfold fewH
                rw [show (h.NS.all fun s => decide (s.size ≤ 60)) = false from List.all_eq_false.2 ⟨s, List.mem_of_getElem? HSS.out, by simp; omega⟩]
                simp))
              go_wp2
              go_ret
              exact ⟨by rw [HFF.out]; rfl, HBZ.out⟩
            · have k7 : ¬ (60 : Int) < s.size := by omega
              go_wp2
              go_round
              case rel => exact ⟨i + 1, by go_num, by omega, Lib.hid (fun k s' hk hs' => by
                by_cases he : k = i
                · subst he
                  have := hs'.symm.trans HSS.out
                  cases this
                  exact k6
                · exact HS6.out k s' (by omega) hs')⟩
              case measure => simp [intOf]; omega
          · have hin2 : ¬ (i : Int) < h.nn := by omega
            have hie : i = h.nn := by omega
            subst hie
            have hfh : fewH h = true := by
              unfold fewH
              simp only [Bool.and_eq_true, decide_eq_true_eq, List.all_eq_true]
              exact ⟨⟨k1, k2⟩, fun s hs => by
                obtain ⟨k, hk⟩ := List.getElem?_of_mem hs
                exact HS6.out k s (by rw [HNL.out]; exact (List.getElem?_eq_some_iff.1 hk).1) hk⟩
            have HFH := Lib.hid hfh
            clear hfh
            go_wp2
            go_roundw
            case rel => exact ⟨j + 1, by go_num, by omega, HBY, Lib.hid (fun i' h' hi' hh' => by
              by_cases he : i' = j
              · subst he
                have := hh'.symm.trans HH.out
                cases this
                exact HFH.out
              · exact HA.out i' h' (by omega) hh')⟩
            case measure => simp [intOf]; omega
    · have hjk2 : ¬ (j : Int) < ln := by omega
      obtain rfl : ln = j := by omega
      have hf : fewB HS = decide (ln ≤ 25) := by
        unfold fewB
        rw [show HS.all fewH = true from List.all_eq_true.2 (fun h hm => by
          obtain ⟨i, hi⟩ := List.getElem?_of_mem hm
          exact HA.out i h (by rw [HL.out]; exact (List.getElem?_eq_some_iff.1 hi).1) hi), ← HL.out]
        rfl
      have HF := Lib.hid hf
      have hbr : Below w.heap.size w wr := HBA.out.trans (HBR.out.mono HBA.out.size)
      have HBZ := Lib.hid hbr
      have a0 : wr.cell? ⟨w.heap.size, 0, none⟩ = some (.slice la ln lc) := (by rw [cell_of_row _ _ 0 _ 24 _ ((HBR.out.block _ HXL.out).trans HXB.out)]; rfl)
      clear hf hbr
      by_cases h25 : ln ≤ 25
      · have k7 : (ln : Int) ≤ 25 := by omega
        go_wp2
        go_ret
        exact ⟨by rw [HF.out]; simp [h25], HBZ.out⟩
      · have k7 : ¬ (ln : Int) ≤ 25 := by omega
        go_wp2
        go_ret
        exact ⟨by rw [HF.out]; simp [h25], HBZ.out⟩
theorem HeadsRaw.on {w w' : World} {la : Option Addr} {ln : Nat} {HS : List Hd} (h : HeadsRaw w la ln HS) (hb : Below w.heap.size w w') : HeadsRaw w' la ln HS := by
  refine ⟨h.1, ?_⟩
  rcases h.2 with h0 | ⟨g, o, e, hg, hc⟩
  · exact Or.inl h0
  · refine Or.inr ⟨g, o, e, Nat.lt_of_lt_of_le hg hb.size, fun i x hx => ?_⟩
    have r := hc i x hx
    exact ⟨keepB hb hg r.c0, keepB hb hg r.c1, keepB hb hg r.c2, keepB hb hg r.c3, r.names.on hb, r.kids.on hb⟩
set_option maxRecDepth 20000 in
set_option maxHeartbeats 8000000 in
theorem graphs_many (w : World) (ga : Option Addr) (gn gc : Nat) (ra : Int) (HS : List Hd) (v : Int) (hH : HeadsRaw w ga gn HS) (hln : (gn : Int) ≤ maxLen) (hf : fewB HS = false) :
    Calls Tryz.prog 3 #[.agg #[.slice ga gn gc, .int .i64 ra], .int .u8 v] w fun e w' => e = .returned (.bool true) ∧ Below w.heap.size w w' := by
  have HB1 : Hid (Below w.heap.size w (w.alloc (.cells #[.slice ga gn gc, .int .i64 ra] 24))) := Lib.hid ((Below.refl _ _).alloc (Nat.le_refl _) _)
  have HX1 : Hid ((w.alloc (.cells #[.slice ga gn gc, .int .i64 ra] 24)).heap[w.heap.size]? = some (.cells #[.slice ga gn gc, .int .i64 ra] 24 (0, 0))) := Lib.hid (heap_alloc_new w _)
  have KLIV := Lib.hid lives12
  have HH := Lib.hid hH
  have HLN := Lib.hid hln
  have KFE : Hid (∀ W', Below w.heap.size w W' → Calls Tryz.prog 8 #[.agg #[.slice ga gn gc, .int .i64 ra]] W' (BoolPost W' false)) := Lib.hid (fun W' hb => by
    have := few_top W' ga gn gc ra HS (HH.out.on hb) HLN.out
    rwa [hf] at this)
  clear hH hln hf
  go_enter Tryz.func3, Tryz.ntmps3
  go_upto_region 1 with (fail)
  generalize (w.alloc (.cells #[.slice ga gn gc, .int .i64 ra] 24)) = w1 at *
  have HL1 : Hid (w.heap.size < w1.heap.size) := Lib.hid (Array.getElem?_eq_some_iff.1 HX1.out).1
  have a0 : w1.cell? ⟨w.heap.size, 0, none⟩ = some (.slice ga gn gc) := (by rw [cell_of_row _ _ 0 _ 24 _ HX1.out]; rfl)
  have a1 : w1.cell? ⟨w.heap.size, 1, none⟩ = some (.int .i64 ra) := (by rw [cell_of_row _ _ 1 _ 24 _ HX1.out]; rfl)
  go_upto_region 2 with (first | (go_at_call 7; (with_reducible refine (KLIV.out _).mono ?_); rintro e w2 ⟨rfl, hb9⟩; have HBw2 : Hid (Below w1.heap.size w1 w2) := Lib.hid hb9; clear hb9; have b0 : w2.cell? ⟨w.heap.size, 0, none⟩ = some (.slice ga gn gc) := keepB HBw2.out HL1.out a0; have b1 : w2.cell? ⟨w.heap.size, 1, none⟩ = some (.int .i64 ra) := keepB HBw2.out HL1.out a1; have HT2 : Hid (Below w.heap.size w w2) := Lib.hid (HB1.out.trans (HBw2.out.mono HB1.out.size))) | (go_at_call 8; (with_reducible refine (KFE.out _ HT2.out).mono ?_); rintro e w3 ⟨rfl, hb9⟩; have HBw3 : Hid (Below w1.heap.size w1 w3) := Lib.hid (HBw2.out.trans (hb9.mono HBw2.out.size)); clear hb9; have c0 : w3.cell? ⟨w.heap.size, 0, none⟩ = some (.slice ga gn gc) := keepB HBw3.out HL1.out a0; have c1 : w3.cell? ⟨w.heap.size, 1, none⟩ = some (.int .i64 ra) := keepB HBw3.out HL1.out a1; have HT3 : Hid (Below w.heap.size w w3) := Lib.hid (HB1.out.trans (HBw3.out.mono HB1.out.size))))
  go_wp2_with (go_at_call 7; (with_reducible refine (KLIV.out _).mono ?_); rintro e wz ⟨rfl, hz9⟩)
  go_ret
  exact ⟨rfl, HT3.out.trans (hz9.mono HT3.out.size)⟩
set_option maxRecDepth 20000 in
set_option maxHeartbeats 8000000 in
theorem graphs_wrong (w : World) (ga : Option Addr) (gn gc : Nat) (ra : Int) (HS : List Hd) (v : Int) (hH : HeadsRaw w ga gn HS) (hln : (gn : Int) ≤ maxLen) (hf : fewB HS = true) (hg : graphB ra HS = false) :
    Calls Tryz.prog 3 #[.agg #[.slice ga gn gc, .int .i64 ra], .int .u8 v] w fun e w' => e = .returned (.bool true) ∧ Below w.heap.size w w' := by
  have HB1 : Hid (Below w.heap.size w (w.alloc (.cells #[.slice ga gn gc, .int .i64 ra] 24))) := Lib.hid ((Below.refl _ _).alloc (Nat.le_refl _) _)
  have HX1 : Hid ((w.alloc (.cells #[.slice ga gn gc, .int .i64 ra] 24)).heap[w.heap.size]? = some (.cells #[.slice ga gn gc, .int .i64 ra] 24 (0, 0))) := Lib.hid (heap_alloc_new w _)
  have KLIV := Lib.hid lives12
  have HH := Lib.hid hH
  have HLN := Lib.hid hln
  have KFE : Hid (∀ W', Below w.heap.size w W' → Calls Tryz.prog 8 #[.agg #[.slice ga gn gc, .int .i64 ra]] W' (BoolPost W' true)) := Lib.hid (fun W' hb => by
    have := few_top W' ga gn gc ra HS (HH.out.on hb) HLN.out
    rwa [hf] at this)
  have HI : Hid (HeadsIn w ga gn HS ∧ (gn : Int) ≤ 100000) := Lib.hid (by
    have h := hf
    unfold fewB at h
    simp only [Bool.and_eq_true, decide_eq_true_eq] at h
    exact ⟨HH.out.bounded h.1, by have := HH.out.1; omega⟩)
  have KRI : Hid (∀ W', Below w.heap.size w W' → Calls Tryz.prog 9 #[.agg #[.slice ga gn gc, .int .i64 ra]] W' (BoolPost W' false)) := Lib.hid (fun W' hb => by
    have := right_h W' ga gn gc ra HS (HI.out.1.on hb) HI.out.2
    rwa [hg] at this)
  clear hH hln hf hg
  go_enter Tryz.func3, Tryz.ntmps3
  go_upto_region 1 with (fail)
  generalize (w.alloc (.cells #[.slice ga gn gc, .int .i64 ra] 24)) = w1 at *
  have HL1 : Hid (w.heap.size < w1.heap.size) := Lib.hid (Array.getElem?_eq_some_iff.1 HX1.out).1
  have a0 : w1.cell? ⟨w.heap.size, 0, none⟩ = some (.slice ga gn gc) := (by rw [cell_of_row _ _ 0 _ 24 _ HX1.out]; rfl)
  have a1 : w1.cell? ⟨w.heap.size, 1, none⟩ = some (.int .i64 ra) := (by rw [cell_of_row _ _ 1 _ 24 _ HX1.out]; rfl)
  go_upto_region 2 with (first | (go_at_call 7; (with_reducible refine (KLIV.out _).mono ?_); rintro e w2 ⟨rfl, hb9⟩; have HBw2 : Hid (Below w1.heap.size w1 w2) := Lib.hid hb9; clear hb9; have b0 : w2.cell? ⟨w.heap.size, 0, none⟩ = some (.slice ga gn gc) := keepB HBw2.out HL1.out a0; have b1 : w2.cell? ⟨w.heap.size, 1, none⟩ = some (.int .i64 ra) := keepB HBw2.out HL1.out a1; have HT2 : Hid (Below w.heap.size w w2) := Lib.hid (HB1.out.trans (HBw2.out.mono HB1.out.size))) | (go_at_call 8; (with_reducible refine (KFE.out _ HT2.out).mono ?_); rintro e w3 ⟨rfl, hb9⟩; have HBw3 : Hid (Below w1.heap.size w1 w3) := Lib.hid (HBw2.out.trans (hb9.mono HBw2.out.size)); clear hb9; have c0 : w3.cell? ⟨w.heap.size, 0, none⟩ = some (.slice ga gn gc) := keepB HBw3.out HL1.out a0; have c1 : w3.cell? ⟨w.heap.size, 1, none⟩ = some (.int .i64 ra) := keepB HBw3.out HL1.out a1; have HT3 : Hid (Below w.heap.size w w3) := Lib.hid (HB1.out.trans (HBw3.out.mono HB1.out.size))) | (go_at_call 9; (with_reducible refine (KRI.out _ HT3.out).mono ?_); rintro e w4 ⟨rfl, hb9⟩; have HBw4 : Hid (Below w1.heap.size w1 w4) := Lib.hid (HBw3.out.trans (hb9.mono HBw3.out.size)); clear hb9; have d0 : w4.cell? ⟨w.heap.size, 0, none⟩ = some (.slice ga gn gc) := keepB HBw4.out HL1.out a0; have d1 : w4.cell? ⟨w.heap.size, 1, none⟩ = some (.int .i64 ra) := keepB HBw4.out HL1.out a1; have HT4 : Hid (Below w.heap.size w w4) := Lib.hid (HB1.out.trans (HBw4.out.mono HB1.out.size))))
  go_wp2_with (go_at_call 7; (with_reducible refine (KLIV.out _).mono ?_); rintro e wz ⟨rfl, hz9⟩)
  go_ret
  exact ⟨rfl, HT4.out.trans (hz9.mono HT4.out.size)⟩
set_option maxRecDepth 20000 in
set_option maxHeartbeats 8000000 in
theorem graphs_right (w : World) (ga : Option Addr) (gn gc : Nat) (ra : Int) (HS : List Hd) (v : Int) (hH : HeadsRaw w ga gn HS) (hln : (gn : Int) ≤ maxLen) (h0 : 0 ≤ v) (h1 : v < 256) (hf : fewB HS = true) (hg : graphB ra HS = true) (hnc : ∀ x ∈ HS, x.na = none → x.nc = 0) :
    Calls Tryz.prog 3 #[.agg #[.slice ga gn gc, .int .i64 ra], .int .u8 v] w fun e w' => e = .returned (.bool true) ∧ Below w.heap.size w w' := by
  have HB1 : Hid (Below w.heap.size w (w.alloc (.cells #[.slice ga gn gc, .int .i64 ra] 24))) := Lib.hid ((Below.refl _ _).alloc (Nat.le_refl _) _)
  have HX1 : Hid ((w.alloc (.cells #[.slice ga gn gc, .int .i64 ra] 24)).heap[w.heap.size]? = some (.cells #[.slice ga gn gc, .int .i64 ra] 24 (0, 0))) := Lib.hid (heap_alloc_new w _)
  have KLIV := Lib.hid lives12
  have HH := Lib.hid hH
  have HLN := Lib.hid hln
  have KFE : Hid (∀ W', Below w.heap.size w W' → Calls Tryz.prog 8 #[.agg #[.slice ga gn gc, .int .i64 ra]] W' (BoolPost W' true)) := Lib.hid (fun W' hb => by
    have := few_top W' ga gn gc ra HS (HH.out.on hb) HLN.out
    rwa [hf] at this)
  have HI : Hid (HeadsIn w ga gn HS ∧ (gn : Int) ≤ 100000) := Lib.hid (by
    have h := hf
    unfold fewB at h
    simp only [Bool.and_eq_true, decide_eq_true_eq] at h
    exact ⟨HH.out.bounded h.1, by have := HH.out.1; omega⟩)
  have KRI : Hid (∀ W', Below w.heap.size w W' → Calls Tryz.prog 9 #[.agg #[.slice ga gn gc, .int .i64 ra]] W' (BoolPost W' true)) := Lib.hid (fun W' hb => by
    have := right_h W' ga gn gc ra HS (HI.out.1.on hb) HI.out.2
    rwa [hg] at this)
  have HVM : Hid (0 ≤ v % 31 ∧ v % 31 < 31) := Lib.hid ⟨by omega, by omega⟩
  obtain ⟨m, hm⟩ : ∃ m : Nat, v % 31 = (m : Int) := ⟨(v % 31).toNat, by omega⟩
  have hm31 : m < 31 := by omega
  have HFW : Hid (HS.all fewH = true ∧ HS.length ≤ 25) := Lib.hid (by
    have h := hf
    unfold fewB at h
    simp only [Bool.and_eq_true, decide_eq_true_eq] at h
    exact h)
  have HGB := Lib.hid hg
  have HNC := Lib.hid hnc
  clear hH hln hf hg hnc
  go_enter Tryz.func3, Tryz.ntmps3
  go_upto_region 1 with (fail)
  generalize (w.alloc (.cells #[.slice ga gn gc, .int .i64 ra] 24)) = w1 at *
  have HL1 : Hid (w.heap.size < w1.heap.size) := Lib.hid (Array.getElem?_eq_some_iff.1 HX1.out).1
  have a0 : w1.cell? ⟨w.heap.size, 0, none⟩ = some (.slice ga gn gc) := (by rw [cell_of_row _ _ 0 _ 24 _ HX1.out]; rfl)
  have a1 : w1.cell? ⟨w.heap.size, 1, none⟩ = some (.int .i64 ra) := (by rw [cell_of_row _ _ 1 _ 24 _ HX1.out]; rfl)
  go_upto_region 3 with (first | (go_at_call 7; (with_reducible refine (KLIV.out _).mono ?_); rintro e w2 ⟨rfl, hb9⟩; have HBw2 : Hid (Below w1.heap.size w1 w2) := Lib.hid hb9; clear hb9; have b0 : w2.cell? ⟨w.heap.size, 0, none⟩ = some (.slice ga gn gc) := keepB HBw2.out HL1.out a0; have b1 : w2.cell? ⟨w.heap.size, 1, none⟩ = some (.int .i64 ra) := keepB HBw2.out HL1.out a1; have HT2 : Hid (Below w.heap.size w w2) := Lib.hid (HB1.out.trans (HBw2.out.mono HB1.out.size))) | (go_at_call 8; (with_reducible refine (KFE.out _ HT2.out).mono ?_); rintro e w3 ⟨rfl, hb9⟩; have HBw3 : Hid (Below w1.heap.size w1 w3) := Lib.hid (HBw2.out.trans (hb9.mono HBw2.out.size)); clear hb9; have c0 : w3.cell? ⟨w.heap.size, 0, none⟩ = some (.slice ga gn gc) := keepB HBw3.out HL1.out a0; have c1 : w3.cell? ⟨w.heap.size, 1, none⟩ = some (.int .i64 ra) := keepB HBw3.out HL1.out a1; have HT3 : Hid (Below w.heap.size w w3) := Lib.hid (HB1.out.trans (HBw3.out.mono HB1.out.size))) | (go_at_call 9; (with_reducible refine (KRI.out _ HT3.out).mono ?_); rintro e w4 ⟨rfl, hb9⟩; have HBw4 : Hid (Below w1.heap.size w1 w4) := Lib.hid (HBw3.out.trans (hb9.mono HBw3.out.size)); clear hb9; have d0 : w4.cell? ⟨w.heap.size, 0, none⟩ = some (.slice ga gn gc) := keepB HBw4.out HL1.out a0; have d1 : w4.cell? ⟨w.heap.size, 1, none⟩ = some (.int .i64 ra) := keepB HBw4.out HL1.out a1; have HT4 : Hid (Below w.heap.size w w4) := Lib.hid (HB1.out.trans (HBw4.out.mono HB1.out.size))))
  clear b0 b1 c0 c1
  have HNEW := Lib.hid (new_ok w4 1000 (by decide) (by decide))
  go_upto_region 4 with (go_at_call 10; (with_reducible refine HNEW.out.mono ?_); rintro e w5 ⟨rfl, rfl⟩)
  have HB5 : Hid (Below w4.heap.size w4 (w4.alloc (.cells #[.slice none 0 0, .int .i64 1000] 79))) := Lib.hid ((Below.refl _ _).alloc (Nat.le_refl _) _)
  have HA5 : Hid (ArenaAt (w4.alloc (.cells #[.slice none 0 0, .int .i64 1000] 79)) w4.heap.size (w4.heap.size + 1) none 0 0 1000 []) := Lib.hid ⟨heap_alloc_new w4 _, World.ownsRow_nil _ _ _ _, by omega, by simp⟩
  generalize (w4.alloc (.cells #[.slice none 0 0, .int .i64 1000] 79)) = w5 at *
  go_upto_region 5 with (fail)
  rw [hm]
  clear hm
  have HD0 : Hid (w.heap.size < w4.heap.size) := Lib.hid (Nat.lt_of_lt_of_le HL1.out HBw4.out.size)
  go_loopw [35] (fun s35 wr => ∃ (k : Nat) (la : Option Addr) (lc : Nat) (ps : List Value), s35 = .int .u8 (k : Int) ∧ k ≤ m ∧ Hid (ArenaAt wr w4.heap.size (w4.heap.size + 1) la k lc 1000 ps) ∧ Hid (Below w4.heap.size w4 wr)) (fun s35 _ => m - (intOf s35).toNat)
  case atStart => exact ⟨0, none, 0, [], rfl, Nat.zero_le _, HA5, HB5⟩
  case round =>
    obtain ⟨k, la, lc, ps, rfl, hk, HA, HB⟩ := hrel
    obtain ⟨w6, rfl⟩ : ∃ w6 : World, w6 = wr := ⟨_, rfl⟩
    have hwk : IntKind.u8.wrap ((k : Int) + 1) = (k : Int) + 1 := by simp [IntKind.wrap, IntKind.bits, IntKind.signed, IntKind.min]; omega
    by_cases hkm : k < m
    · have hkm2 : (k : Int) < m := by omega
      have HVA := Lib.hid (var_ok w6 w4.heap.size (w4.heap.size + 1) la k lc 1000 (k : Int) ps HA.out (by omega) (by omega) (by decide))
      have HOWN : Hid (∀ g, (Value.slice la k lc).ownBlock = some g → w4.heap.size ≤ g) := Lib.hid (fun g e => by have := (HA.out.own.lt g e).1; omega)
      go_wp2_with (go_at_call 11; (with_reducible refine HVA.out.mono ?_); rintro e w7 ⟨la7, lc7, M7, rfl, ha7, -, -, hac7⟩; have HA7 := Lib.hid ha7; have HAC7 := Lib.hid hac7; clear ha7 hac7)
      go_roundw
      case rel => exact ⟨k + 1, la7, lc7, _, by go_num, by omega, HA7, Lib.hid (HB.out.trans (HAC7.out.below HB.out.size (Nat.le_refl _) HOWN.out))⟩
      case measure => simp [intOf]; omega
    · have hkm2 : ¬ (k : Int) < m := by omega
      obtain rfl : k = m := by omega
      have HLE := Lib.hid (len_any w6 w4.heap.size la k lc 1000 HA.out.box)
      have d0' : w6.cell? ⟨w.heap.size, 0, none⟩ = some (.slice ga gn gc) := keepB HB.out HD0.out d0
      have d1' : w6.cell? ⟨w.heap.size, 1, none⟩ = some (.int .i64 ra) := keepB HB.out HD0.out d1
      obtain ⟨OKH, hr0, hr1⟩ := OkHeads.of_graph HGB.out
      have HOK := Lib.hid OKH
      obtain ⟨r, rfl⟩ : ∃ r : Nat, ra = (r : Int) := ⟨ra.toNat, by omega⟩
      have hrl : r < gn := by have := HH.out.1; omega
      have HGH : Hid (HeadsIn w6 ga gn HS) := Lib.hid (HI.out.1.on (HT4.out.trans (HB.out.mono HT4.out.size)))
      have HGO := Lib.hid (graph_ok w6 w4.heap.size (w4.heap.size + 1) la k lc 1000 ps HA.out ga gn gc r HS HGH.out HFW.out.1 hrl (by have := HFW.out.2; have := HH.out.1; omega) HGB.out HNC.out (by omega) (by decide))
      clear OKH hr0 hr1
      go_upto_region 11 with (first | (go_at_call 12; (with_reducible refine HLE.out.mono ?_); rintro e w6 ⟨rfl, rfl⟩) | (go_at_call 13; (with_reducible refine HGO.out.mono ?_); rintro e w7 ⟨la7, lc7, OS, YS, cl, ord, rfl, hgs, hyl, hcl, hst, hco, hnp, hol⟩; have HGS := Lib.hid hgs; have HYL := Lib.hid hyl; have HST := Lib.hid hst; have HNP := Lib.hid hnp; have HOL := Lib.hid hol; clear hgs hyl hcl hst hco hnp hol))
      have HX7 : Hid (XSt w7 (w7.alloc (.cells #[.slice none 0 0, .int .i64 0] 24)) w7.heap.size 0 none 0 OS []) := Lib.hid (XSt.start w7 OS)
      have HB7 : Hid (Below w4.heap.size w4 w7) := Lib.hid (HB.out.trans (HGS.out.acts.below HB.out.size (Nat.le_refl _) (fun g e => by have := (HA.out.own.lt g e).1; omega)))
      have HPL : Hid (ps.length = k * 9) := Lib.hid HA.out.own.1
      have HOB : Hid (OS.length ≤ 100) := Lib.hid (by rw [HOL.out]; exact nodup_len 100 ord HNP.out.nodup HNP.out.lt)
      obtain ⟨tot, htot⟩ : ∃ tot, tot = k + YS.length := ⟨_, rfl⟩
      have HTOT := Lib.hid htot
      have htb : tot ≤ 131 := by have := HOB.out; have := HYL.out; omega
      have HAR : Hid (ArenaAt w7 w4.heap.size (w4.heap.size + 1) la7 tot lc7 1000 (ps ++ YS.flatMap pcells)) := Lib.hid (by rw [HTOT.out]; exact HGS.out.arena)
      clear htot
      go_upto_region 13 with (fail)
      generalize (w7.alloc (.cells #[.slice none 0 0, .int .i64 0] 24)) = w8 at *
      go_loopw [12] (fun s12 wr => ∃ (n : Nat) (XS : List Hd) (xa : Option Addr) (xc : Nat), s12 = .int .i64 (n : Int) ∧ Hid (n = k + XS.length) ∧ Hid (XSt w7 wr w7.heap.size 0 xa xc OS XS)) (fun s12 _ => tot - (intOf s12).toNat)
      case atStart => exact ⟨k, [], none, 0, rfl, Lib.hid rfl, HX7⟩
      case round =>
        obtain ⟨n, XS, xa, xc, rfl, HN, HX⟩ := hrel
        obtain ⟨wi, rfl⟩ : ∃ wi : World, wi = wr := ⟨_, rfl⟩
        have HAI := Lib.hid (HAR.out.on HX.out.below)
        have HLI := Lib.hid (len_any wi w4.heap.size la7 tot lc7 1000 HAI.out.box)
        have hnt : n ≤ tot := by have := HX.out.le; have := HN.out; have := HTOT.out; have := HYL.out; omega
        have hwn : IntKind.i64.wrap ((n : Int) + 1) = (n : Int) + 1 := by rw [IntKind.wrap_i64]; omega
        by_cases hlt : n < tot
        · have hlt2 : (n : Int) < tot := by omega
          have hxo : XS.length < OS.length := by have := HN.out; have := HTOT.out; have := HYL.out; omega
          obtain ⟨x, hx⟩ : ∃ x, OS[XS.length]? = some x := ⟨_, List.getElem?_eq_getElem hxo⟩
          obtain ⟨y, hy⟩ : ∃ y, YS[XS.length]? = some y := ⟨_, List.getElem?_eq_getElem (by rw [HYL.out]; exact hxo)⟩
          have HXX := Lib.hid hx
          have HMV := Lib.hid (HGS.out.rel _ _ _ hx hy)
          have HYO := Lib.hid ((HGS.out.heads y (List.mem_of_getElem? hy)).1.on HX.out.below)
          have HYN := Lib.hid ((HGS.out.heads y (List.mem_of_getElem? hy)).2)
          have HPC : Hid (∀ j, j < 9 → (ps ++ YS.flatMap pcells)[n * 9 + j]? = (pcells y)[j]?) := Lib.hid (fun j hj => by
            have h1 := HPL.out
            have h2 := HN.out
            rw [List.getElem?_append_right (by omega), show n * 9 + j - ps.length = XS.length * 9 + j by omega]
            exact flat9_at YS XS.length j y hy hj)
          have HAT := Lib.hid (at_ok wi w4.heap.size (w4.heap.size + 1) la7 tot lc7 1000 (ps ++ YS.flatMap pcells) n y HAI.out hlt HPC.out HYO.out HYN.out (by unfold maxLen; omega))
          have HLV := Lib.hid (fun (W' : World) (hb : Below wi.heap.size wi W') => level_any W' w4.heap.size (w4.heap.size + 1) la7 tot lc7 1000 (ps ++ YS.flatMap pcells) n 0 (HAI.out.on hb) hlt (by rw [HPC.out 5 (by decide)]; rfl) (by unfold maxLen; omega))
          clear hx hy hxo
          go_upto_region 16 with (first | (go_at_call 12; (with_reducible refine HLI.out.mono ?_); rintro e wi ⟨rfl, rfl⟩) | (go_at_call 14; (with_reducible refine HAT.out.mono ?_); rintro e w9 ⟨a', c', b', d', rfl, hn9, ho9, hab9, hna9, hnb9, hga9, hgb9, hb9⟩; have HN9 := Lib.hid hn9; have HO9 := Lib.hid ho9; have HAB9 := Lib.hid hab9; have HGA9 := Lib.hid hga9; have HGB9 := Lib.hid hgb9; have HB9 := Lib.hid hb9; clear hn9 ho9 hab9 hna9 hnb9 hga9 hgb9 hb9))
          have HY0 : Hid ((w9.alloc (.cells #[.int .i64 y.kd, .slice a' y.nn c', .slice b' y.kn d', .bool y.op] 38)).heap[w9.heap.size]? = some (.cells #[.int .i64 y.kd, .slice a' y.nn c', .slice b' y.kn d', .bool y.op] 38 (0, 0))) := Lib.hid (heap_alloc_new w9 _)
          have HBX : Hid (Below wi.heap.size wi (w9.alloc (.cells #[.int .i64 y.kd, .slice a' y.nn c', .slice b' y.kn d', .bool y.op] 38))) := Lib.hid (HB9.out.alloc HB9.out.size _)
          have HB99 : Hid (Below w9.heap.size w9 (w9.alloc (.cells #[.int .i64 y.kd, .slice a' y.nn c', .slice b' y.kn d', .bool y.op] 38))) := Lib.hid ((Below.refl _ _).alloc (Nat.le_refl _) _)
          generalize (w9.alloc (.cells #[.int .i64 y.kd, .slice a' y.nn c', .slice b' y.kn d', .bool y.op] 38)) = w10 at *
          have HN10 := Lib.hid (HN9.out.on HB99.out)
          have HKY : Hid (y.KS = x.KS.map (· + (k : Int)) ∧ y.kn = x.KS.length) := Lib.hid ⟨HMV.out.ks, by rw [HYO.out.kids.1, HMV.out.ks, List.length_map]⟩
          have HO10 : Hid (w10.ownsRow wi.heap.size 3 1 (.slice b' y.kn d') y.kn ((bkTo k x.KS 0).map (Value.int .i64))) := Lib.hid (by rw [bkTo_zero, ← HKY.out.1]; exact ownsRow_mono HO9.out (fun g hg => HB99.out.block g (HO9.out.lt g hg).2))
          have HLV2 := Lib.hid (HLV.out w10 HBX.out)
          go_upto_region 18 with (go_at_call 15; (with_reducible refine HLV2.out.mono ?_); rintro e w10 ⟨rfl, rfl⟩)
          have e2 : w10.cell? ⟨w9.heap.size, 2, none⟩ = some (.slice b' y.kn d') := (by rw [cell_of_row _ _ 2 _ 38 _ HY0.out]; rfl)
          have hyk : y.kn ≤ 1000 := HYO.out.knb
          have HOWB : Hid (∀ g, (Value.slice b' y.kn d').ownBlock = some g → wi.heap.size ≤ g ∧ g < w9.heap.size) := Lib.hid (fun g e => HO9.out.lt g e)
          go_upto_region 19 with (fail)
          clear e2
          go_loopw [79] (fun s79 wr => ∃ j : Nat, s79 = .int .i64 (j : Int) ∧ j ≤ y.kn ∧ Hid (wr.ownsRow wi.heap.size 3 1 (.slice b' y.kn d') y.kn ((bkTo k x.KS j).map (Value.int .i64))) ∧ Hid (w10.grownBy wr (Value.slice b' y.kn d').ownBlock)) (fun s79 _ => y.kn - (intOf s79).toNat)
          case atStart => exact ⟨0, rfl, Nat.zero_le _, HO10, Lib.hid (World.grownBy.refl _ _)⟩
          case round =>
            obtain ⟨j, rfl, hj, HKJ, HGJ⟩ := hrel
            obtain ⟨wj, rfl⟩ : ∃ wj : World, wj = wr := ⟨_, rfl⟩
            have hwj : IntKind.i64.wrap ((j : Int) + 1) = (j : Int) + 1 := by rw [IntKind.wrap_i64]; omega
            have HYJ : Hid (wj.heap[w9.heap.size]? = some (.cells #[.int .i64 y.kd, .slice a' y.nn c', .slice b' y.kn d', .bool y.op] 38 (0, 0))) := Lib.hid ((HGJ.out.block _ (Array.getElem?_eq_some_iff.1 HY0.out).1 (fun e => by have := (HOWB.out _ e.symm).2; omega)).trans HY0.out)
            have e2 : wj.cell? ⟨w9.heap.size, 2, none⟩ = some (.slice b' y.kn d') := (by rw [cell_of_row _ _ 2 _ 38 _ HYJ.out]; rfl)
            by_cases hjk : j < y.kn
            · have hjk2 : (j : Int) < y.kn := by omega
              obtain ⟨q, hq⟩ : ∃ q, x.KS[j]? = some q := ⟨_, List.getElem?_eq_getElem (by rw [← HKY.out.2]; exact hjk)⟩
              have HSH := Lib.hid (bkTo_set k x.KS j q hq)
              have HSA := Lib.hid (bkTo_at k x.KS j q hq)
              have hqr := HNP.out.kids_lt x (List.mem_of_getElem? HXX.out) q (List.mem_of_getElem? hq)
              obtain ⟨gb, cap, hbe, hgb, hgl⟩ := HKJ.out.form (by omega)
              have hq0 : 0 ≤ q := hqr.1
              have hq1 : q ≤ 1000 := by have := HOL.out; have := HOB.out; omega
              rw [hbe] at HKJ e2 HGJ
              have kc : wj.cell? ⟨gb, j, none⟩ = some (.int .i64 (q + (k : Int))) := by
                rw [HKJ.out.cellAt j (by omega), List.getElem?_map, HSA.out]
                rfl
              have kf : wj.frozen? ⟨gb, j, none⟩ = false := HKJ.out.frozenAt j
              have HSTO := Lib.hid (HKJ.out.stored j (.int .i64 q))
              rw [← List.map_set, HSH.out] at HSTO
              have HGN : Hid (w10.grownBy (wj.setCell ⟨gb, j, none⟩ (.int .i64 q)) (some gb)) := Lib.hid ⟨HSTO.out.2.os.trans HGJ.out.os, HSTO.out.2.tape.trans HGJ.out.tape, HSTO.out.2.output.trans HGJ.out.output, Nat.le_trans HGJ.out.size HSTO.out.2.size, fun k h1 h2 => (HSTO.out.2.block k (Nat.lt_of_lt_of_le h1 HGJ.out.size) h2).trans (HGJ.out.block k h1 h2)⟩
              have HBE := Lib.hid hbe
              clear hq hbe
              go_wp2
              go_roundw
              case rel => exact ⟨j + 1, by go_num, by omega, Lib.hid (by rw [HBE.out]; exact HSTO.out.1), Lib.hid (by rw [HBE.out]; exact HGN.out)⟩
              case measure => simp [intOf]; omega
            · have hjk2 : ¬ (j : Int) < y.kn := by omega
              obtain rfl : j = y.kn := by omega
              have HBW : Hid (Below wi.heap.size wi wj) := Lib.hid (below_grow HBX.out HGJ.out HBX.out.size (fun g e => (HOWB.out g e).1))
              have HXJ := Lib.hid (HX.out.on HBW.out)
              have HNJ : Hid (NamesAt wj a' y.nn y.NS) := Lib.hid (HN10.out.kept0 (fun ad e h0 hl => HGJ.out.block _ hl (fun e2 => by
                cases b' with
                | none => cases e2
                | some bd => exact HAB9.out ad bd e h0 rfl (by simpa [Value.ownBlock] using e2))) HGJ.out.size)
              have HKF : Hid (wj.ownsRow wi.heap.size 3 1 (.slice b' y.kn d') y.kn (x.KS.map (Value.int .i64))) := Lib.hid (by have h9 := HKJ.out; rw [HKY.out.2, bkTo_all, ← HKY.out.2] at h9; exact h9)
              have HKI := Lib.hid (own_ints HKF.out)
              have HYDX : Hid (HdOk wj (⟨y.kd, a', y.nn, c', y.NS, b', y.kn, d', x.KS, y.op⟩ : Hd)) := Lib.hid ⟨HNJ.out, HKI.out, HYO.out.nnb, HYO.out.knb, HYO.out.small⟩
              have HYS : Hid (∀ ad, blkOf (⟨y.kd, a', y.nn, c', y.NS, b', y.kn, d', x.KS, y.op⟩ : Hd) ad → w7.heap.size < ad.block ∧ ad.block < wj.heap.size ∧ (Value.slice xa XS.length xc).ownBlock ≠ some ad.block) := Lib.hid (fun ad e => by
                have hbl := (Array.getElem?_eq_some_iff.1 HX.out.box).1
                have hown := HX.out.out.lt
                rcases e with ⟨e, h0⟩ | ⟨e, h0⟩
                · have h3 := HGA9.out ad e
                  refine ⟨by omega, ?_, fun e2 => by have := (hown _ e2).2; omega⟩
                  rcases HNJ.out.2 with r | ⟨g, o, e2, hl, _⟩
                  · exact absurd r h0
                  · rw [e2] at e; cases e; exact hl
                · have h3 := HGB9.out ad e
                  refine ⟨by omega, ?_, fun e2 => by have := (hown _ e2).2; omega⟩
                  rcases HKI.out.2 with r | ⟨g, o, e2, hl, _⟩
                  · exact absurd r h0
                  · rw [e2] at e; cases e; exact hl)
              have HMM : Hid (y.kd = x.kd ∧ y.op = x.op ∧ y.NS = x.NS ∧ x.KS = x.KS) := Lib.hid ⟨HMV.out.kd, HMV.out.op, HMV.out.ns, rfl⟩
              have HDR : Hid (Below wj.heap.size wj wj) := Lib.hid (Below.refl _ _)
              obtain ⟨i0, hi9, hz0, hz1, hz2⟩ := info_parts Tryz.info38
              have HIF := Lib.hid hi9
              have HIF0 := Lib.hid hz0
              have HIF1 := Lib.hid hz1
              have HIF2 := Lib.hid hz2
              have HLE9 : Hid (w7.heap.size + 1 ≤ (wj.alloc (.cells #[.int .i64 y.kd, .slice a' y.nn c', .slice b' y.kn d', .bool y.op] 38)).heap.size) := Lib.hid (by have := (Array.getElem?_eq_some_iff.1 HXJ.out.box).1; simp; omega)
              have HOWD : Hid ((wj.alloc (.cells #[.int .i64 y.kd, .slice a' y.nn c', .slice b' y.kn d', .bool y.op] 38)).ownsRow (w7.heap.size + 1) 38 4 (.slice xa XS.length xc) XS.length (XS.flatMap hcells)) := Lib.hid (HXJ.out.out.alloc _)
              have HBO : Hid (∀ w5' : World, (wj.alloc (.cells #[.int .i64 y.kd, .slice a' y.nn c', .slice b' y.kn d', .bool y.op] 38)).grownBy w5' (Value.slice xa XS.length xc).ownBlock → w5'.heap[w7.heap.size]? = some (.cells #[.slice xa XS.length xc, .int .i64 0] 24 (0, 0))) := Lib.hid (fun w5' hg => by
                have hl := (Array.getElem?_eq_some_iff.1 HXJ.out.box).1
                rw [hg.block w7.heap.size (by simp; omega) (fun e => by have := (HXJ.out.out.lt _ e.symm).1; omega), Below.heap_alloc _ _ _ hl]
                exact HXJ.out.box)
              have HONE : Hid (∀ u ∈ ([.int .i64 y.kd, .slice a' y.nn c', .slice b' y.kn d', .bool y.op] : List Value), u.oneCell' = true) := Lib.hid (by
                intro u hu
                simp only [List.mem_cons, List.not_mem_nil, or_false] at hu
                rcases hu with rfl | rfl | rfl | rfl <;> rfl)
              have hosb : XS.length ≤ 100 := by have := HX.out.le; have := HOB.out; omega
              have q0 : wj.cell? ⟨w7.heap.size, 0, none⟩ = some (.slice xa XS.length xc) := (by rw [cell_of_row _ _ 0 _ 24 _ HXJ.out.box]; rfl)
              have p0 : wj.cell? ⟨w9.heap.size, 0, none⟩ = some (.int .i64 y.kd) := (by rw [cell_of_row _ _ 0 _ 38 _ HYJ.out]; rfl)
              have p1 : wj.cell? ⟨w9.heap.size, 1, none⟩ = some (.slice a' y.nn c') := (by rw [cell_of_row _ _ 1 _ 38 _ HYJ.out]; rfl)
              have p3 : wj.cell? ⟨w9.heap.size, 3, none⟩ = some (.bool y.op) := (by rw [cell_of_row _ _ 3 _ 38 _ HYJ.out]; rfl)
              clear hi9 hz0 hz1 hz2
              go_wp2_with (at_builtin; refine wpList_append_lies _ rfl _ _ 22 rfl (w7.heap.size + 1) 38 i0 (.agg #[.int .i64 0, .slice none 0 0, .slice none 0 0, .bool false]) 4 64 Tryz.underlying22 HIF.out HIF0.out HIF1.out HIF2.out rfl (by decide) (.slice xa XS.length xc) XS.length (XS.flatMap hcells) rfl HOWD.out ⟨wj.heap.size, 0, none⟩ 1 1 [.int .i64 y.kd, .slice a' y.nn c', .slice b' y.kn d', .bool y.op] rfl rfl (news_of (heap_alloc_new wj _)) HONE.out (by decide) (by unfold maxLen; omega) (by omega) HLE9.out _ rfl ?_; intro g6 c6 w6' hown6 hgr6 hat6 hlt6; have hA5 := HBO.out w6' hgr6; have a5 : w6'.cell? ⟨w7.heap.size, 0, none⟩ = some (.slice xa XS.length xc) := (by rw [cell_of_row _ _ 0 _ 24 _ hA5]; rfl); have f5 : w6'.frozen? ⟨w7.heap.size, 0, none⟩ = false := frozen_of_row _ _ 0 _ 24 hA5; clear hA5 hlt6; have HOE := Lib.hid (HXJ.out.step HXX.out HMM.out HYDX.out HYS.out HDR.out hgr6 hown6 hat6); clear hown6 hgr6 hat6)
              go_roundw
              case rel => exact ⟨n + 1, XS ++ [(⟨y.kd, a', y.nn, c', y.NS, b', y.kn, d', x.KS, y.op⟩ : Hd)], some ⟨g6, 0, none⟩, c6, by go_num, Lib.hid (by rw [HN.out]; simp; omega), by simpa using HOE⟩
              case measure => simp [intOf]; omega
        · have hlt2 : ¬ (n : Int) < tot := by omega
          have hxl : XS.length = OS.length := by have := HX.out.le; have := HN.out; have := HTOT.out; have := HYL.out; omega
          have HAK := Lib.hid (HX.out.alk hxl)
          have HXL := Lib.hid hxl
          clear hxl
          go_upto_region 24 with (go_at_call 12; (with_reducible refine HLI.out.mono ?_); rintro e wi ⟨rfl, rfl⟩)
          have HXB := HX
          have HBI : Hid (Below w.heap.size w wi) := Lib.hid (HT4.out.trans ((HB7.out.trans (HX.out.below.mono HB7.out.size)).mono HT4.out.size))
          have x0 : wi.cell? ⟨w7.heap.size, 0, none⟩ = some (.slice xa XS.length xc) := (by rw [cell_of_row _ _ 0 _ 24 _ HX.out.box]; rfl)
          have x1 : wi.cell? ⟨w7.heap.size, 1, none⟩ = some (.int .i64 0) := (by rw [cell_of_row _ _ 1 _ 24 _ HX.out.box]; rfl)
          have HGX : Hid (graphB 0 XS = true) := Lib.hid (HAK.out.graph (HNP.out.graph HOL.out HOK.out (by have := HOB.out; omega)))
          have HRX := Lib.hid (right_h wi xa XS.length xc 0 XS HX.out.heads_in (by have := HXL.out; have := HOB.out; omega))
          rw [HGX.out] at HRX
          have HSM : Hid (∀ W', Below wi.heap.size wi W' → Calls Tryz.prog 16 #[.agg #[.slice xa XS.length xc, .int .i64 0], .agg #[.slice ga gn gc, .int .i64 (r : Int)]] W' (BoolPost W' true)) := Lib.hid (fun W' hb => by
            have hx1 := HXL.out
            have hx2 := HOB.out
            refine same_any W' xa XS.length xc XS (HX.out.heads_in.on hb) ga gn gc HS (HI.out.1.on (HBI.out.trans (hb.mono HBI.out.size))) _ (HAK.out.rel (HNP.out.rel2 HOK.out HST.out)) ?_ ?_ (by omega) (by have := HFW.out.2; have := HH.out.1; omega) 0 r ?_ hrl ?_
            · intro z hz q hq
              obtain ⟨i, hi⟩ := List.getElem?_of_mem hz
              obtain ⟨z', hz', -, -, -, e4⟩ := HAK.out.at hi
              rw [e4] at hq
              have := HNP.out.kids_lt z' (List.mem_of_getElem? hz') q hq
              have := HOL.out
              omega
            · intro z hz q hq
              have hz2 := HOK.out z hz
              simp only [headB, Bool.and_eq_true, List.all_eq_true, decide_eq_true_eq] at hz2
              exact hz2.1.2 q hq
            · have := (List.getElem?_eq_some_iff.1 HNP.out.first).1
              have := HOL.out
              omega
            · exact ⟨by have := HH.out.1; omega, HNP.out.first⟩)
          have HGC : Hid (∀ W', Below wi.heap.size wi W' → W'.cell? ⟨w7.heap.size, 0, none⟩ = some (.slice xa XS.length xc) ∧ W'.cell? ⟨w7.heap.size, 1, none⟩ = some (.int .i64 0) ∧ W'.cell? ⟨w.heap.size, 0, none⟩ = some (.slice ga gn gc) ∧ W'.cell? ⟨w.heap.size, 1, none⟩ = some (.int .i64 (r : Int))) := Lib.hid (fun W' hb => by
            have hl := (Array.getElem?_eq_some_iff.1 HX.out.box).1
            have hw4 : Below w4.heap.size w4 W' := (HB7.out.trans (HX.out.below.mono HB7.out.size)).trans (hb.mono (HB7.out.trans (HX.out.below.mono HB7.out.size)).size)
            exact ⟨keepB hb hl x0, keepB hb hl x1, keepB hw4 HD0.out d0, keepB hw4 HD0.out d1⟩)
          clear HXB
          go_wp2_with (first | (go_at_call 9; (with_reducible refine HRX.out.mono ?_); rintro e w11 ⟨rfl, hb9⟩; obtain ⟨z0, z1, z2, z3⟩ := HGC.out _ hb9; have HB11 := Lib.hid hb9; clear hb9) | (go_at_call 16; (with_reducible refine (HSM.out _ HB11.out).mono ?_); rintro e w12 ⟨rfl, hb9⟩; have HB12 := Lib.hid hb9; clear hb9))
          go_ret
          exact ⟨rfl, HBI.out.trans ((HB11.out.trans (HB12.out.mono HB11.out.size)).mono HBI.out.size)⟩
end Go.Proofs.YtoakfninndkgaaaGreatDoor
namespace Go.Proofs.YtoakfninndkgaaaGreatDoor
open Go.ChangeShapes Go.WideShapes Go.ChangeAt Go.RowKit
theorem trodAll_below {H : Type} {enc : TypeId × Value → H} {P : Program} (hl : laidOutB P = true) {W W' : World} (hb : Below W.heap.size W W') :
    ∀ (ts : List TypeId) (vs : List Value) (ds : List (DataW H)) (ps : List MemPlace), (ts.all fun t => P.readableRec t && decide (t < P.types.size)) = true →
      DataW.TrodAll enc P W 0 (fun _ => true) true ts vs ds ps → (∀ x ∈ ps, x.block < W.heap.size) → DataW.TrodAll enc P W' 0 (fun b => decide (b < W.heap.size)) true ts vs ds ps := by
  intro ts
  induction ts with
  | nil =>
    intro vs ds ps _ h _
    cases vs <;> cases ds <;> first | exact h | exact h.elim
  | cons t ts ih =>
    intro vs ds ps hr h hlt
    cases vs with
    | nil => cases ds <;> exact h.elim
    | cons v vs =>
      cases ds with
      | nil => exact h.elim
      | cons d ds =>
        simp only [List.all_cons, Bool.and_eq_true, decide_eq_true_eq] at hr
        obtain ⟨p, q, h1, h2, rfl⟩ := h
        exact ⟨p, q, Below.trod hl hr.1.1 hr.1.2 h1 hb (fun x hx => hlt x (by simp [hx])), ih vs ds q hr.2 h2 (fun x hx => hlt x (by simp [hx])), rfl⟩
/-- THE END OF A LAW's PROOF: it has returned true, and nothing that was there has changed. -/
theorem law_post {H : Type} {enc : TypeId × Value → H} {P : Program} {f : Func} {s : ChangeSpec} {apart handsOn : Bool} {W W' : World} {args : Array Value} {ds gs : List (DataW H)} {before : List MemPlace} {tb : TypeId}
    (hl : laidOutB P = true) (hr : (f.params.toList.all fun t => P.readableRec t && decide (t < P.types.size)) = true) (hv : s.vars = [])
    (hrt : f.resultTypes = #[tb]) (htb : P.underlying tb = some .bool) (hs : s.fn H (ds ++ gs) = { results := [.lit (.bool true)], args := ds })
    (hW : DataW.Whole enc P f.params.toList s.vars apart W args.toList ds gs before) (hb : Below W.heap.size W W') :
    s.post enc P f apart true handsOn false W args (.bool true) W' := by
  have hlt : ∀ p ∈ before, p.block < W.heap.size := fun p hp => hW.lt p hp
  have hW2 := hW
  obtain ⟨p, q, hA, hV, rfl, hfz, hnd⟩ := hW2
  have hq : gs = [] ∧ q = [] := by
    rw [hv] at hV
    cases gs with
    | nil => exact ⟨rfl, hV⟩
    | cons g gs => exact hV.elim
  obtain ⟨rfl, rfl⟩ := hq
  rw [List.append_nil] at hs
  refine ⟨ds, [], p ++ [], [], p, [], hW, ?_, ?_, ?_, World.keptBut_mono (fun x hx => ⟨hx, ?_⟩) (hb.frame (· ∈ p ++ [])), fun h => by cases h⟩
  · rw [List.append_nil, hs, hrt]
    exact trodAll_cons_mk (shut_bool htb true) trodAll_mk0
  · rw [List.append_nil, hs]
    exact trodAll_below hl hb _ _ _ _ hr hA (fun x hx => hlt x (by simp [hx]))
  · rw [List.append_nil, hs, hv]
    rfl
  · rw [List.append_nil] at hx
    exact Or.inr (Or.inl hx)
end Go.Proofs.YtoakfninndkgaaaGreatDoor
