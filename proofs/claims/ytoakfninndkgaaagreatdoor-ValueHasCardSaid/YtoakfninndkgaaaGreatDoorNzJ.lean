/- Walks: ValueHas. -/
import Derived.Test.YtoakfninndkgaaaGreatDoorNx
import Derived.Test.YtoakfninndkgaaaGreatDoorNzI
set_option linter.unusedVariables false
namespace Go.Proofs.YtoakfninndkgaaaGreatDoor
open Go.RowKit
set_option maxRecDepth 20000 in
set_option maxHeartbeats 4000000 in
theorem few_max (w : World) (la : Option Addr) (ln lc : Nat) (root : Int) (HS : List Hd) (hH : HeadsRaw w la ln HS) (hln : (ln : Int) ≤ maxLen) :
    Calls Tryz.prog 8 #[.agg #[.slice la ln lc, .int .i64 root]] w (BoolPost w (fewB HS)) := by
  have HLN := Lib.hid hln
  clear hln
  have HC := Lib.hid hH.2
  have HL := Lib.hid hH.1
  have hxb : (w.alloc (.cells #[.slice la ln lc, .int .i64 root] 24)).heap[w.heap.size]? = some (.cells #[.slice la ln lc, .int .i64 root] 24 (0, 0)) := heap_alloc_new w _
  have HXB := Lib.hid hxb
  have HBA : Hid (Below w.heap.size w (w.alloc (.cells #[.slice la ln lc, .int .i64 root] 24))) := Lib.hid ((Below.refl _ _).alloc (Nat.le_refl _) _)
  clear hH hxb
  go_enter Tryz.func8, Tryz.ntmps8
  go_upto_region 1 with (fail)
  generalize (w.alloc (.cells #[.slice la ln lc, .int .i64 root] 24)) = w1 at *
  have a0 : w1.cell? ⟨w.heap.size, 0, none⟩ = some (.slice la ln lc) := (by rw [cell_of_row _ _ 0 _ 24 _ HXB.out]; rfl)
  go_wp2
  clear a0
  have HXL : Hid (w.heap.size < w1.heap.size) := Lib.hid (Array.getElem?_eq_some_iff.1 HXB.out).1
  go_loopw [10] (fun s10 wr => ∃ j : Nat, s10 = .int .i64 (j : Int) ∧ j ≤ ln ∧ Hid (Below w1.heap.size w1 wr) ∧ Hid (∀ i h, i < j → HS[i]? = some h → fewH h = true)) (fun s10 _ => ln - (intOf s10).toNat)
  case atStart => exact ⟨0, rfl, Nat.zero_le _, Lib.hid (Below.refl _ _), Lib.hid (fun i h hi => by omega)⟩
  case round =>
    obtain ⟨j, rfl, hj, HBR, HA⟩ := hrel
    have HJ := Lib.hid hj
    by_cases hjk : j < ln
    · have hwj : IntKind.i64.wrap ((j : Int) + 1) = (j : Int) + 1 := by rw [IntKind.wrap_i64]; have h9 := HLN.out; simp only [maxLen] at h9; omega
      have hjk2 : (j : Int) < ln := by omega
      obtain ⟨g, o, rfl, hg, hc⟩ := HC.out.resolve_left (by omega)
      obtain ⟨h, hh⟩ : ∃ h, HS[j]? = some h := ⟨_, List.getElem?_eq_getElem (by rw [← HL.out]; exact hjk)⟩
      have HH := Lib.hid hh
      have hin := hc j h hh
      have HIN := Lib.hid hin
      have hbr : Below w.heap.size w wr := HBA.out.trans (HBR.out.mono HBA.out.size)
      have b0 : wr.cell? ⟨g, o + j * 4, none⟩ = some (.int .i64 h.kd) := (by rw [← hin.c0]; exact hbr.cell (p := ⟨g, o + j * 4, none⟩) hg)
      have b1 : wr.cell? ⟨g, o + j * 4 + 1, none⟩ = some (.slice h.na h.nn h.nc) := (by rw [← hin.c1]; exact hbr.cell (p := ⟨g, o + j * 4 + 1, none⟩) hg)
      have b2 : wr.cell? ⟨g, o + j * 4 + 2, none⟩ = some (.slice h.ka h.kn h.kc) := (by rw [← hin.c2]; exact hbr.cell (p := ⟨g, o + j * 4 + 2, none⟩) hg)
      have b3 : wr.cell? ⟨g, o + j * 4 + 3, none⟩ = some (.bool h.op) := (by rw [← hin.c3]; exact hbr.cell (p := ⟨g, o + j * 4 + 3, none⟩) hg)
      clear hin hbr hh hc hg
      have hy : (wr.alloc (.cells #[.int .i64 h.kd, .slice h.na h.nn h.nc, .slice h.ka h.kn h.kc, .bool h.op] 38)).heap[wr.heap.size]? = some (.cells #[.int .i64 h.kd, .slice h.na h.nn h.nc, .slice h.ka h.kn h.kc, .bool h.op] 38 (0, 0)) := heap_alloc_new wr _
      have HY := Lib.hid hy
      have HBY : Hid (Below w1.heap.size w1 (wr.alloc (.cells #[.int .i64 h.kd, .slice h.na h.nn h.nc, .slice h.ka h.kn h.kc, .bool h.op] 38))) := Lib.hid (HBR.out.alloc HBR.out.size _)
      clear hy
      go_upto_region 4 with (fail)
      clear b0 b1 b2 b3
      generalize (wr.alloc (.cells #[.int .i64 h.kd, .slice h.na h.nn h.nc, .slice h.ka h.kn h.kc, .bool h.op] 38)) = w2 at *
      have b1 : w2.cell? ⟨wr.heap.size, 1, none⟩ = some (.slice h.na h.nn h.nc) := (by rw [cell_of_row _ _ 1 _ 38 _ HY.out]; rfl)
      have b2 : w2.cell? ⟨wr.heap.size, 2, none⟩ = some (.slice h.ka h.kn h.kc) := (by rw [cell_of_row _ _ 2 _ 38 _ HY.out]; rfl)
      have HBZ : Hid (Below w.heap.size w w2) := Lib.hid (HBA.out.trans (HBY.out.mono HBA.out.size))
      have HBAD : Hid (fewH h = false → fewB HS = false) := Lib.hid (fun e => by
        unfold fewB
        rw [show HS.all fewH = false from List.all_eq_false.2 ⟨h, List.mem_of_getElem? HH.out, by simp [e]⟩]
        rfl)
      rcases (by omega : 20 < h.kn ∨ (h.kn ≤ 20 ∧ 20 < h.nn) ∨ (h.kn ≤ 20 ∧ h.nn ≤ 20)) with k1 | ⟨k1, k2⟩ | ⟨k1, k2⟩
      · have k3 : (20 : Int) < h.kn := by omega
        have HFF := Lib.hid (HBAD.out (by unfold fewH; rw [show decide (h.kn ≤ 20) = false from by simp; omega]; rfl))
        go_wp2
        go_ret
        exact ⟨by rw [HFF.out]; rfl, HBZ.out⟩
      · have k3 : ¬ (20 : Int) < h.kn := by omega
        have k4 : (20 : Int) < h.nn := by omega
        have HFF := Lib.hid (HBAD.out (by unfold fewH; rw [show decide (h.nn ≤ 20) = false from by simp; omega]; simp))
        go_wp2
        go_ret
        exact ⟨by rw [HFF.out]; rfl, HBZ.out⟩
      · have k3 : ¬ (20 : Int) < h.kn := by omega
        have k4 : ¬ (20 : Int) < h.nn := by omega
        have k5 : (h.nn : Int) ≤ 20 := by omega
        have HNM := Lib.hid (HIN.out.names.on HBZ.out)
        have HNL := Lib.hid HIN.out.names.1
        go_wp2
        go_loop [27] (fun s27 => ∃ i : Nat, s27 = .int .i64 (i : Int) ∧ i ≤ h.nn ∧ Hid (∀ k s, k < i → h.NS[k]? = some s → s.size ≤ 60)) (fun s27 => h.nn - (intOf s27).toNat)
        case atStart => exact ⟨0, rfl, Nat.zero_le _, Lib.hid (fun k s hk => by omega)⟩
        case round =>
          obtain ⟨i, rfl, hi, HS6⟩ := hrel
          have hwi : IntKind.i64.wrap ((i : Int) + 1) = (i : Int) + 1 := by rw [IntKind.wrap_i64]; have h9 := k5; omega
          by_cases hin : i < h.nn
          · have hin2 : (i : Int) < h.nn := by omega
            obtain ⟨s, hs⟩ : ∃ s, h.NS[i]? = some s := ⟨_, List.getElem?_eq_getElem (by rw [← HNL.out]; exact hin)⟩
            obtain ⟨gn, on, en, hgn, hcn⟩ := HNM.out.2.resolve_left (by omega)
            have an := hcn i s hs
            have HSS := Lib.hid hs
            clear hs hcn
            generalize h.na = na at *
            subst en
            rcases (by omega : 60 < s.size ∨ s.size ≤ 60) with k6 | k6
            · have k7 : (60 : Int) < s.size := by omega
              have HFF := Lib.hid (HBAD.out (by
                unfold fewH
                rw [show (h.NS.all fun s => decide (s.size ≤ 60)) = false from List.all_eq_false.2 ⟨s, List.mem_of_getElem? HSS.out, by simp; omega⟩]
                simp))
              go_wp2
              go_ret
              exact ⟨by rw [HFF.out]; rfl, HBZ.out⟩
            · have k7 : ¬ (60 : Int) < s.size := by omega
              go_wp2
              go_round
              case rel => exact ⟨i + 1, by go_num, by omega, Lib.hid (fun k s' hk hs' => by
                by_cases he : k = i
                · subst he
                  have := hs'.symm.trans HSS.out
                  cases this
                  exact k6
                · exact HS6.out k s' (by omega) hs')⟩
              case measure => simp [intOf]; omega
          · have hin2 : ¬ (i : Int) < h.nn := by omega
            have hie : i = h.nn := by omega
            subst hie
            have hfh : fewH h = true := by
              unfold fewH
              simp only [Bool.and_eq_true, decide_eq_true_eq, List.all_eq_true]
              exact ⟨⟨k1, k2⟩, fun s hs => by
                obtain ⟨k, hk⟩ := List.getElem?_of_mem hs
                exact HS6.out k s (by rw [HNL.out]; exact (List.getElem?_eq_some_iff.1 hk).1) hk⟩
            have HFH := Lib.hid hfh
            clear hfh
            go_wp2
            go_roundw
            case rel => exact ⟨j + 1, by go_num, by omega, HBY, Lib.hid (fun i' h' hi' hh' => by
              by_cases he : i' = j
              · subst he
                have := hh'.symm.trans HH.out
                cases this
                exact HFH.out
              · exact HA.out i' h' (by omega) hh')⟩
            case measure => simp [intOf]; omega
    · have hjk2 : ¬ (j : Int) < ln := by omega
      obtain rfl : ln = j := by omega
      have hf : fewB HS = decide (ln ≤ 25) := by
        unfold fewB
        rw [show HS.all fewH = true from List.all_eq_true.2 (fun h hm => by
          obtain ⟨i, hi⟩ := List.getElem?_of_mem hm
          exact HA.out i h (by rw [HL.out]; exact (List.getElem?_eq_some_iff.1 hi).1) hi), ← HL.out]
        rfl
      have HF := Lib.hid hf
      have hbr : Below w.heap.size w wr := HBA.out.trans (HBR.out.mono HBA.out.size)
      have HBZ := Lib.hid hbr
      have a0 : wr.cell? ⟨w.heap.size, 0, none⟩ = some (.slice la ln lc) := (by rw [cell_of_row _ _ 0 _ 24 _ ((HBR.out.block _ HXL.out).trans HXB.out)]; rfl)
      clear hf hbr
      by_cases h25 : ln ≤ 25
      · have k7 : (ln : Int) ≤ 25 := by omega
        go_wp2
        go_ret
        exact ⟨by rw [HF.out]; simp [h25], HBZ.out⟩
      · have k7 : ¬ (ln : Int) ≤ 25 := by omega
        go_wp2
        go_ret
        exact ⟨by rw [HF.out]; simp [h25], HBZ.out⟩
theorem HeadsRaw.on {w w' : World} {la : Option Addr} {ln : Nat} {HS : List Hd} (h : HeadsRaw w la ln HS) (hb : Below w.heap.size w w') : HeadsRaw w' la ln HS := by
  refine ⟨h.1, ?_⟩
  rcases h.2 with h0 | ⟨g, o, e, hg, hc⟩
  · exact Or.inl h0
  · refine Or.inr ⟨g, o, e, Nat.lt_of_lt_of_le hg hb.size, fun i x hx => ?_⟩
    have r := hc i x hx
    exact ⟨keepB hb hg r.c0, keepB hb hg r.c1, keepB hb hg r.c2, keepB hb hg r.c3, r.names.on hb, r.kids.on hb⟩
set_option maxRecDepth 20000 in
set_option maxHeartbeats 16000000 in
theorem valueHas_true (w : World) (l : Value) (la lb : Option Addr) (ln lc lm ld : Nat) (ra rb : Int) (A B : List Hd) (hM : ∀ W', Below w.heap.size w W' → Calls Tryz.prog 28 #[l] W' (Val.MadePost W')) (hA : HeadsRaw w la ln A) (hB : HeadsRaw w lb lm B) (hln : (ln : Int) ≤ maxLen) (hlm : (lm : Int) ≤ maxLen) :
    Calls Tryz.prog 6 #[l, .agg #[.slice la ln lc, .int .i64 ra], .agg #[.slice lb lm ld, .int .i64 rb]] w fun e w' => e = .returned (.bool true) ∧ Below w.heap.size w w' := by
  have HM := Lib.hid hM
  have HA := Lib.hid hA
  have HB := Lib.hid hB
  have HLN := Lib.hid hln
  have HLM := Lib.hid hlm
  have hba : Below w.heap.size w ((w.alloc (.cells #[.slice la ln lc, .int .i64 ra] 24)).alloc (.cells #[.slice lb lm ld, .int .i64 rb] 24)) := ((Below.refl _ _).alloc (Nat.le_refl _) _).alloc (by simp) _
  have hga : ((w.alloc (.cells #[.slice la ln lc, .int .i64 ra] 24)).alloc (.cells #[.slice lb lm ld, .int .i64 rb] 24)).heap[w.heap.size]? = some (.cells #[.slice la ln lc, .int .i64 ra] 24 (0, 0)) := by rw [Below.heap_alloc _ _ _ (by simp)]; exact heap_alloc_new w _
  have hgb : ((w.alloc (.cells #[.slice la ln lc, .int .i64 ra] 24)).alloc (.cells #[.slice lb lm ld, .int .i64 rb] 24)).heap[w.heap.size + 1]? = some (.cells #[.slice lb lm ld, .int .i64 rb] 24 (0, 0)) := by
    have := heap_alloc_new (w.alloc (.cells #[.slice la ln lc, .int .i64 ra] 24)) (.cells #[.slice lb lm ld, .int .i64 rb] 24)
    simpa using this
  have HBA := Lib.hid hba
  have HGA := Lib.hid hga
  have HGB := Lib.hid hgb
  clear hba hga hgb hM hA hB hln hlm
  go_enter Tryz.func6, Tryz.ntmps6
  go_upto_region 1 with (fail)
  generalize ((w.alloc (.cells #[.slice la ln lc, .int .i64 ra] 24)).alloc (.cells #[.slice lb lm ld, .int .i64 rb] 24)) = w2 at *
  go_wp2_with fail
  refine (HM.out _ HBA.out).mono ?_
  rintro e mw ⟨hmb, hor⟩
  have HBM := Lib.hid (HBA.out.trans (hmb.mono HBA.out.size))
  have HGM := Lib.hid ((hmb.block _ (Array.getElem?_eq_some_iff.1 HGA.out).1).trans HGA.out)
  have HHM := Lib.hid ((hmb.block _ (Array.getElem?_eq_some_iff.1 HGB.out).1).trans HGB.out)
  clear hmb
  rcases hor with rfl | ⟨k, F, hh, rfl, hvt, hF, -, v, hvs⟩
  · go_upto_region 2 with (fail)
    have HB3 : Hid (Below w.heap.size w (mw.alloc (.cells #[.int .i64 0, .int .i64 0, .int .u64 0, .string ⟨#[]⟩, .slice none 0 0, .slice none 0 0, .pointer none, .int .i64 0] 70))) := Lib.hid (HBM.out.alloc HBM.out.size _)
    generalize (mw.alloc (.cells #[.int .i64 0, .int .i64 0, .int .u64 0, .string ⟨#[]⟩, .slice none 0 0, .slice none 0 0, .pointer none, .int .i64 0] 70)) = w3 at *
    go_upto_region 3 with (go_at_call 29; refine (Val.lives_true _).mono ?_; rintro e w4 ⟨rfl, h4⟩; have HB4 := Lib.hid (HB3.out.trans (h4.mono HB3.out.size)); clear h4)
    go_wp2_with (go_at_call 29; refine (Val.lives_true _).mono ?_; rintro e w5 ⟨rfl, h5⟩)
    go_ret
    exact ⟨rfl, HB4.out.trans (h5.mono HB4.out.size)⟩
  · have HVS := Lib.hid hvs
    have HF := Lib.hid hF
    clear hvs hF hvt
    obtain ⟨xkd, xki, xkb, xkt, xna, xnn, xnc, xka, xkn, xkc, xfp, xhv⟩ := k
    unfold Val.Kid.val
    (try simp only)
    go_upto_region 2 with (fail)
    have HB3 : Hid (Below w.heap.size w (mw.alloc (.cells #[.int .i64 xkd, .int .i64 xki, .int .u64 xkb, .string xkt, .slice xna xnn xnc, .slice xka xkn xkc, .pointer xfp, .int .i64 xhv] 70))) := Lib.hid (HBM.out.alloc HBM.out.size _)
    have HM3 : Hid (Below mw.heap.size mw (mw.alloc (.cells #[.int .i64 xkd, .int .i64 xki, .int .u64 xkb, .string xkt, .slice xna xnn xnc, .slice xka xkn xkc, .pointer xfp, .int .i64 xhv] 70))) := Lib.hid ((Below.refl _ _).alloc (Nat.le_refl _) _)
    have HV3 : Hid ((mw.alloc (.cells #[.int .i64 xkd, .int .i64 xki, .int .u64 xkb, .string xkt, .slice xna xnn xnc, .slice xka xkn xkc, .pointer xfp, .int .i64 xhv] 70)).heap[mw.heap.size]? = some (.cells #[.int .i64 xkd, .int .i64 xki, .int .u64 xkb, .string xkt, .slice xna xnn xnc, .slice xka xkn xkc, .pointer xfp, .int .i64 xhv] 70 (0, 0))) := Lib.hid (heap_alloc_new mw _)
    generalize (mw.alloc (.cells #[.int .i64 xkd, .int .i64 xki, .int .u64 xkb, .string xkt, .slice xna xnn xnc, .slice xka xkn xkc, .pointer xfp, .int .i64 xhv] 70)) = w3 at *
    have HG3 := Lib.hid ((HM3.out.block _ (Array.getElem?_eq_some_iff.1 HGM.out).1).trans HGM.out)
    have HH3 := Lib.hid ((HM3.out.block _ (Array.getElem?_eq_some_iff.1 HHM.out).1).trans HHM.out)
    have HLV : Hid (mw.heap.size < w3.heap.size) := Lib.hid (Array.getElem?_eq_some_iff.1 HV3.out).1
    have HLG : Hid (w.heap.size < w3.heap.size) := Lib.hid (Array.getElem?_eq_some_iff.1 HG3.out).1
    have HLH : Hid (w.heap.size + 1 < w3.heap.size) := Lib.hid (Array.getElem?_eq_some_iff.1 HH3.out).1
    have v0 : w3.cell? ⟨mw.heap.size, 0, none⟩ = some (.int .i64 xkd) := (by rw [cell_of_row _ _ 0 _ 70 _ HV3.out]; rfl)
    have v1 : w3.cell? ⟨mw.heap.size, 1, none⟩ = some (.int .i64 xki) := (by rw [cell_of_row _ _ 1 _ 70 _ HV3.out]; rfl)
    have v2 : w3.cell? ⟨mw.heap.size, 2, none⟩ = some (.int .u64 xkb) := (by rw [cell_of_row _ _ 2 _ 70 _ HV3.out]; rfl)
    have v3 : w3.cell? ⟨mw.heap.size, 3, none⟩ = some (.string xkt) := (by rw [cell_of_row _ _ 3 _ 70 _ HV3.out]; rfl)
    have v4 : w3.cell? ⟨mw.heap.size, 4, none⟩ = some (.slice xna xnn xnc) := (by rw [cell_of_row _ _ 4 _ 70 _ HV3.out]; rfl)
    have v5 : w3.cell? ⟨mw.heap.size, 5, none⟩ = some (.slice xka xkn xkc) := (by rw [cell_of_row _ _ 5 _ 70 _ HV3.out]; rfl)
    have v6 : w3.cell? ⟨mw.heap.size, 6, none⟩ = some (.pointer xfp) := (by rw [cell_of_row _ _ 6 _ 70 _ HV3.out]; rfl)
    have v7 : w3.cell? ⟨mw.heap.size, 7, none⟩ = some (.int .i64 xhv) := (by rw [cell_of_row _ _ 7 _ 70 _ HV3.out]; rfl)
    have g0 : w3.cell? ⟨w.heap.size, 0, none⟩ = some (.slice la ln lc) := (by rw [cell_of_row _ _ 0 _ 24 _ HG3.out]; rfl)
    have g1 : w3.cell? ⟨w.heap.size, 1, none⟩ = some (.int .i64 ra) := (by rw [cell_of_row _ _ 1 _ 24 _ HG3.out]; rfl)
    have h0 : w3.cell? ⟨(w.heap.size + 1), 0, none⟩ = some (.slice lb lm ld) := (by rw [cell_of_row _ _ 0 _ 24 _ HH3.out]; rfl)
    have h1 : w3.cell? ⟨(w.heap.size + 1), 1, none⟩ = some (.int .i64 rb) := (by rw [cell_of_row _ _ 1 _ 24 _ HH3.out]; rfl)
    have KLIV : Hid (∀ W', Below w3.heap.size w3 W' → Calls Tryz.prog 29 #[] W' fun e w' => e = .returned (.bool true) ∧ Below W'.heap.size W' w') := Lib.hid (fun W' _ => Val.lives_true W')
    have KFA : Hid (∀ W', Below w3.heap.size w3 W' → Calls Tryz.prog 8 #[.agg #[.slice la ln lc, .int .i64 ra]] W' (BoolPost W' (fewB A))) := Lib.hid (fun W' hb => few_max W' la ln lc ra A (HA.out.on (HB3.out.trans (hb.mono HB3.out.size))) HLN.out)
    have KFB : Hid (∀ W', Below w3.heap.size w3 W' → Calls Tryz.prog 8 #[.agg #[.slice lb lm ld, .int .i64 rb]] W' (BoolPost W' (fewB B))) := Lib.hid (fun W' hb => few_max W' lb lm ld rb B (HB.out.on (HB3.out.trans (hb.mono HB3.out.size))) HLM.out)
    have BA : Hid (fewB A = true → HeadsIn w3 la ln A ∧ (ln : Int) ≤ 100000) := Lib.hid (fun h => by
      have h1 := h
      unfold fewB at h
      simp only [Bool.and_eq_true, decide_eq_true_eq] at h
      exact ⟨(HA.out.on HB3.out).bounded h.1, by have := HA.out.1; omega⟩)
    have BB : Hid (fewB B = true → HeadsIn w3 lb lm B ∧ (lm : Int) ≤ 100000) := Lib.hid (fun h => by
      unfold fewB at h
      simp only [Bool.and_eq_true, decide_eq_true_eq] at h
      exact ⟨(HB.out.on HB3.out).bounded h.1, by have := HB.out.1; omega⟩)
    have KRB : Hid (fewB B = true → ∀ W', Below w3.heap.size w3 W' → Calls Tryz.prog 9 #[.agg #[.slice lb lm ld, .int .i64 rb]] W' (BoolPost W' (graphB rb B))) := Lib.hid (fun h W' hb => right_h W' lb lm ld rb B ((BB.out h).1.on hb) (BB.out h).2)
    have KRA : Hid (fewB A = true → ∀ W', Below w3.heap.size w3 W' → Calls Tryz.prog 9 #[.agg #[.slice la ln lc, .int .i64 ra]] W' (BoolPost W' (graphB ra A))) := Lib.hid (fun h W' hb => right_h W' la ln lc ra A ((BA.out h).1.on hb) (BA.out h).2)
    have VS3 : Hid (∀ W', Below w3.heap.size w3 W' → Val.VS W' F ⟨xkd, xki, xkb, xkt, xna, xnn, xnc, xka, xkn, xkc, xfp, xhv⟩ v ∧ ∀ b, F b → b < W'.heap.size) := Lib.hid (fun W' hb => by
      have h1 : ∀ b, F b → W'.heap[b]? = mw.heap[b]? := fun b hb' => (hb.block b (Nat.lt_of_lt_of_le (HF.out b hb') HM3.out.size)).trans (HM3.out.block b (HF.out b hb'))
      exact ⟨HVS.out.on (fun _ h => h) h1, fun b hb' => Nat.lt_of_lt_of_le (HF.out b hb') (Nat.le_trans HM3.out.size hb.size)⟩)
    have KHA : Hid (fewB A = true → ∀ W', Below w3.heap.size w3 W' → Calls Tryz.prog 30 #[.agg #[.int .i64 xkd, .int .i64 xki, .int .u64 xkb, .string xkt, .slice xna xnn xnc, .slice xka xkn xkc, .pointer xfp, .int .i64 xhv], .agg #[.slice la ln lc, .int .i64 ra]] W' (BoolPost W' (graphB ra A && hasB A v ra))) := Lib.hid (fun h W' hb => has_any (k := (⟨xkd, xki, xkb, xkt, xna, xnn, xnc, xka, xkn, xkc, xfp, xhv⟩ : Val.Kid)) (v := v) W' F la ln lc ra A ((BA.out h).1.on hb) (BA.out h).2 (VS3.out W' hb).2 (VS3.out W' hb).1)
    have KHB : Hid (fewB B = true → ∀ W', Below w3.heap.size w3 W' → Calls Tryz.prog 30 #[.agg #[.int .i64 xkd, .int .i64 xki, .int .u64 xkb, .string xkt, .slice xna xnn xnc, .slice xka xkn xkc, .pointer xfp, .int .i64 xhv], .agg #[.slice lb lm ld, .int .i64 rb]] W' (BoolPost W' (graphB rb B && hasB B v rb))) := Lib.hid (fun h W' hb => has_any (k := (⟨xkd, xki, xkb, xkt, xna, xnn, xnc, xka, xkn, xkc, xfp, xhv⟩ : Val.Kid)) (v := v) W' F lb lm ld rb B ((BB.out h).1.on hb) (BB.out h).2 (VS3.out W' hb).2 (VS3.out W' hb).1)
    have KLA : Hid (fewB A = true → graphB ra A = true → ∀ W', Below w3.heap.size w3 W' → Calls Tryz.prog 31 #[.agg #[.int .i64 xkd, .int .i64 xki, .int .u64 xkb, .string xkt, .slice xna xnn xnc, .slice xka xkn xkc, .pointer xfp, .int .i64 xhv], .slice la ln lc, .int .i64 ra] W' (BoolPost W' (hasB A v ra))) := Lib.hid (fun h hg W' hb => (both_any (k := (⟨xkd, xki, xkb, xkt, xna, xnn, xnc, xka, xkn, xkc, xfp, xhv⟩ : Val.Kid)) (v := v) W' F la ln lc A ((BA.out h).1.on hb) (BA.out h).2 (OkHeads.of_graph hg).1 (VS3.out W' hb).2 (VS3.out W' hb).1 W' (Below.refl _ _) ra (OkHeads.of_graph hg).2.1 (by rw [HA.out.1]; exact (OkHeads.of_graph hg).2.2)).2)
    have KBE : Hid (fewB A = true → graphB ra A = true → fewB B = true → graphB rb B = true → ∀ W', Below w3.heap.size w3 W' → Calls Tryz.prog 32 #[.agg #[.slice la ln lc, .int .i64 ra], .agg #[.slice lb lm ld, .int .i64 rb]] W' fun e w' => ∃ b : Bool, e = .returned (.bool b) ∧ Below W'.heap.size W' w' ∧ (b = true → hasB A v ra = true → hasB B v rb = true)) := Lib.hid (fun fe1 ge1 fe2 ge2 W' hb => by
      obtain ⟨o1, p1, q1⟩ := OkHeads.of_graph ge1
      obtain ⟨o2, p2, q2⟩ := OkHeads.of_graph ge2
      obtain ⟨a, rfl⟩ : ∃ a : Nat, ra = (a : Int) := ⟨ra.toNat, by omega⟩
      obtain ⟨b, rfl⟩ : ∃ b : Nat, rb = (b : Int) := ⟨rb.toNat, by omega⟩
      refine (rbelow_any W' la lb ln lc lm ld A B ((BA.out fe1).1.on hb) ((BB.out fe2).1.on hb) (BA.out fe1).2 (BB.out fe2).2 o1 o2 a b (by omega) (by omega)).mono ?_
      rintro e w' ⟨b', rfl, hb', hs⟩
      refine ⟨b', rfl, hb', fun hbt ha => ?_⟩
      obtain ⟨U, D, hC, hU⟩ := hs hbt
      exact has_sound A B o1 o2 U D hC v a b (by omega) (by omega) hU ha)
    clear HM HA HB HLN HLM HVS HF HBA HGA HGB HGM HHM
    have Efa : Hid (∃ c : Bool, fewB A = c) := Lib.hid ⟨_, rfl⟩
    obtain ⟨cfa, hfa⟩ := Efa.out
    have Hfa := Lib.hid hfa
    rw [hfa] at KFA
    clear hfa
    cases cfa with
    | false =>
      go_upto_region 3 with (first | (go_at_call 29; (with_reducible refine (KLIV.out _ (Below.refl _ _)).mono ?_); rintro e w4 ⟨rfl, hb9⟩; have HBw4 : Hid (Below w3.heap.size w3 w4) := Lib.hid hb9; have ag0 : w4.cell? ⟨w.heap.size, 0, none⟩ = some (.slice la ln lc) := keepB HBw4.out HLG.out g0; have ag1 : w4.cell? ⟨w.heap.size, 1, none⟩ = some (.int .i64 ra) := keepB HBw4.out HLG.out g1; clear hb9) | (go_at_call 8; (with_reducible refine (KFA.out _ HBw4.out).mono ?_); rintro e w5 ⟨rfl, hb9⟩; have HBw5 : Hid (Below w3.heap.size w3 w5) := Lib.hid (HBw4.out.trans (hb9.mono HBw4.out.size)); have bh0 : w5.cell? ⟨(w.heap.size + 1), 0, none⟩ = some (.slice lb lm ld) := keepB HBw5.out HLH.out h0; have bh1 : w5.cell? ⟨(w.heap.size + 1), 1, none⟩ = some (.int .i64 rb) := keepB HBw5.out HLH.out h1; clear hb9))
      go_wp2_with (go_at_call 29; (with_reducible refine (KLIV.out _ HBw5.out).mono ?_); rintro e wz ⟨rfl, hz9⟩)
      go_ret
      exact ⟨rfl, HB3.out.trans ((HBw5.out.trans (hz9.mono HBw5.out.size)).mono HB3.out.size)⟩
    | true =>
      have Efb : Hid (∃ c : Bool, fewB B = c) := Lib.hid ⟨_, rfl⟩
      obtain ⟨cfb, hfb⟩ := Efb.out
      have Hfb := Lib.hid hfb
      rw [hfb] at KFB
      clear hfb
      cases cfb with
      | false =>
        go_upto_region 3 with (first | (go_at_call 29; (with_reducible refine (KLIV.out _ (Below.refl _ _)).mono ?_); rintro e w4 ⟨rfl, hb9⟩; have HBw4 : Hid (Below w3.heap.size w3 w4) := Lib.hid hb9; have ag0 : w4.cell? ⟨w.heap.size, 0, none⟩ = some (.slice la ln lc) := keepB HBw4.out HLG.out g0; have ag1 : w4.cell? ⟨w.heap.size, 1, none⟩ = some (.int .i64 ra) := keepB HBw4.out HLG.out g1; clear hb9) | (go_at_call 8; (with_reducible refine (KFA.out _ HBw4.out).mono ?_); rintro e w5 ⟨rfl, hb9⟩; have HBw5 : Hid (Below w3.heap.size w3 w5) := Lib.hid (HBw4.out.trans (hb9.mono HBw4.out.size)); have bh0 : w5.cell? ⟨(w.heap.size + 1), 0, none⟩ = some (.slice lb lm ld) := keepB HBw5.out HLH.out h0; have bh1 : w5.cell? ⟨(w.heap.size + 1), 1, none⟩ = some (.int .i64 rb) := keepB HBw5.out HLH.out h1; clear hb9) | (go_at_call 8; (with_reducible refine (KFB.out _ HBw5.out).mono ?_); rintro e w6 ⟨rfl, hb9⟩; have HBw6 : Hid (Below w3.heap.size w3 w6) := Lib.hid (HBw5.out.trans (hb9.mono HBw5.out.size)); have ch0 : w6.cell? ⟨(w.heap.size + 1), 0, none⟩ = some (.slice lb lm ld) := keepB HBw6.out HLH.out h0; have ch1 : w6.cell? ⟨(w.heap.size + 1), 1, none⟩ = some (.int .i64 rb) := keepB HBw6.out HLH.out h1; clear hb9))
        go_wp2_with (go_at_call 29; (with_reducible refine (KLIV.out _ HBw6.out).mono ?_); rintro e wz ⟨rfl, hz9⟩)
        go_ret
        exact ⟨rfl, HB3.out.trans ((HBw6.out.trans (hz9.mono HBw6.out.size)).mono HB3.out.size)⟩
      | true =>
        have KRB1 := Lib.hid (KRB.out Hfb.out)
        have KRA1 := Lib.hid (KRA.out Hfa.out)
        have Egb : Hid (∃ c : Bool, graphB rb B = c) := Lib.hid ⟨_, rfl⟩
        obtain ⟨cgb, hgb⟩ := Egb.out
        have Hgb := Lib.hid hgb
        rw [hgb] at KRB1
        clear hgb KRB KRA
        cases cgb with
        | false =>
          go_upto_region 3 with (first | (go_at_call 29; (with_reducible refine (KLIV.out _ (Below.refl _ _)).mono ?_); rintro e w4 ⟨rfl, hb9⟩; have HBw4 : Hid (Below w3.heap.size w3 w4) := Lib.hid hb9; have ag0 : w4.cell? ⟨w.heap.size, 0, none⟩ = some (.slice la ln lc) := keepB HBw4.out HLG.out g0; have ag1 : w4.cell? ⟨w.heap.size, 1, none⟩ = some (.int .i64 ra) := keepB HBw4.out HLG.out g1; clear hb9) | (go_at_call 8; (with_reducible refine (KFA.out _ HBw4.out).mono ?_); rintro e w5 ⟨rfl, hb9⟩; have HBw5 : Hid (Below w3.heap.size w3 w5) := Lib.hid (HBw4.out.trans (hb9.mono HBw4.out.size)); have bh0 : w5.cell? ⟨(w.heap.size + 1), 0, none⟩ = some (.slice lb lm ld) := keepB HBw5.out HLH.out h0; have bh1 : w5.cell? ⟨(w.heap.size + 1), 1, none⟩ = some (.int .i64 rb) := keepB HBw5.out HLH.out h1; clear hb9) | (go_at_call 8; (with_reducible refine (KFB.out _ HBw5.out).mono ?_); rintro e w6 ⟨rfl, hb9⟩; have HBw6 : Hid (Below w3.heap.size w3 w6) := Lib.hid (HBw5.out.trans (hb9.mono HBw5.out.size)); have ch0 : w6.cell? ⟨(w.heap.size + 1), 0, none⟩ = some (.slice lb lm ld) := keepB HBw6.out HLH.out h0; have ch1 : w6.cell? ⟨(w.heap.size + 1), 1, none⟩ = some (.int .i64 rb) := keepB HBw6.out HLH.out h1; clear hb9) | (go_at_call 9; (with_reducible refine (KRB1.out _ HBw6.out).mono ?_); rintro e w7 ⟨rfl, hb9⟩; have HBw7 : Hid (Below w3.heap.size w3 w7) := Lib.hid (HBw6.out.trans (hb9.mono HBw6.out.size)); have dg0 : w7.cell? ⟨w.heap.size, 0, none⟩ = some (.slice la ln lc) := keepB HBw7.out HLG.out g0; have dg1 : w7.cell? ⟨w.heap.size, 1, none⟩ = some (.int .i64 ra) := keepB HBw7.out HLG.out g1; clear hb9))
          go_wp2_with (go_at_call 29; (with_reducible refine (KLIV.out _ HBw7.out).mono ?_); rintro e wz ⟨rfl, hz9⟩)
          go_ret
          exact ⟨rfl, HB3.out.trans ((HBw7.out.trans (hz9.mono HBw7.out.size)).mono HB3.out.size)⟩
        | true =>
          have Ega : Hid (∃ c : Bool, graphB ra A = c) := Lib.hid ⟨_, rfl⟩
          obtain ⟨cga, hga⟩ := Ega.out
          have Hga := Lib.hid hga
          rw [hga] at KRA1
          clear hga
          have KHA1 := Lib.hid (KHA.out Hfa.out)
          have KHB1 := Lib.hid (KHB.out Hfb.out)
          rw [Hga.out] at KHA1
          rw [Hgb.out] at KHB1
          clear KHA KHB
          cases cga with
          | false =>
            have KHA2 : Hid (∀ W', Below w3.heap.size w3 W' → Calls Tryz.prog 30 #[.agg #[.int .i64 xkd, .int .i64 xki, .int .u64 xkb, .string xkt, .slice xna xnn xnc, .slice xka xkn xkc, .pointer xfp, .int .i64 xhv], .agg #[.slice la ln lc, .int .i64 ra]] W' (BoolPost W' false)) := Lib.hid KHA1.out
            go_wp2_with (first | (go_at_call 29; (with_reducible refine (KLIV.out _ (Below.refl _ _)).mono ?_); rintro e w4 ⟨rfl, hb9⟩; have HBw4 : Hid (Below w3.heap.size w3 w4) := Lib.hid hb9; have ag0 : w4.cell? ⟨w.heap.size, 0, none⟩ = some (.slice la ln lc) := keepB HBw4.out HLG.out g0; have ag1 : w4.cell? ⟨w.heap.size, 1, none⟩ = some (.int .i64 ra) := keepB HBw4.out HLG.out g1; clear hb9) | (go_at_call 8; (with_reducible refine (KFA.out _ HBw4.out).mono ?_); rintro e w5 ⟨rfl, hb9⟩; have HBw5 : Hid (Below w3.heap.size w3 w5) := Lib.hid (HBw4.out.trans (hb9.mono HBw4.out.size)); have bh0 : w5.cell? ⟨(w.heap.size + 1), 0, none⟩ = some (.slice lb lm ld) := keepB HBw5.out HLH.out h0; have bh1 : w5.cell? ⟨(w.heap.size + 1), 1, none⟩ = some (.int .i64 rb) := keepB HBw5.out HLH.out h1; clear hb9) | (go_at_call 8; (with_reducible refine (KFB.out _ HBw5.out).mono ?_); rintro e w6 ⟨rfl, hb9⟩; have HBw6 : Hid (Below w3.heap.size w3 w6) := Lib.hid (HBw5.out.trans (hb9.mono HBw5.out.size)); have ch0 : w6.cell? ⟨(w.heap.size + 1), 0, none⟩ = some (.slice lb lm ld) := keepB HBw6.out HLH.out h0; have ch1 : w6.cell? ⟨(w.heap.size + 1), 1, none⟩ = some (.int .i64 rb) := keepB HBw6.out HLH.out h1; clear hb9) | (go_at_call 9; (with_reducible refine (KRB1.out _ HBw6.out).mono ?_); rintro e w7 ⟨rfl, hb9⟩; have HBw7 : Hid (Below w3.heap.size w3 w7) := Lib.hid (HBw6.out.trans (hb9.mono HBw6.out.size)); have dg0 : w7.cell? ⟨w.heap.size, 0, none⟩ = some (.slice la ln lc) := keepB HBw7.out HLG.out g0; have dg1 : w7.cell? ⟨w.heap.size, 1, none⟩ = some (.int .i64 ra) := keepB HBw7.out HLG.out g1; clear hb9) | (go_at_call 9; (with_reducible refine (KRA1.out _ HBw7.out).mono ?_); rintro e w8 ⟨rfl, hb9⟩; have HBw8 : Hid (Below w3.heap.size w3 w8) := Lib.hid (HBw7.out.trans (hb9.mono HBw7.out.size)); have ev0 : w8.cell? ⟨mw.heap.size, 0, none⟩ = some (.int .i64 xkd) := keepB HBw8.out HLV.out v0; have ev1 : w8.cell? ⟨mw.heap.size, 1, none⟩ = some (.int .i64 xki) := keepB HBw8.out HLV.out v1; have ev2 : w8.cell? ⟨mw.heap.size, 2, none⟩ = some (.int .u64 xkb) := keepB HBw8.out HLV.out v2; have ev3 : w8.cell? ⟨mw.heap.size, 3, none⟩ = some (.string xkt) := keepB HBw8.out HLV.out v3; have ev4 : w8.cell? ⟨mw.heap.size, 4, none⟩ = some (.slice xna xnn xnc) := keepB HBw8.out HLV.out v4; have ev5 : w8.cell? ⟨mw.heap.size, 5, none⟩ = some (.slice xka xkn xkc) := keepB HBw8.out HLV.out v5; have ev6 : w8.cell? ⟨mw.heap.size, 6, none⟩ = some (.pointer xfp) := keepB HBw8.out HLV.out v6; have ev7 : w8.cell? ⟨mw.heap.size, 7, none⟩ = some (.int .i64 xhv) := keepB HBw8.out HLV.out v7; have eg0 : w8.cell? ⟨w.heap.size, 0, none⟩ = some (.slice la ln lc) := keepB HBw8.out HLG.out g0; have eg1 : w8.cell? ⟨w.heap.size, 1, none⟩ = some (.int .i64 ra) := keepB HBw8.out HLG.out g1; clear hb9) | (go_at_call 30; (with_reducible refine (KHA2.out _ HBw8.out).mono ?_); rintro e w9 ⟨rfl, hb9⟩))
            go_ret
            exact ⟨rfl, HB3.out.trans ((HBw8.out.trans (hb9.mono HBw8.out.size)).mono HB3.out.size)⟩
          | true =>
            have KL1 := Lib.hid (KLA.out Hfa.out Hga.out)
            have KB1 := Lib.hid (KBE.out Hfa.out Hga.out Hfb.out Hgb.out)
            clear KLA KBE
            have KHA2 : Hid (∀ W', Below w3.heap.size w3 W' → Calls Tryz.prog 30 #[.agg #[.int .i64 xkd, .int .i64 xki, .int .u64 xkb, .string xkt, .slice xna xnn xnc, .slice xka xkn xkc, .pointer xfp, .int .i64 xhv], .agg #[.slice la ln lc, .int .i64 ra]] W' (BoolPost W' (hasB A v ra))) := Lib.hid KHA1.out
            have KHB2 : Hid (∀ W', Below w3.heap.size w3 W' → Calls Tryz.prog 30 #[.agg #[.int .i64 xkd, .int .i64 xki, .int .u64 xkb, .string xkt, .slice xna xnn xnc, .slice xka xkn xkc, .pointer xfp, .int .i64 xhv], .agg #[.slice lb lm ld, .int .i64 rb]] W' (BoolPost W' (hasB B v rb))) := Lib.hid KHB1.out
            clear KHA1 KHB1
            generalize hasB A v ra = pa at *
            generalize hasB B v rb = pb at *
            go_upto_region 6 with (first | (go_at_call 29; (with_reducible refine (KLIV.out _ (Below.refl _ _)).mono ?_); rintro e w4 ⟨rfl, hb9⟩; have HBw4 : Hid (Below w3.heap.size w3 w4) := Lib.hid hb9; have ag0 : w4.cell? ⟨w.heap.size, 0, none⟩ = some (.slice la ln lc) := keepB HBw4.out HLG.out g0; have ag1 : w4.cell? ⟨w.heap.size, 1, none⟩ = some (.int .i64 ra) := keepB HBw4.out HLG.out g1; clear hb9) | (go_at_call 8; (with_reducible refine (KFA.out _ HBw4.out).mono ?_); rintro e w5 ⟨rfl, hb9⟩; have HBw5 : Hid (Below w3.heap.size w3 w5) := Lib.hid (HBw4.out.trans (hb9.mono HBw4.out.size)); have bh0 : w5.cell? ⟨(w.heap.size + 1), 0, none⟩ = some (.slice lb lm ld) := keepB HBw5.out HLH.out h0; have bh1 : w5.cell? ⟨(w.heap.size + 1), 1, none⟩ = some (.int .i64 rb) := keepB HBw5.out HLH.out h1; clear hb9) | (go_at_call 8; (with_reducible refine (KFB.out _ HBw5.out).mono ?_); rintro e w6 ⟨rfl, hb9⟩; have HBw6 : Hid (Below w3.heap.size w3 w6) := Lib.hid (HBw5.out.trans (hb9.mono HBw5.out.size)); have ch0 : w6.cell? ⟨(w.heap.size + 1), 0, none⟩ = some (.slice lb lm ld) := keepB HBw6.out HLH.out h0; have ch1 : w6.cell? ⟨(w.heap.size + 1), 1, none⟩ = some (.int .i64 rb) := keepB HBw6.out HLH.out h1; clear hb9) | (go_at_call 9; (with_reducible refine (KRB1.out _ HBw6.out).mono ?_); rintro e w7 ⟨rfl, hb9⟩; have HBw7 : Hid (Below w3.heap.size w3 w7) := Lib.hid (HBw6.out.trans (hb9.mono HBw6.out.size)); have dg0 : w7.cell? ⟨w.heap.size, 0, none⟩ = some (.slice la ln lc) := keepB HBw7.out HLG.out g0; have dg1 : w7.cell? ⟨w.heap.size, 1, none⟩ = some (.int .i64 ra) := keepB HBw7.out HLG.out g1; clear hb9) | (go_at_call 9; (with_reducible refine (KRA1.out _ HBw7.out).mono ?_); rintro e w8 ⟨rfl, hb9⟩; have HBw8 : Hid (Below w3.heap.size w3 w8) := Lib.hid (HBw7.out.trans (hb9.mono HBw7.out.size)); have ev0 : w8.cell? ⟨mw.heap.size, 0, none⟩ = some (.int .i64 xkd) := keepB HBw8.out HLV.out v0; have ev1 : w8.cell? ⟨mw.heap.size, 1, none⟩ = some (.int .i64 xki) := keepB HBw8.out HLV.out v1; have ev2 : w8.cell? ⟨mw.heap.size, 2, none⟩ = some (.int .u64 xkb) := keepB HBw8.out HLV.out v2; have ev3 : w8.cell? ⟨mw.heap.size, 3, none⟩ = some (.string xkt) := keepB HBw8.out HLV.out v3; have ev4 : w8.cell? ⟨mw.heap.size, 4, none⟩ = some (.slice xna xnn xnc) := keepB HBw8.out HLV.out v4; have ev5 : w8.cell? ⟨mw.heap.size, 5, none⟩ = some (.slice xka xkn xkc) := keepB HBw8.out HLV.out v5; have ev6 : w8.cell? ⟨mw.heap.size, 6, none⟩ = some (.pointer xfp) := keepB HBw8.out HLV.out v6; have ev7 : w8.cell? ⟨mw.heap.size, 7, none⟩ = some (.int .i64 xhv) := keepB HBw8.out HLV.out v7; have eg0 : w8.cell? ⟨w.heap.size, 0, none⟩ = some (.slice la ln lc) := keepB HBw8.out HLG.out g0; have eg1 : w8.cell? ⟨w.heap.size, 1, none⟩ = some (.int .i64 ra) := keepB HBw8.out HLG.out g1; clear hb9))
            go_region_held3 (fun w' => w'.cell? ⟨mw.heap.size, 0, none⟩ = some (.int .i64 xkd) ∧ w'.cell? ⟨mw.heap.size, 1, none⟩ = some (.int .i64 xki) ∧ w'.cell? ⟨mw.heap.size, 2, none⟩ = some (.int .u64 xkb) ∧ w'.cell? ⟨mw.heap.size, 3, none⟩ = some (.string xkt) ∧ w'.cell? ⟨mw.heap.size, 4, none⟩ = some (.slice xna xnn xnc) ∧ w'.cell? ⟨mw.heap.size, 5, none⟩ = some (.slice xka xkn xkc) ∧ w'.cell? ⟨mw.heap.size, 6, none⟩ = some (.pointer xfp) ∧ w'.cell? ⟨mw.heap.size, 7, none⟩ = some (.int .i64 xhv) ∧ w'.cell? ⟨w.heap.size, 0, none⟩ = some (.slice la ln lc) ∧ w'.cell? ⟨w.heap.size, 1, none⟩ = some (.int .i64 ra)) (first | exact ⟨ev0, ev1, ev2, ev3, ev4, ev5, ev6, ev7, eg0, eg1⟩ | exact ⟨fv0, fv1, fv2, fv3, fv4, fv5, fv6, fv7, fg0, fg1⟩ | exact ⟨iv0, iv1, iv2, iv3, iv4, iv5, iv6, iv7, ig0, ig1⟩)
              (first | (go_at_call 30; (with_reducible refine (KHA2.out _ (by exact HBw8.out.drew)).mono ?_); rintro e w9 ⟨rfl, hb9⟩; have HBw9 : Hid (Below w3.heap.size w3 w9) := Lib.hid (HBw8.out.drew.trans (hb9.mono HBw8.out.size)); have fv0 : w9.cell? ⟨mw.heap.size, 0, none⟩ = some (.int .i64 xkd) := keepB HBw9.out HLV.out v0; have fv1 : w9.cell? ⟨mw.heap.size, 1, none⟩ = some (.int .i64 xki) := keepB HBw9.out HLV.out v1; have fv2 : w9.cell? ⟨mw.heap.size, 2, none⟩ = some (.int .u64 xkb) := keepB HBw9.out HLV.out v2; have fv3 : w9.cell? ⟨mw.heap.size, 3, none⟩ = some (.string xkt) := keepB HBw9.out HLV.out v3; have fv4 : w9.cell? ⟨mw.heap.size, 4, none⟩ = some (.slice xna xnn xnc) := keepB HBw9.out HLV.out v4; have fv5 : w9.cell? ⟨mw.heap.size, 5, none⟩ = some (.slice xka xkn xkc) := keepB HBw9.out HLV.out v5; have fv6 : w9.cell? ⟨mw.heap.size, 6, none⟩ = some (.pointer xfp) := keepB HBw9.out HLV.out v6; have fv7 : w9.cell? ⟨mw.heap.size, 7, none⟩ = some (.int .i64 xhv) := keepB HBw9.out HLV.out v7; have fg0 : w9.cell? ⟨w.heap.size, 0, none⟩ = some (.slice la ln lc) := keepB HBw9.out HLG.out g0; have fg1 : w9.cell? ⟨w.heap.size, 1, none⟩ = some (.int .i64 ra) := keepB HBw9.out HLG.out g1; clear hb9) | (go_at_call 31; (with_reducible refine (KL1.out _ (by exact HBw9.out)).mono ?_); rintro e w10 ⟨rfl, hb9⟩; have HBw10 : Hid (Below w3.heap.size w3 w10) := Lib.hid (HBw9.out.trans (hb9.mono HBw9.out.size)); have iv0 : w10.cell? ⟨mw.heap.size, 0, none⟩ = some (.int .i64 xkd) := keepB HBw10.out HLV.out v0; have iv1 : w10.cell? ⟨mw.heap.size, 1, none⟩ = some (.int .i64 xki) := keepB HBw10.out HLV.out v1; have iv2 : w10.cell? ⟨mw.heap.size, 2, none⟩ = some (.int .u64 xkb) := keepB HBw10.out HLV.out v2; have iv3 : w10.cell? ⟨mw.heap.size, 3, none⟩ = some (.string xkt) := keepB HBw10.out HLV.out v3; have iv4 : w10.cell? ⟨mw.heap.size, 4, none⟩ = some (.slice xna xnn xnc) := keepB HBw10.out HLV.out v4; have iv5 : w10.cell? ⟨mw.heap.size, 5, none⟩ = some (.slice xka xkn xkc) := keepB HBw10.out HLV.out v5; have iv6 : w10.cell? ⟨mw.heap.size, 6, none⟩ = some (.pointer xfp) := keepB HBw10.out HLV.out v6; have iv7 : w10.cell? ⟨mw.heap.size, 7, none⟩ = some (.int .i64 xhv) := keepB HBw10.out HLV.out v7; have ig0 : w10.cell? ⟨w.heap.size, 0, none⟩ = some (.slice la ln lc) := keepB HBw10.out HLG.out g0; have ig1 : w10.cell? ⟨w.heap.size, 1, none⟩ = some (.int .i64 ra) := keepB HBw10.out HLG.out g1; clear hb9))
            cases pa with
            | false =>
              go_wp2_with (go_at_call 30; (with_reducible refine (KHA2.out _ HBw10.out).mono ?_); rintro e w11 ⟨rfl, hb9⟩)
              go_ret
              exact ⟨rfl, HB3.out.trans ((HBw10.out.trans (hb9.mono HBw10.out.size)).mono HB3.out.size)⟩
            | true =>
              go_upto_region 8 with (fail)
              go_wp2_with (first
                | (go_at_call 30; (with_reducible refine (KHA2.out _ HBw10.out).mono ?_); rintro e w11 ⟨rfl, hb9⟩; have HBw11 : Hid (Below w3.heap.size w3 w11) := Lib.hid (HBw10.out.trans (hb9.mono HBw10.out.size)); have jg0 : w11.cell? ⟨w.heap.size, 0, none⟩ = some (.slice la ln lc) := keepB HBw11.out HLG.out g0; have jg1 : w11.cell? ⟨w.heap.size, 1, none⟩ = some (.int .i64 ra) := keepB HBw11.out HLG.out g1; have jh0 : w11.cell? ⟨(w.heap.size + 1), 0, none⟩ = some (.slice lb lm ld) := keepB HBw11.out HLH.out h0; have jh1 : w11.cell? ⟨(w.heap.size + 1), 1, none⟩ = some (.int .i64 rb) := keepB HBw11.out HLH.out h1; clear hb9)
                | (go_at_call 32; (with_reducible refine (KB1.out _ HBw11.out).mono ?_); rintro e w12 ⟨bb, rfl, hb9, hs⟩; have HSS := Lib.hid hs; have HBw12 : Hid (Below w3.heap.size w3 w12) := Lib.hid (HBw11.out.trans (hb9.mono HBw11.out.size)); have mv0 : w12.cell? ⟨mw.heap.size, 0, none⟩ = some (.int .i64 xkd) := keepB HBw12.out HLV.out v0; have mv1 : w12.cell? ⟨mw.heap.size, 1, none⟩ = some (.int .i64 xki) := keepB HBw12.out HLV.out v1; have mv2 : w12.cell? ⟨mw.heap.size, 2, none⟩ = some (.int .u64 xkb) := keepB HBw12.out HLV.out v2; have mv3 : w12.cell? ⟨mw.heap.size, 3, none⟩ = some (.string xkt) := keepB HBw12.out HLV.out v3; have mv4 : w12.cell? ⟨mw.heap.size, 4, none⟩ = some (.slice xna xnn xnc) := keepB HBw12.out HLV.out v4; have mv5 : w12.cell? ⟨mw.heap.size, 5, none⟩ = some (.slice xka xkn xkc) := keepB HBw12.out HLV.out v5; have mv6 : w12.cell? ⟨mw.heap.size, 6, none⟩ = some (.pointer xfp) := keepB HBw12.out HLV.out v6; have mv7 : w12.cell? ⟨mw.heap.size, 7, none⟩ = some (.int .i64 xhv) := keepB HBw12.out HLV.out v7; have mh0 : w12.cell? ⟨(w.heap.size + 1), 0, none⟩ = some (.slice lb lm ld) := keepB HBw12.out HLH.out h0; have mh1 : w12.cell? ⟨(w.heap.size + 1), 1, none⟩ = some (.int .i64 rb) := keepB HBw12.out HLH.out h1; clear hb9 hs; cases bb)
                | (go_at_call 30; (with_reducible refine (KHB2.out _ HBw12.out).mono ?_); rintro e w13 ⟨rfl, hb9⟩; have HBw13 : Hid (Below w3.heap.size w3 w13) := Lib.hid (HBw12.out.trans (hb9.mono HBw12.out.size)); clear hb9))
              all_goals
                go_ret
                first
                  | exact ⟨by rw [HSS.out (by first | rfl | trivial) (by first | rfl | trivial)]; rfl, HB3.out.trans (HBw13.out.mono HB3.out.size)⟩
                  | exact ⟨rfl, HB3.out.trans (HBw12.out.mono HB3.out.size)⟩
end Go.Proofs.YtoakfninndkgaaaGreatDoor
