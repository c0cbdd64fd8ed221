/- Walks: Few. -/
import Derived.Test.YtifilhkkgkihpaaGreatDoorAs35
import Derived.Test.YtifilhkkgkihpaaGreatDoorAs05
set_option linter.unusedSimpArgs false
set_option linter.unusedVariables false
set_option linter.unusedSimpArgs false
set_option linter.unusedVariables false
namespace Go.Proofs.YtifilhkkgkihpaaGreatDoor
open Go.RowKit
set_option maxRecDepth 20000 in
set_option maxHeartbeats 4000000 in
theorem few_top (w : World) (la : Option Addr) (ln lc : Nat) (root : Int) (HS : List Hd) (hH : HeadsRaw w la ln HS) (hln : (ln : Int) ≤ maxLen) :
    Calls Tryz.prog 32 #[.agg #[.slice la ln lc, .int .i64 root]] w (BoolPost w (fewB HS)) := by
  have HLN := Lib.hid hln
  clear hln
  have HC := Lib.hid hH.2
  have HL := Lib.hid hH.1
  have hxb : (w.alloc (.cells #[.slice la ln lc, .int .i64 root] 36)).heap[w.heap.size]? = some (.cells #[.slice la ln lc, .int .i64 root] 36 (0, 0)) := heap_alloc_new w _
  have HXB := Lib.hid hxb
  have HBA : Hid (Below w.heap.size w (w.alloc (.cells #[.slice la ln lc, .int .i64 root] 36))) := Lib.hid ((Below.refl _ _).alloc (Nat.le_refl _) _)
  clear hH hxb
  go_enter Tryz.func32, Tryz.ntmps32
  go_upto_region 1 with (fail)
  generalize (w.alloc (.cells #[.slice la ln lc, .int .i64 root] 36)) = w1 at *
  have a0 : w1.cell? ⟨w.heap.size, 0, none⟩ = some (.slice la ln lc) := (by rw [cell_of_row _ _ 0 _ 36 _ HXB.out]; rfl)
  go_wp2
  clear a0
  have HXL : Hid (w.heap.size < w1.heap.size) := Lib.hid (Array.getElem?_eq_some_iff.1 HXB.out).1
  go_loopw [10] (fun s10 wr => ∃ j : Nat, s10 = .int .i64 (j : Int) ∧ j ≤ ln ∧ Hid (Below w1.heap.size w1 wr) ∧ Hid (∀ i h, i < j → HS[i]? = some h → fewH h = true)) (fun s10 _ => ln - (intOf s10).toNat)
  case atStart => exact ⟨0, rfl, Nat.zero_le _, Lib.hid (Below.refl _ _), Lib.hid (fun i h hi => by omega)⟩
  case round =>
    obtain ⟨j, rfl, hj, HBR, HA⟩ := hrel
    have HJ := Lib.hid hj
    by_cases hjk : j < ln
    · have hwj : IntKind.i64.wrap ((j : Int) + 1) = (j : Int) + 1 := by rw [IntKind.wrap_i64]; have h9 := HLN.out; simp only [maxLen] at h9; omega
      have hjk2 : (j : Int) < ln := by omega
      obtain ⟨g, o, rfl, hg, hc⟩ := HC.out.resolve_left (by omega)
      obtain ⟨h, hh⟩ : ∃ h, HS[j]? = some h := ⟨_, List.getElem?_eq_getElem (by rw [← HL.out]; exact hjk)⟩
      have HH := Lib.hid hh
      have hin := hc j h hh
      have HIN := Lib.hid hin
      have hbr : Below w.heap.size w wr := HBA.out.trans (HBR.out.mono HBA.out.size)
      have b0 : wr.cell? ⟨g, o + j * 4, none⟩ = some (.int .i64 h.kd) := (by rw [← hin.c0]; exact hbr.cell (p := ⟨g, o + j * 4, none⟩) hg)
      have b1 : wr.cell? ⟨g, o + j * 4 + 1, none⟩ = some (.slice h.na h.nn h.nc) := (by rw [← hin.c1]; exact hbr.cell (p := ⟨g, o + j * 4 + 1, none⟩) hg)
      have b2 : wr.cell? ⟨g, o + j * 4 + 2, none⟩ = some (.slice h.ka h.kn h.kc) := (by rw [← hin.c2]; exact hbr.cell (p := ⟨g, o + j * 4 + 2, none⟩) hg)
      have b3 : wr.cell? ⟨g, o + j * 4 + 3, none⟩ = some (.bool h.op) := (by rw [← hin.c3]; exact hbr.cell (p := ⟨g, o + j * 4 + 3, none⟩) hg)
      clear hin hbr hh hc hg
      have hy : (wr.alloc (.cells #[.int .i64 h.kd, .slice h.na h.nn h.nc, .slice h.ka h.kn h.kc, .bool h.op] 33)).heap[wr.heap.size]? = some (.cells #[.int .i64 h.kd, .slice h.na h.nn h.nc, .slice h.ka h.kn h.kc, .bool h.op] 33 (0, 0)) := heap_alloc_new wr _
      have HY := Lib.hid hy
      have HBY : Hid (Below w1.heap.size w1 (wr.alloc (.cells #[.int .i64 h.kd, .slice h.na h.nn h.nc, .slice h.ka h.kn h.kc, .bool h.op] 33))) := Lib.hid (HBR.out.alloc HBR.out.size _)
      clear hy
      go_upto_region 4 with (fail)
      clear b0 b1 b2 b3
      generalize (wr.alloc (.cells #[.int .i64 h.kd, .slice h.na h.nn h.nc, .slice h.ka h.kn h.kc, .bool h.op] 33)) = w2 at *
      have b1 : w2.cell? ⟨wr.heap.size, 1, none⟩ = some (.slice h.na h.nn h.nc) := (by rw [cell_of_row _ _ 1 _ 33 _ HY.out]; rfl)
      have b2 : w2.cell? ⟨wr.heap.size, 2, none⟩ = some (.slice h.ka h.kn h.kc) := (by rw [cell_of_row _ _ 2 _ 33 _ HY.out]; rfl)
      have HBZ : Hid (Below w.heap.size w w2) := Lib.hid (HBA.out.trans (HBY.out.mono HBA.out.size))
      have HBAD : Hid (fewH h = false → fewB HS = false) := Lib.hid (fun e => by
        unfold fewB
        rw [show HS.all fewH = false from List.all_eq_false.2 ⟨h, List.mem_of_getElem? HH.out, by simp [e]⟩]
        rfl)
      rcases (by omega : 20 < h.kn ∨ (h.kn ≤ 20 ∧ 20 < h.nn) ∨ (h.kn ≤ 20 ∧ h.nn ≤ 20)) with k1 | ⟨k1, k2⟩ | ⟨k1, k2⟩
      · have k3 : (20 : Int) < h.kn := by omega
        have HFF := Lib.hid (HBAD.out (by unfold fewH; rw [show decide (h.kn ≤ 20) = false from by simp; omega]; rfl))
        go_wp2
        go_ret
        exact ⟨by rw [HFF.out]; rfl, HBZ.out⟩
      · have k3 : ¬ (20 : Int) < h.kn := by omega
        have k4 : (20 : Int) < h.nn := by omega
        have HFF := Lib.hid (HBAD.out (by unfold fewH; rw [show decide (h.nn ≤ 20) = false from by simp; omega]; simp))
        go_wp2
        go_ret
        exact ⟨by rw [HFF.out]; rfl, HBZ.out⟩
      · have k3 : ¬ (20 : Int) < h.kn := by omega
        have k4 : ¬ (20 : Int) < h.nn := by omega
        have k5 : (h.nn : Int) ≤ 20 := by omega
        have HNM := Lib.hid (HIN.out.names.on HBZ.out)
        have HNL := Lib.hid HIN.out.names.1
        go_wp2
        go_loop [27] (fun s27 => ∃ i : Nat, s27 = .int .i64 (i : Int) ∧ i ≤ h.nn ∧ Hid (∀ k s, k < i → h.NS[k]? = some s → s.size ≤ 60)) (fun s27 => h.nn - (intOf s27).toNat)
        case atStart => exact ⟨0, rfl, Nat.zero_le _, Lib.hid (fun k s hk => by omega)⟩
        case round =>
          obtain ⟨i, rfl, hi, HS6⟩ := hrel
          have hwi : IntKind.i64.wrap ((i : Int) + 1) = (i : Int) + 1 := by rw [IntKind.wrap_i64]; have h9 := k5; omega
          by_cases hin : i < h.nn
          · have hin2 : (i : Int) < h.nn := by omega
            obtain ⟨s, hs⟩ : ∃ s, h.NS[i]? = some s := ⟨_, List.getElem?_eq_getElem (by rw [← HNL.out]; exact hin)⟩
            obtain ⟨gn, on, en, hgn, hcn⟩ := HNM.out.2.resolve_left (by omega)
            have an := hcn i s hs
            have HSS := Lib.hid hs
            clear hs hcn
            generalize h.na = na at *
            subst en
            rcases (by omega : 60 < s.size ∨ s.size ≤ 60) with k6 | k6
            · have k7 : (60 : Int) < s.size := by omega
              have HFF := Lib.hid (HBAD.out (by
                unfold fewH
                rw [show (h.NS.all fun s => decide (s.size ≤ 60)) = false from List.all_eq_false.2 ⟨s, List.mem_of_getElem? HSS.out, by simp; omega⟩]
                simp))
              go_wp2
              go_ret
              exact ⟨by rw [HFF.out]; rfl, HBZ.out⟩
            · have k7 : ¬ (60 : Int) < s.size := by omega
              go_wp2
              go_round
              case rel => exact ⟨i + 1, by go_num, by omega, Lib.hid (fun k s' hk hs' => by
                by_cases he : k = i
                · subst he
                  have := hs'.symm.trans HSS.out
                  cases this
                  exact k6
                · exact HS6.out k s' (by omega) hs')⟩
              case measure => simp [intOf]; omega
          · have hin2 : ¬ (i : Int) < h.nn := by omega
            have hie : i = h.nn := by omega
            subst hie
            have hfh : fewH h = true := by
              unfold fewH
              simp only [Bool.and_eq_true, decide_eq_true_eq, List.all_eq_true]
              exact ⟨⟨k1, k2⟩, fun s hs => by
                obtain ⟨k, hk⟩ := List.getElem?_of_mem hs
                exact HS6.out k s (by rw [HNL.out]; exact (List.getElem?_eq_some_iff.1 hk).1) hk⟩
            have HFH := Lib.hid hfh
            clear hfh
            go_wp2
            go_roundw
            case rel => exact ⟨j + 1, by go_num, by omega, HBY, Lib.hid (fun i' h' hi' hh' => by
              by_cases he : i' = j
              · subst he
                have := hh'.symm.trans HH.out
                cases this
                exact HFH.out
              · exact HA.out i' h' (by omega) hh')⟩
            case measure => simp [intOf]; omega
    · have hjk2 : ¬ (j : Int) < ln := by omega
      obtain rfl : ln = j := by omega
      have hf : fewB HS = decide (ln ≤ 25) := by
        unfold fewB
        rw [show HS.all fewH = true from List.all_eq_true.2 (fun h hm => by
          obtain ⟨i, hi⟩ := List.getElem?_of_mem hm
          exact HA.out i h (by rw [HL.out]; exact (List.getElem?_eq_some_iff.1 hi).1) hi), ← HL.out]
        rfl
      have HF := Lib.hid hf
      have hbr : Below w.heap.size w wr := HBA.out.trans (HBR.out.mono HBA.out.size)
      have HBZ := Lib.hid hbr
      have a0 : wr.cell? ⟨w.heap.size, 0, none⟩ = some (.slice la ln lc) := (by rw [cell_of_row _ _ 0 _ 36 _ ((HBR.out.block _ HXL.out).trans HXB.out)]; rfl)
      clear hf hbr
      by_cases h25 : ln ≤ 25
      · have k7 : (ln : Int) ≤ 25 := by omega
        go_wp2
        go_ret
        exact ⟨by rw [HF.out]; simp [h25], HBZ.out⟩
      · have k7 : ¬ (ln : Int) ≤ 25 := by omega
        go_wp2
        go_ret
        exact ⟨by rw [HF.out]; simp [h25], HBZ.out⟩
theorem HeadsRaw.on {w w' : World} {la : Option Addr} {ln : Nat} {HS : List Hd} (h : HeadsRaw w la ln HS) (hb : Below w.heap.size w w') : HeadsRaw w' la ln HS := by
  refine ⟨h.1, ?_⟩
  rcases h.2 with h0 | ⟨g, o, e, hg, hc⟩
  · exact Or.inl h0
  · refine Or.inr ⟨g, o, e, Nat.lt_of_lt_of_le hg hb.size, fun i x hx => ?_⟩
    have r := hc i x hx
    exact ⟨keepB hb hg r.c0, keepB hb hg r.c1, keepB hb hg r.c2, keepB hb hg r.c3, r.names.on hb, r.kids.on hb⟩
end Go.Proofs.YtifilhkkgkihpaaGreatDoor
