/- Walks: ValueRecords, where nothing comes into the record. -/
import Derived.Test.YtpefajgllapicaaDoorTd
set_option linter.unusedVariables false
namespace Go.Proofs.YtpefajgllapicaaDoor.valueRecords
open Go.RowKit
set_option maxRecDepth 20000 in
set_option maxHeartbeats 400000 in
theorem recs_sse (w : World) (gn on : Nat) (gi oi : Nat) (n cn k ck : Nat) (NS : List ByteArray) (IS : List Int) (hn : n = NS.length) (hk : k = IS.length) (hcn : n ≤ cn) (h20 : n ≤ 20) (hk20 : k ≤ 20) (hgn : gn < w.heap.size) (hcN : ∀ i s, NS[i]? = some s → w.cell? ⟨gn, on + i, none⟩ = some (.string s)) (hsz : ∀ s ∈ NS, s.size ≤ maxLen) (hgi : gi < w.heap.size) (hcI : ∀ j i, IS[j]? = some i → w.cell? ⟨gi, oi + j, none⟩ = some (.int .i64 i)) (hwf : ∀ i ∈ IS, (Lit.int .i64 i).wf = true) (E : List Ent) (hE : E = upE (zipP NS IS) (zipP NS IS).length) (he0 : E.length = 0) :
    Calls Tryd.prog 4 #[.slice (some ⟨gn, on, none⟩) n cn, .slice (some ⟨gi, oi, none⟩) k ck] w fun e w' => e = .returned (.bool true) ∧ Below w.heap.size w w' := by
  have HNL := Lib.hid hn
  have HE := Lib.hid hE
  have HKL := Lib.hid hk
  have hnI : (n : Int) ≤ 20 := by omega
  have hkI : (k : Int) ≤ 20 := by omega
  obtain ⟨i0, hi, hz0, hz1, hz2⟩ := info_parts Tryd.info28
  have HI0 := Lib.hid hi
  have HZ0 := Lib.hid hz0
  have HZ1 := Lib.hid hz1
  have HZ2 := Lib.hid hz2
  have hmm := @run_makeMap Tryd.prog
  have HCN := Lib.hid hcN
  have HGN := Lib.hid hgn
  have HSZ := Lib.hid hsz
  clear hcN hgn hsz
  have HCI := Lib.hid hcI
  have HGI := Lib.hid hgi
  have HWF := Lib.hid hwf
  clear hcI hgi hwf
  clear hE hn hk hi hz0 hz1 hz2
  have HE0 := Lib.hid he0
  clear he0
  go_enter Tryd.func4, Tryd.ntmps4
  go_upto_region 4 with (go_at_call 7; refine (lives_true _).mono ?_; rintro e w1 ⟨rfl, h1⟩)
  have H1 := Lib.hid h1
  clear h1
  go_wp2
  go_loopw [5, 39] (fun s5 s39 wr => ∃ (j : Nat) (v5 : Value), v5 = s5 ∧ j ≤ k ∧ s39 = .int .i64 (j : Int) ∧ Hid (wr.ownsRow w.heap.size 28 8 v5 j (cells (kRow (IS.take j)))) ∧ Hid (j = 0 → v5 = .slice none 0 0) ∧ Hid (Below w.heap.size w wr)) (fun _ s39 _ => k - (intOf s39).toNat)
  case atStart => exact ⟨0, _, rfl, by omega, rfl, Lib.hid (World.ownsRow_nil _ _ _ _), Lib.hid (fun _ => rfl), H1⟩
  case round =>

    obtain ⟨j, s5, rfl, hj, rfl, HO, HN0, HB⟩ := hrel
    by_cases hjk : j < k
    · obtain ⟨i, hi⟩ : ∃ i, IS[j]? = some i := ⟨_, List.getElem?_eq_getElem (by rw [← HKL.out]; exact hjk)⟩
      have hlt : (j : Int) < k := by omega
      have ac : wr.cell? ⟨gi, oi + j, none⟩ = some (.int .i64 i) := by rw [← HCI.out j i hi]; exact HB.out.cell (p := ⟨gi, oi + j, none⟩) HGI.out
      have hwj : IntKind.i64.wrap ((j : Int) + 1) = (j : Int) + 1 := by rw [IntKind.wrap_i64]; omega
      have HSN := Lib.hid (kRow_snoc IS j i hi)
      have HLE : Hid (w.heap.size ≤ wr.heap.size) := Lib.hid HB.out.size
      clear hi
      go_wp2_with (at_builtin; refine wpList_append_own _ rfl _ _ 25 rfl w.heap.size 28 i0 (.agg #[.int .i64 0, .int .i64 0, .int .u64 0, .string ByteArray.empty, .slice none 0 0, .slice none 0 0, .pointer none, .int .i64 0]) 8 104 Tryd.underlying25 HI0.out HZ0.out HZ1.out HZ2.out rfl (by decide) _ j _ rfl (HO.out.alloc _) ⟨wr.heap.size, 0, none⟩ 1 1 (kInt i).cells rfl rfl (news28 (heap_alloc_new wr _)) (kcell_one i) (by unfold maxLen; omega) (by omega) (by have := HLE.out; simp; omega) ?_; intro v' w5 hown hgr hnil)
      have HOW : Hid (w5.ownsRow w.heap.size 28 8 v' (j + 1) (cells (kRow (IS.take (j + 1))))) := by rw [HSN.out]; exact hown
      have HBW : Hid (Below w.heap.size w w5) := Lib.hid ((HB.out.alloc HB.out.size _).grown hgr (by have := HLE.out; simp; omega) (fun q hq => ownsRow_ge HO.out q hq))
      clear hown hgr hnil
      go_wp2
      go_roundw
      case rel => exact ⟨j + 1, _, rfl, by omega, rfl, HOW, Lib.hid (fun h => by omega), HBW⟩
      case measure => simp [intOf]; omega
    · have hjn2 : ¬ (j : Int) < k := by omega
      obtain rfl : k = j := by omega
      have HREC : Hid (∀ e w', RecPost wr E e w' → RecPost wr E e w') := Lib.hid (fun e w' h => h)
      have HRC : Hid (Calls Tryd.prog 11 #[.slice (some ⟨gn, on, none⟩) n cn, s5] wr (RecPost wr E)) := Lib.hid (by
        rw [HE.out]
        have hown := HO.out
        rw [HKL.out, List.take_of_length_le (Nat.le_refl _)] at hown
        exact rec_any wr w.heap.size _ n cn NS s5 IS ⟨HNL.out, Or.inr ⟨gn, on, rfl, Nat.lt_of_lt_of_le HGN.out HB.out.size, fun i s h => by rw [← HCN.out i s h]; exact HB.out.cell (p := ⟨gn, on + i, none⟩) HGN.out⟩⟩ hcn h20 (by rw [← HKL.out]; exact hk20) hown (fun h => HN0.out (by rw [HKL.out, h]; rfl)))
      go_wp2_with fail
      refine HRC.out.mono ?_
      intro e w2 hrec0
      have hrec := HREC.out _ _ hrec0
      clear hrec0
      obtain ⟨aN, cN, aK, cK, H, rfl, hrec, hb2⟩ := hrec
      have HR := Lib.hid hrec
      have HB2 := Lib.hid (HB.out.trans (hb2.mono HB.out.size))
      skip
      have HER := Lib.hid (upE_rises (zipP NS IS) (zipP NS IS).length)
      rw [← HE.out] at HER
      have hm0 : ((w2.alloc (.cells #[.int .i64 4, .int .i64 0, .int .u64 0, .string ⟨#[]⟩, .slice aN E.length cN, .slice aK E.length cK, .pointer none, .int .i64 H] 28)).alloc (.map #[] 0)).ownsMap Tryd.prog 9 (plainElem (H := Unit) Tryd.prog 2) (w2.heap.size + 1) 0 (.map []) := by
        have := World.ownsMap_made (H := Unit) (w2.alloc (.cells #[.int .i64 4, .int .i64 0, .int .u64 0, .string ⟨#[]⟩, .slice aN E.length cN, .slice aK E.length cK, .pointer none, .int .i64 H] 28)) Tryd.prog 9 (plainElem Tryd.prog 2)
        simpa using this
      have hv0 : ((w2.alloc (.cells #[.int .i64 4, .int .i64 0, .int .u64 0, .string ⟨#[]⟩, .slice aN E.length cN, .slice aK E.length cK, .pointer none, .int .i64 H] 28)).alloc (.map #[] 0)).heap[w2.heap.size]? = some (.cells #[.int .i64 4, .int .i64 0, .int .u64 0, .string ⟨#[]⟩, .slice aN E.length cN, .slice aK E.length cK, .pointer none, .int .i64 H] 28 (0, 0)) := by rw [Below.heap_alloc _ _ _ (by simp)]; exact heap_alloc_new w2 _
      have hx0 : Below w2.heap.size w2 ((w2.alloc (.cells #[.int .i64 4, .int .i64 0, .int .u64 0, .string ⟨#[]⟩, .slice aN E.length cN, .slice aK E.length cK, .pointer none, .int .i64 H] 28)).alloc (.map #[] 0)) := ((Below.refl _ _).alloc (Nat.le_refl _) _).alloc (by simp) _
      have hs0 : ((w2.alloc (.cells #[.int .i64 4, .int .i64 0, .int .u64 0, .string ⟨#[]⟩, .slice aN E.length cN, .slice aK E.length cK, .pointer none, .int .i64 H] 28)).alloc (.map #[] 0)).heap.size = w2.heap.size + 2 := by simp
      have HM0 := Lib.hid hm0
      have HV0 := Lib.hid hv0
      have HX0 := Lib.hid hx0
      have HS0 := Lib.hid hs0
      clear hrec hb2  hm0 hv0 hx0 hs0
      go_upto_region 11 with (fail)
      generalize ((w2.alloc (.cells #[.int .i64 4, .int .i64 0, .int .u64 0, .string ⟨#[]⟩, .slice aN E.length cN, .slice aK E.length cK, .pointer none, .int .i64 H] 28)).alloc (.map #[] 0)) = w3 at *
      have HB3 : Hid (Below w.heap.size w w3) := Lib.hid (HB2.out.trans (HX0.out.mono HB2.out.size))
      clear HO HN0 HB HRC HREC
      go_wp2
      go_loopw [55] (fun s55 wr => ∃ j : Nat, j ≤ n ∧ s55 = .int .i64 (j : Int) ∧ Hid (∃ (D : DataW Unit) (nn : Nat), nn ≤ j ∧ wr.ownsMap Tryd.prog 9 (plainElem Tryd.prog 2) (w2.heap.size + 1) nn D ∧ MapE D (upE (zipP NS IS) j)) ∧ Hid (w3.grownBy wr (some (w2.heap.size + 1)))) (fun s55 _ => n - (intOf s55).toNat)
      case atStart => exact ⟨0, by omega, rfl, Lib.hid ⟨_, 0, Nat.le_refl _, HM0.out, MapE.nil⟩, Lib.hid ⟨rfl, rfl, rfl, Nat.le_refl _, fun _ _ _ => rfl⟩⟩
      case round =>
        obtain ⟨j, hj, rfl, HMJ, HG⟩ := hrel
        by_cases hjn : j < n
        · obtain ⟨x, hx⟩ : ∃ x, NS[j]? = some x := ⟨_, List.getElem?_eq_getElem (by rw [← HNL.out]; exact hjn)⟩
          have hlt : (j : Int) < n := by omega
          have hBW : Below w.heap.size w wr := HB3.out.trans (below_of_grown HG.out (by have := HB2.out.size; omega) HB3.out.size)
          have ax : wr.cell? ⟨gn, on + j, none⟩ = some (.string x) := by rw [← HCN.out j x hx]; exact hBW.cell (p := ⟨gn, on + j, none⟩) HGN.out
          have hwj : IntKind.i64.wrap ((j : Int) + 1) = (j : Int) + 1 := by rw [IntKind.wrap_i64]; omega
          have HKX := Lib.hid (keyOf9 x (HSZ.out x (List.mem_of_getElem? hx)))
          obtain ⟨D, nn, hnn, hM, hME⟩ := HMJ.out
          have HM := Lib.hid hM
          have HME := Lib.hid hME
          have HBW := Lib.hid hBW
          have HXX := Lib.hid hx
          clear hM hME hBW hx
          cases hge : getE (upE (zipP NS IS) j) x with
          | some kk =>
            have hhas : Maps.has D (keyS x) = true := by rw [HME.out.has x, hge]; rfl
            have HME1 : Hid (MapE D (upE (zipP NS IS) (j + 1))) := Lib.hid (by
              rcases Nat.lt_or_ge j (zipP NS IS).length with hz | hz
              · obtain ⟨s, i, h1, h2, h3⟩ := zipP_inv NS IS j _ (List.getElem?_eq_getElem hz)
                have hs := HXX.out.symm.trans h1
                cases hs
                have := HME.out.step x i (by rw [List.getElem?_eq_getElem hz, h3])
                rw [hge] at this
                exact this
              · rw [upE_stay _ _ hz]; exact HME.out)
            clear hge
            go_wp2_with (at_lookup; refine wpList_lookup_own_ok_int _ rfl _ _ 37 rfl 9 2 .i64 (Maps.string_keyed Tryd.underlying9) Tryd.underlying37 Tryd.underlying2 (zero2 _) (w2.heap.size + 1) nn D rfl HM.out _ (keyS x) rfl HKX.out ?_; intro c hat hwc; clear hat hwc)
            go_roundw
            case rel => exact ⟨j + 1, by omega, rfl, Lib.hid ⟨D, nn, by omega, HM.out, HME1.out⟩, HG⟩
            case measure => simp [intOf]; omega
          | none =>
            have hhas : Maps.has D (keyS x) = false := by rw [HME.out.has x, hge]; rfl
            have HGE := Lib.hid hge
            clear hge
            by_cases hjk : j < k
            · obtain ⟨i, hi⟩ : ∃ i, IS[j]? = some i := ⟨_, List.getElem?_eq_getElem (by rw [← HKL.out]; exact hjk)⟩
              have hlk : (j : Int) < k := by omega
              have ai : wr.cell? ⟨gi, oi + j, none⟩ = some (.int .i64 i) := by rw [← HCI.out j i hi]; exact HBW.out.cell (p := ⟨gi, oi + j, none⟩) HGI.out
              have hiw : (Lit.int .i64 i).wf = true := HWF.out i (List.mem_of_getElem? hi)
              have HIW := Lib.hid hiw
              have HME1 : Hid (MapE (D.put (keyS x) (.lit (.int .i64 i))) (upE (zipP NS IS) (j + 1))) := Lib.hid (by
                have := HME.out.step x i (zipP_at NS IS j x i HXX.out hi)
                rw [HGE.out] at this
                exact this)
              clear hi hiw
              go_wp2_with (first | (at_lookup; refine wpList_lookup_own_ok_int _ rfl _ _ 37 rfl 9 2 .i64 (Maps.string_keyed Tryd.underlying9) Tryd.underlying37 Tryd.underlying2 (zero2 _) (w2.heap.size + 1) nn D rfl HM.out _ (keyS x) rfl HKX.out ?_; intro c hat hwc; clear hat hwc) | (at_mapUpdate; refine wpList_mapUpdate_own _ rfl _ _ _ 37 rfl 9 2 (Maps.string_keyed Tryd.underlying9) Tryd.underlying37 _ (w2.heap.size + 1) nn D rfl HM.out (by unfold maxLen; omega) _ _ _ rfl rfl HKX.out _ [] (plainElem_int Tryd.underlying2 HIW.out) ?_; intro w5 hown5 hgrow5))
              have HO5 := Lib.hid hown5
              have HG5 := Lib.hid (HG.out.trans hgrow5)
              clear hown5 hgrow5
              go_wp2
              go_roundw
              case rel => exact ⟨j + 1, by omega, rfl, Lib.hid ⟨_, nn + 1, by omega, HO5.out, HME1.out⟩, HG5⟩
              case measure => simp [intOf]; omega
            · have hnk : ¬ (j : Int) < k := by omega
              have HME1 : Hid (MapE D (upE (zipP NS IS) (j + 1))) := Lib.hid (by rw [upE_stay _ _ (by rw [zipP_len]; have := HKL.out; omega)]; exact HME.out)
              go_wp2_with (at_lookup; refine wpList_lookup_own_ok_int _ rfl _ _ 37 rfl 9 2 .i64 (Maps.string_keyed Tryd.underlying9) Tryd.underlying37 Tryd.underlying2 (zero2 _) (w2.heap.size + 1) nn D rfl HM.out _ (keyS x) rfl HKX.out ?_; intro c hat hwc; clear hat hwc)
              go_roundw
              case rel => exact ⟨j + 1, by omega, rfl, Lib.hid ⟨D, nn, by omega, HM.out, HME1.out⟩, HG⟩
              case measure => simp [intOf]; omega

        · have hjn3 : ¬ (j : Int) < n := by omega
          obtain rfl : n = j := by omega
          obtain ⟨D, nn, hnn, hM, hME⟩ := HMJ.out
          rw [upE_past _ n (by rw [zipP_len]; have := HNL.out; omega), ← HE.out] at hME
          obtain ⟨wm, rfl⟩ : ∃ wm : World, wm = wr := ⟨_, rfl⟩
          have hv : wm.heap[w2.heap.size]? = some (.cells #[.int .i64 4, .int .i64 0, .int .u64 0, .string ⟨#[]⟩, .slice aN E.length cN, .slice aK E.length cK, .pointer none, .int .i64 H] 28 (0, 0)) := by rw [HG.out.block _ (by rw [HS0.out]; omega) (by simp)]; exact HV0.out
          have a0 : wm.cell? ⟨w2.heap.size, 0, none⟩ = some (.int .i64 4) := by rw [cell_of_row _ _ 0 _ 28 _ hv]; rfl
          have a1 : wm.cell? ⟨w2.heap.size, 1, none⟩ = some (.int .i64 0) := by rw [cell_of_row _ _ 1 _ 28 _ hv]; rfl
          have a2 : wm.cell? ⟨w2.heap.size, 2, none⟩ = some (.int .u64 0) := by rw [cell_of_row _ _ 2 _ 28 _ hv]; rfl
          have a3 : wm.cell? ⟨w2.heap.size, 3, none⟩ = some (.string ⟨#[]⟩) := by rw [cell_of_row _ _ 3 _ 28 _ hv]; rfl
          have a4 : wm.cell? ⟨w2.heap.size, 4, none⟩ = some (.slice aN E.length cN) := by rw [cell_of_row _ _ 4 _ 28 _ hv]; rfl
          have a5 : wm.cell? ⟨w2.heap.size, 5, none⟩ = some (.slice aK E.length cK) := by rw [cell_of_row _ _ 5 _ 28 _ hv]; rfl
          have a6 : wm.cell? ⟨w2.heap.size, 6, none⟩ = some (.pointer none) := by rw [cell_of_row _ _ 6 _ 28 _ hv]; rfl
          have a7 : wm.cell? ⟨w2.heap.size, 7, none⟩ = some (.int .i64 H) := by rw [cell_of_row _ _ 7 _ 28 _ hv]; rfl
          have hlen : (Builtin.len_ #[37] 3 #[.map (some (w2.heap.size + 1))]).run Tryd.prog wm = .ok (.int .i64 (E.length : Int)) wm := by have := hM.len Tryd.underlying37 3; rw [hME.size] at this; exact this
          have hbm : Below w2.heap.size w2 wm := HX0.out.trans (below_of_grown HG.out (by omega) HX0.out.size)
          have hsm : w2.heap.size + 2 ≤ wm.heap.size := by have := HG.out.size; rw [HS0.out] at this; exact this
          have HM := Lib.hid hM
          have HME := Lib.hid hME
          have HVM := Lib.hid hv
          have HBM := Lib.hid hbm
          have HSM := Lib.hid hsm
          have hlE : E.length ≤ 20 := by rw [HE.out]; have h1 := upE_len (zipP NS IS) _ (Nat.le_refl _); have h2 := zipP_len NS IS; have h3 := HNL.out; omega
          have hlEI : (E.length : Int) ≤ 20 := by omega
          skip
          clear hM hME hv hbm hsm hnn HMJ
          go_upto_region 20 with (fail)
          clear hlen
          go_wp2
          clear a0 a1 a2 a3 a4 a5 a6 a7
          go_loopw [103] (fun s103 wr => ∃ j : Nat, j ≤ E.length ∧ s103 = .int .i64 (j : Int) ∧ Hid (Below wm.heap.size wm wr)) (fun s103 _ => E.length - (intOf s103).toNat)
          case atStart => exact ⟨0, by omega, rfl, Lib.hid (Below.refl _ _)⟩
          case round =>
            obtain ⟨j, hj, rfl, HBR⟩ := hrel
            have HVR : Hid (wr.heap[w2.heap.size]? = some (.cells #[.int .i64 4, .int .i64 0, .int .u64 0, .string ⟨#[]⟩, .slice aN E.length cN, .slice aK E.length cK, .pointer none, .int .i64 H] 28 (0, 0))) := by
              have := HBR.out.block w2.heap.size (by have := HSM.out; omega)
              exact this.trans HVM.out
            have HB2R : Hid (Below w2.heap.size w2 wr) := Lib.hid (HBM.out.trans (HBR.out.mono (by have := HSM.out; omega)))
            have HRR := Lib.hid (HR.out.on (w' := wr) (fun q hq => HB2R.out.block q hq))
            have HMR : Hid (wr.ownsMap Tryd.prog 9 (plainElem (H := Unit) Tryd.prog 2) (w2.heap.size + 1) nn D) := Lib.hid (HM.out.kept (row := none) ⟨HBR.out.os, HBR.out.tape, HBR.out.output, HBR.out.size, fun q hq _ => HBR.out.block q hq⟩ (by simp))
            have a0 : wr.cell? ⟨w2.heap.size, 0, none⟩ = some (.int .i64 4) := by rw [cell_of_row _ _ 0 _ 28 _ HVR.out]; rfl
            have a1 : wr.cell? ⟨w2.heap.size, 1, none⟩ = some (.int .i64 0) := by rw [cell_of_row _ _ 1 _ 28 _ HVR.out]; rfl
            have a2 : wr.cell? ⟨w2.heap.size, 2, none⟩ = some (.int .u64 0) := by rw [cell_of_row _ _ 2 _ 28 _ HVR.out]; rfl
            have a3 : wr.cell? ⟨w2.heap.size, 3, none⟩ = some (.string ⟨#[]⟩) := by rw [cell_of_row _ _ 3 _ 28 _ HVR.out]; rfl
            have a4 : wr.cell? ⟨w2.heap.size, 4, none⟩ = some (.slice aN E.length cN) := by rw [cell_of_row _ _ 4 _ 28 _ HVR.out]; rfl
            have a5 : wr.cell? ⟨w2.heap.size, 5, none⟩ = some (.slice aK E.length cK) := by rw [cell_of_row _ _ 5 _ 28 _ HVR.out]; rfl
            have a6 : wr.cell? ⟨w2.heap.size, 6, none⟩ = some (.pointer none) := by rw [cell_of_row _ _ 6 _ 28 _ HVR.out]; rfl
            have a7 : wr.cell? ⟨w2.heap.size, 7, none⟩ = some (.int .i64 H) := by rw [cell_of_row _ _ 7 _ 28 _ HVR.out]; rfl
            by_cases hjE : j < E.length
            · have := HE0.out; omega
            · have hjE2 : ¬ (j : Int) < E.length := by omega
              have HBW : Hid (Below w.heap.size w wr) := Lib.hid (HB2.out.trans (HB2R.out.mono HB2.out.size))
              have hnt : getE E ⟨#[110, 111, 116, 32, 116, 104, 101, 114, 101]⟩ = none := by rw [List.eq_nil_of_length_eq_zero HE0.out]; rfl
              have HFn : Hid (Calls Tryd.prog 12 #[.agg #[.int .i64 4, .int .i64 0, .int .u64 0, .string ⟨#[]⟩, .slice aN E.length cN, .slice aK E.length cK, .pointer none, .int .i64 H], .string ⟨#[110, 111, 116, 32, 116, 104, 101, 114, 101]⟩] wr fun e w' => e = .returned (.tuple #[.agg #[.int .i64 0, .int .i64 0, .int .u64 0, .string ⟨#[]⟩, .slice none 0 0, .slice none 0 0, .pointer none, .int .i64 0], .bool false]) ∧ Below wr.heap.size wr w') := Lib.hid (field_miss wr _ 0 0 H ⟨#[]⟩ none _ _ cN cK E.length E _ rfl (by omega) HRR.out hnt)
              have hhas : Maps.has D (.string [110, 111, 116, 32, 116, 104, 101, 114, 101]) = false := by have := HME.out.has ⟨#[110, 111, 116, 32, 116, 104, 101, 114, 101]⟩; rw [hnt] at this; exact this
              have HHAS := Lib.hid hhas
              clear hnt hhas
              go_upto_region 28 with (go_at_call 12; refine HFn.out.mono ?_; rintro e w5 ⟨rfl, hb5⟩)
              have HB6 : Hid (Below wr.heap.size wr (w5.alloc (.cells #[.int .i64 0, .int .i64 0, .int .u64 0, .string ⟨#[]⟩, .slice none 0 0, .slice none 0 0, .pointer none, .int .i64 0] 28))) := Lib.hid (hb5.alloc hb5.size _)
              clear hb5 a0 a1 a2 a3 a4 a5 a6 a7
              generalize (w5.alloc (.cells #[.int .i64 0, .int .i64 0, .int .u64 0, .string ⟨#[]⟩, .slice none 0 0, .slice none 0 0, .pointer none, .int .i64 0] 28)) = w6 at *
              go_upto_region 29 with (go_at_call 12; refine (field_tag2 _ _).mono ?_; rintro e w7 ⟨rfl, hb7⟩)
              have HB8 : Hid (Below wr.heap.size wr (w7.alloc (.cells #[.int .i64 0, .int .i64 0, .int .u64 0, .string ⟨#[]⟩, .slice none 0 0, .slice none 0 0, .pointer none, .int .i64 0] 28))) := Lib.hid ((HB6.out.trans (hb7.mono HB6.out.size)).alloc (Nat.le_trans HB6.out.size hb7.size) _)
              clear hb7
              generalize (w7.alloc (.cells #[.int .i64 0, .int .i64 0, .int .u64 0, .string ⟨#[]⟩, .slice none 0 0, .slice none 0 0, .pointer none, .int .i64 0] 28)) = w8 at *
              have HM8 : Hid (w8.ownsMap Tryd.prog 9 (plainElem (H := Unit) Tryd.prog 2) (w2.heap.size + 1) nn D) := Lib.hid (HMR.out.kept (row := none) ⟨HB8.out.os, HB8.out.tape, HB8.out.output, HB8.out.size, fun q hq _ => HB8.out.block q hq⟩ (by simp))
              have HKN := Lib.hid (keyOf9 ⟨#[110, 111, 116, 32, 116, 104, 101, 114, 101]⟩ (by unfold maxLen; decide))
              go_wp2_with (at_lookup; refine wpList_lookup_own_ok_int _ rfl _ _ 37 rfl 9 2 .i64 (Maps.string_keyed Tryd.underlying9) Tryd.underlying37 Tryd.underlying2 (zero2 _) (w2.heap.size + 1) nn D rfl HM8.out _ (.string [110, 111, 116, 32, 116, 104, 101, 114, 101]) rfl HKN.out ?_; intro c hat hwc; clear hat hwc; rw [HHAS.out])
              go_ret
              exact ⟨by simp, HBW.out.trans (HB8.out.mono HBW.out.size)⟩
set_option maxRecDepth 20000 in
set_option maxHeartbeats 400000 in
theorem recs_zse (w : World) (an : Option Addr) (gi oi : Nat) (n cn k ck : Nat) (NS : List ByteArray) (IS : List Int) (hn : n = NS.length) (hk : k = IS.length) (hcn : n ≤ cn) (h20 : n ≤ 20) (hk20 : k ≤ 20) (hnz : n = 0) (hgi : gi < w.heap.size) (hcI : ∀ j i, IS[j]? = some i → w.cell? ⟨gi, oi + j, none⟩ = some (.int .i64 i)) (hwf : ∀ i ∈ IS, (Lit.int .i64 i).wf = true) (E : List Ent) (hE : E = upE (zipP NS IS) (zipP NS IS).length) (he0 : E.length = 0) :
    Calls Tryd.prog 4 #[.slice an n cn, .slice (some ⟨gi, oi, none⟩) k ck] w fun e w' => e = .returned (.bool true) ∧ Below w.heap.size w w' := by
  have HNL := Lib.hid hn
  have HE := Lib.hid hE
  have HKL := Lib.hid hk
  have hnI : (n : Int) ≤ 20 := by omega
  have hkI : (k : Int) ≤ 20 := by omega
  obtain ⟨i0, hi, hz0, hz1, hz2⟩ := info_parts Tryd.info28
  have HI0 := Lib.hid hi
  have HZ0 := Lib.hid hz0
  have HZ1 := Lib.hid hz1
  have HZ2 := Lib.hid hz2
  have hmm := @run_makeMap Tryd.prog
  have HCI := Lib.hid hcI
  have HGI := Lib.hid hgi
  have HWF := Lib.hid hwf
  clear hcI hgi hwf
  clear hE hn hk hi hz0 hz1 hz2
  have HE0 := Lib.hid he0
  clear he0
  have HNZ := Lib.hid hnz
  clear hnz
  go_enter Tryd.func4, Tryd.ntmps4
  go_upto_region 4 with (go_at_call 7; refine (lives_true _).mono ?_; rintro e w1 ⟨rfl, h1⟩)
  have H1 := Lib.hid h1
  clear h1
  go_wp2
  go_loopw [5, 39] (fun s5 s39 wr => ∃ (j : Nat) (v5 : Value), v5 = s5 ∧ j ≤ k ∧ s39 = .int .i64 (j : Int) ∧ Hid (wr.ownsRow w.heap.size 28 8 v5 j (cells (kRow (IS.take j)))) ∧ Hid (j = 0 → v5 = .slice none 0 0) ∧ Hid (Below w.heap.size w wr)) (fun _ s39 _ => k - (intOf s39).toNat)
  case atStart => exact ⟨0, _, rfl, by omega, rfl, Lib.hid (World.ownsRow_nil _ _ _ _), Lib.hid (fun _ => rfl), H1⟩
  case round =>

    obtain ⟨j, s5, rfl, hj, rfl, HO, HN0, HB⟩ := hrel
    by_cases hjk : j < k
    · obtain ⟨i, hi⟩ : ∃ i, IS[j]? = some i := ⟨_, List.getElem?_eq_getElem (by rw [← HKL.out]; exact hjk)⟩
      have hlt : (j : Int) < k := by omega
      have ac : wr.cell? ⟨gi, oi + j, none⟩ = some (.int .i64 i) := by rw [← HCI.out j i hi]; exact HB.out.cell (p := ⟨gi, oi + j, none⟩) HGI.out
      have hwj : IntKind.i64.wrap ((j : Int) + 1) = (j : Int) + 1 := by rw [IntKind.wrap_i64]; omega
      have HSN := Lib.hid (kRow_snoc IS j i hi)
      have HLE : Hid (w.heap.size ≤ wr.heap.size) := Lib.hid HB.out.size
      clear hi
      go_wp2_with (at_builtin; refine wpList_append_own _ rfl _ _ 25 rfl w.heap.size 28 i0 (.agg #[.int .i64 0, .int .i64 0, .int .u64 0, .string ByteArray.empty, .slice none 0 0, .slice none 0 0, .pointer none, .int .i64 0]) 8 104 Tryd.underlying25 HI0.out HZ0.out HZ1.out HZ2.out rfl (by decide) _ j _ rfl (HO.out.alloc _) ⟨wr.heap.size, 0, none⟩ 1 1 (kInt i).cells rfl rfl (news28 (heap_alloc_new wr _)) (kcell_one i) (by unfold maxLen; omega) (by omega) (by have := HLE.out; simp; omega) ?_; intro v' w5 hown hgr hnil)
      have HOW : Hid (w5.ownsRow w.heap.size 28 8 v' (j + 1) (cells (kRow (IS.take (j + 1))))) := by rw [HSN.out]; exact hown
      have HBW : Hid (Below w.heap.size w w5) := Lib.hid ((HB.out.alloc HB.out.size _).grown hgr (by have := HLE.out; simp; omega) (fun q hq => ownsRow_ge HO.out q hq))
      clear hown hgr hnil
      go_wp2
      go_roundw
      case rel => exact ⟨j + 1, _, rfl, by omega, rfl, HOW, Lib.hid (fun h => by omega), HBW⟩
      case measure => simp [intOf]; omega
    · have hjn2 : ¬ (j : Int) < k := by omega
      obtain rfl : k = j := by omega
      have HREC : Hid (∀ e w', RecPost wr E e w' → RecPost wr E e w') := Lib.hid (fun e w' h => h)
      have HRC : Hid (Calls Tryd.prog 11 #[.slice an n cn, s5] wr (RecPost wr E)) := Lib.hid (by
        rw [HE.out]
        have hown := HO.out
        rw [HKL.out, List.take_of_length_le (Nat.le_refl _)] at hown
        exact rec_any wr w.heap.size _ n cn NS s5 IS ⟨HNL.out, Or.inl HNZ.out⟩ hcn h20 (by rw [← HKL.out]; exact hk20) hown (fun h => HN0.out (by rw [HKL.out, h]; rfl)))
      go_wp2_with fail
      refine HRC.out.mono ?_
      intro e w2 hrec0
      have hrec := HREC.out _ _ hrec0
      clear hrec0
      obtain ⟨aN, cN, aK, cK, H, rfl, hrec, hb2⟩ := hrec
      have HR := Lib.hid hrec
      have HB2 := Lib.hid (HB.out.trans (hb2.mono HB.out.size))
      skip
      have HER := Lib.hid (upE_rises (zipP NS IS) (zipP NS IS).length)
      rw [← HE.out] at HER
      have hm0 : ((w2.alloc (.cells #[.int .i64 4, .int .i64 0, .int .u64 0, .string ⟨#[]⟩, .slice aN E.length cN, .slice aK E.length cK, .pointer none, .int .i64 H] 28)).alloc (.map #[] 0)).ownsMap Tryd.prog 9 (plainElem (H := Unit) Tryd.prog 2) (w2.heap.size + 1) 0 (.map []) := by
        have := World.ownsMap_made (H := Unit) (w2.alloc (.cells #[.int .i64 4, .int .i64 0, .int .u64 0, .string ⟨#[]⟩, .slice aN E.length cN, .slice aK E.length cK, .pointer none, .int .i64 H] 28)) Tryd.prog 9 (plainElem Tryd.prog 2)
        simpa using this
      have hv0 : ((w2.alloc (.cells #[.int .i64 4, .int .i64 0, .int .u64 0, .string ⟨#[]⟩, .slice aN E.length cN, .slice aK E.length cK, .pointer none, .int .i64 H] 28)).alloc (.map #[] 0)).heap[w2.heap.size]? = some (.cells #[.int .i64 4, .int .i64 0, .int .u64 0, .string ⟨#[]⟩, .slice aN E.length cN, .slice aK E.length cK, .pointer none, .int .i64 H] 28 (0, 0)) := by rw [Below.heap_alloc _ _ _ (by simp)]; exact heap_alloc_new w2 _
      have hx0 : Below w2.heap.size w2 ((w2.alloc (.cells #[.int .i64 4, .int .i64 0, .int .u64 0, .string ⟨#[]⟩, .slice aN E.length cN, .slice aK E.length cK, .pointer none, .int .i64 H] 28)).alloc (.map #[] 0)) := ((Below.refl _ _).alloc (Nat.le_refl _) _).alloc (by simp) _
      have hs0 : ((w2.alloc (.cells #[.int .i64 4, .int .i64 0, .int .u64 0, .string ⟨#[]⟩, .slice aN E.length cN, .slice aK E.length cK, .pointer none, .int .i64 H] 28)).alloc (.map #[] 0)).heap.size = w2.heap.size + 2 := by simp
      have HM0 := Lib.hid hm0
      have HV0 := Lib.hid hv0
      have HX0 := Lib.hid hx0
      have HS0 := Lib.hid hs0
      clear hrec hb2  hm0 hv0 hx0 hs0
      go_upto_region 11 with (fail)
      generalize ((w2.alloc (.cells #[.int .i64 4, .int .i64 0, .int .u64 0, .string ⟨#[]⟩, .slice aN E.length cN, .slice aK E.length cK, .pointer none, .int .i64 H] 28)).alloc (.map #[] 0)) = w3 at *
      have HB3 : Hid (Below w.heap.size w w3) := Lib.hid (HB2.out.trans (HX0.out.mono HB2.out.size))
      clear HO HN0 HB HRC HREC
      go_wp2
      go_loopw [55] (fun s55 wr => ∃ j : Nat, j ≤ n ∧ s55 = .int .i64 (j : Int) ∧ Hid (∃ (D : DataW Unit) (nn : Nat), nn ≤ j ∧ wr.ownsMap Tryd.prog 9 (plainElem Tryd.prog 2) (w2.heap.size + 1) nn D ∧ MapE D (upE (zipP NS IS) j)) ∧ Hid (w3.grownBy wr (some (w2.heap.size + 1)))) (fun s55 _ => n - (intOf s55).toNat)
      case atStart => exact ⟨0, by omega, rfl, Lib.hid ⟨_, 0, Nat.le_refl _, HM0.out, MapE.nil⟩, Lib.hid ⟨rfl, rfl, rfl, Nat.le_refl _, fun _ _ _ => rfl⟩⟩
      case round =>
        obtain ⟨j, hj, rfl, HMJ, HG⟩ := hrel
        by_cases hjn : j < n
        · have := HNZ.out; omega

        · have hjn3 : ¬ (j : Int) < n := by omega
          obtain rfl : n = j := by omega
          obtain ⟨D, nn, hnn, hM, hME⟩ := HMJ.out
          rw [upE_past _ n (by rw [zipP_len]; have := HNL.out; omega), ← HE.out] at hME
          obtain ⟨wm, rfl⟩ : ∃ wm : World, wm = wr := ⟨_, rfl⟩
          have hv : wm.heap[w2.heap.size]? = some (.cells #[.int .i64 4, .int .i64 0, .int .u64 0, .string ⟨#[]⟩, .slice aN E.length cN, .slice aK E.length cK, .pointer none, .int .i64 H] 28 (0, 0)) := by rw [HG.out.block _ (by rw [HS0.out]; omega) (by simp)]; exact HV0.out
          have a0 : wm.cell? ⟨w2.heap.size, 0, none⟩ = some (.int .i64 4) := by rw [cell_of_row _ _ 0 _ 28 _ hv]; rfl
          have a1 : wm.cell? ⟨w2.heap.size, 1, none⟩ = some (.int .i64 0) := by rw [cell_of_row _ _ 1 _ 28 _ hv]; rfl
          have a2 : wm.cell? ⟨w2.heap.size, 2, none⟩ = some (.int .u64 0) := by rw [cell_of_row _ _ 2 _ 28 _ hv]; rfl
          have a3 : wm.cell? ⟨w2.heap.size, 3, none⟩ = some (.string ⟨#[]⟩) := by rw [cell_of_row _ _ 3 _ 28 _ hv]; rfl
          have a4 : wm.cell? ⟨w2.heap.size, 4, none⟩ = some (.slice aN E.length cN) := by rw [cell_of_row _ _ 4 _ 28 _ hv]; rfl
          have a5 : wm.cell? ⟨w2.heap.size, 5, none⟩ = some (.slice aK E.length cK) := by rw [cell_of_row _ _ 5 _ 28 _ hv]; rfl
          have a6 : wm.cell? ⟨w2.heap.size, 6, none⟩ = some (.pointer none) := by rw [cell_of_row _ _ 6 _ 28 _ hv]; rfl
          have a7 : wm.cell? ⟨w2.heap.size, 7, none⟩ = some (.int .i64 H) := by rw [cell_of_row _ _ 7 _ 28 _ hv]; rfl
          have hlen : (Builtin.len_ #[37] 3 #[.map (some (w2.heap.size + 1))]).run Tryd.prog wm = .ok (.int .i64 (E.length : Int)) wm := by have := hM.len Tryd.underlying37 3; rw [hME.size] at this; exact this
          have hbm : Below w2.heap.size w2 wm := HX0.out.trans (below_of_grown HG.out (by omega) HX0.out.size)
          have hsm : w2.heap.size + 2 ≤ wm.heap.size := by have := HG.out.size; rw [HS0.out] at this; exact this
          have HM := Lib.hid hM
          have HME := Lib.hid hME
          have HVM := Lib.hid hv
          have HBM := Lib.hid hbm
          have HSM := Lib.hid hsm
          have hlE : E.length ≤ 20 := by rw [HE.out]; have h1 := upE_len (zipP NS IS) _ (Nat.le_refl _); have h2 := zipP_len NS IS; have h3 := HNL.out; omega
          have hlEI : (E.length : Int) ≤ 20 := by omega
          skip
          clear hM hME hv hbm hsm hnn HMJ
          go_upto_region 20 with (fail)
          clear hlen
          go_wp2
          clear a0 a1 a2 a3 a4 a5 a6 a7
          go_loopw [103] (fun s103 wr => ∃ j : Nat, j ≤ E.length ∧ s103 = .int .i64 (j : Int) ∧ Hid (Below wm.heap.size wm wr)) (fun s103 _ => E.length - (intOf s103).toNat)
          case atStart => exact ⟨0, by omega, rfl, Lib.hid (Below.refl _ _)⟩
          case round =>
            obtain ⟨j, hj, rfl, HBR⟩ := hrel
            have HVR : Hid (wr.heap[w2.heap.size]? = some (.cells #[.int .i64 4, .int .i64 0, .int .u64 0, .string ⟨#[]⟩, .slice aN E.length cN, .slice aK E.length cK, .pointer none, .int .i64 H] 28 (0, 0))) := by
              have := HBR.out.block w2.heap.size (by have := HSM.out; omega)
              exact this.trans HVM.out
            have HB2R : Hid (Below w2.heap.size w2 wr) := Lib.hid (HBM.out.trans (HBR.out.mono (by have := HSM.out; omega)))
            have HRR := Lib.hid (HR.out.on (w' := wr) (fun q hq => HB2R.out.block q hq))
            have HMR : Hid (wr.ownsMap Tryd.prog 9 (plainElem (H := Unit) Tryd.prog 2) (w2.heap.size + 1) nn D) := Lib.hid (HM.out.kept (row := none) ⟨HBR.out.os, HBR.out.tape, HBR.out.output, HBR.out.size, fun q hq _ => HBR.out.block q hq⟩ (by simp))
            have a0 : wr.cell? ⟨w2.heap.size, 0, none⟩ = some (.int .i64 4) := by rw [cell_of_row _ _ 0 _ 28 _ HVR.out]; rfl
            have a1 : wr.cell? ⟨w2.heap.size, 1, none⟩ = some (.int .i64 0) := by rw [cell_of_row _ _ 1 _ 28 _ HVR.out]; rfl
            have a2 : wr.cell? ⟨w2.heap.size, 2, none⟩ = some (.int .u64 0) := by rw [cell_of_row _ _ 2 _ 28 _ HVR.out]; rfl
            have a3 : wr.cell? ⟨w2.heap.size, 3, none⟩ = some (.string ⟨#[]⟩) := by rw [cell_of_row _ _ 3 _ 28 _ HVR.out]; rfl
            have a4 : wr.cell? ⟨w2.heap.size, 4, none⟩ = some (.slice aN E.length cN) := by rw [cell_of_row _ _ 4 _ 28 _ HVR.out]; rfl
            have a5 : wr.cell? ⟨w2.heap.size, 5, none⟩ = some (.slice aK E.length cK) := by rw [cell_of_row _ _ 5 _ 28 _ HVR.out]; rfl
            have a6 : wr.cell? ⟨w2.heap.size, 6, none⟩ = some (.pointer none) := by rw [cell_of_row _ _ 6 _ 28 _ HVR.out]; rfl
            have a7 : wr.cell? ⟨w2.heap.size, 7, none⟩ = some (.int .i64 H) := by rw [cell_of_row _ _ 7 _ 28 _ HVR.out]; rfl
            by_cases hjE : j < E.length
            · have := HE0.out; omega
            · have hjE2 : ¬ (j : Int) < E.length := by omega
              have HBW : Hid (Below w.heap.size w wr) := Lib.hid (HB2.out.trans (HB2R.out.mono HB2.out.size))
              have hnt : getE E ⟨#[110, 111, 116, 32, 116, 104, 101, 114, 101]⟩ = none := by rw [List.eq_nil_of_length_eq_zero HE0.out]; rfl
              have HFn : Hid (Calls Tryd.prog 12 #[.agg #[.int .i64 4, .int .i64 0, .int .u64 0, .string ⟨#[]⟩, .slice aN E.length cN, .slice aK E.length cK, .pointer none, .int .i64 H], .string ⟨#[110, 111, 116, 32, 116, 104, 101, 114, 101]⟩] wr fun e w' => e = .returned (.tuple #[.agg #[.int .i64 0, .int .i64 0, .int .u64 0, .string ⟨#[]⟩, .slice none 0 0, .slice none 0 0, .pointer none, .int .i64 0], .bool false]) ∧ Below wr.heap.size wr w') := Lib.hid (field_miss wr _ 0 0 H ⟨#[]⟩ none _ _ cN cK E.length E _ rfl (by omega) HRR.out hnt)
              have hhas : Maps.has D (.string [110, 111, 116, 32, 116, 104, 101, 114, 101]) = false := by have := HME.out.has ⟨#[110, 111, 116, 32, 116, 104, 101, 114, 101]⟩; rw [hnt] at this; exact this
              have HHAS := Lib.hid hhas
              clear hnt hhas
              go_upto_region 28 with (go_at_call 12; refine HFn.out.mono ?_; rintro e w5 ⟨rfl, hb5⟩)
              have HB6 : Hid (Below wr.heap.size wr (w5.alloc (.cells #[.int .i64 0, .int .i64 0, .int .u64 0, .string ⟨#[]⟩, .slice none 0 0, .slice none 0 0, .pointer none, .int .i64 0] 28))) := Lib.hid (hb5.alloc hb5.size _)
              clear hb5 a0 a1 a2 a3 a4 a5 a6 a7
              generalize (w5.alloc (.cells #[.int .i64 0, .int .i64 0, .int .u64 0, .string ⟨#[]⟩, .slice none 0 0, .slice none 0 0, .pointer none, .int .i64 0] 28)) = w6 at *
              go_upto_region 29 with (go_at_call 12; refine (field_tag2 _ _).mono ?_; rintro e w7 ⟨rfl, hb7⟩)
              have HB8 : Hid (Below wr.heap.size wr (w7.alloc (.cells #[.int .i64 0, .int .i64 0, .int .u64 0, .string ⟨#[]⟩, .slice none 0 0, .slice none 0 0, .pointer none, .int .i64 0] 28))) := Lib.hid ((HB6.out.trans (hb7.mono HB6.out.size)).alloc (Nat.le_trans HB6.out.size hb7.size) _)
              clear hb7
              generalize (w7.alloc (.cells #[.int .i64 0, .int .i64 0, .int .u64 0, .string ⟨#[]⟩, .slice none 0 0, .slice none 0 0, .pointer none, .int .i64 0] 28)) = w8 at *
              have HM8 : Hid (w8.ownsMap Tryd.prog 9 (plainElem (H := Unit) Tryd.prog 2) (w2.heap.size + 1) nn D) := Lib.hid (HMR.out.kept (row := none) ⟨HB8.out.os, HB8.out.tape, HB8.out.output, HB8.out.size, fun q hq _ => HB8.out.block q hq⟩ (by simp))
              have HKN := Lib.hid (keyOf9 ⟨#[110, 111, 116, 32, 116, 104, 101, 114, 101]⟩ (by unfold maxLen; decide))
              go_wp2_with (at_lookup; refine wpList_lookup_own_ok_int _ rfl _ _ 37 rfl 9 2 .i64 (Maps.string_keyed Tryd.underlying9) Tryd.underlying37 Tryd.underlying2 (zero2 _) (w2.heap.size + 1) nn D rfl HM8.out _ (.string [110, 111, 116, 32, 116, 104, 101, 114, 101]) rfl HKN.out ?_; intro c hat hwc; clear hat hwc; rw [HHAS.out])
              go_ret
              exact ⟨by simp, HBW.out.trans (HB8.out.mono HBW.out.size)⟩
set_option maxRecDepth 20000 in
set_option maxHeartbeats 400000 in
theorem recs_sze (w : World) (gn on : Nat) (ai : Option Addr) (n cn k ck : Nat) (NS : List ByteArray) (IS : List Int) (hn : n = NS.length) (hk : k = IS.length) (hcn : n ≤ cn) (h20 : n ≤ 20) (hk20 : k ≤ 20) (hkz : k = 0) (hgn : gn < w.heap.size) (hcN : ∀ i s, NS[i]? = some s → w.cell? ⟨gn, on + i, none⟩ = some (.string s)) (hsz : ∀ s ∈ NS, s.size ≤ maxLen) (E : List Ent) (hE : E = upE (zipP NS IS) (zipP NS IS).length) (he0 : E.length = 0) :
    Calls Tryd.prog 4 #[.slice (some ⟨gn, on, none⟩) n cn, .slice ai k ck] w fun e w' => e = .returned (.bool true) ∧ Below w.heap.size w w' := by
  have HNL := Lib.hid hn
  have HE := Lib.hid hE
  have HKL := Lib.hid hk
  have hnI : (n : Int) ≤ 20 := by omega
  have hkI : (k : Int) ≤ 20 := by omega
  obtain ⟨i0, hi, hz0, hz1, hz2⟩ := info_parts Tryd.info28
  have HI0 := Lib.hid hi
  have HZ0 := Lib.hid hz0
  have HZ1 := Lib.hid hz1
  have HZ2 := Lib.hid hz2
  have hmm := @run_makeMap Tryd.prog
  have HCN := Lib.hid hcN
  have HGN := Lib.hid hgn
  have HSZ := Lib.hid hsz
  clear hcN hgn hsz
  clear hE hn hk hi hz0 hz1 hz2
  have HE0 := Lib.hid he0
  clear he0
  have HKZ := Lib.hid hkz
  clear hkz
  go_enter Tryd.func4, Tryd.ntmps4
  go_upto_region 4 with (go_at_call 7; refine (lives_true _).mono ?_; rintro e w1 ⟨rfl, h1⟩)
  have H1 := Lib.hid h1
  clear h1
  go_wp2
  go_loopw [5, 39] (fun s5 s39 wr => ∃ (j : Nat) (v5 : Value), v5 = s5 ∧ j ≤ k ∧ s39 = .int .i64 (j : Int) ∧ Hid (wr.ownsRow w.heap.size 28 8 v5 j (cells (kRow (IS.take j)))) ∧ Hid (j = 0 → v5 = .slice none 0 0) ∧ Hid (Below w.heap.size w wr)) (fun _ s39 _ => k - (intOf s39).toNat)
  case atStart => exact ⟨0, _, rfl, by omega, rfl, Lib.hid (World.ownsRow_nil _ _ _ _), Lib.hid (fun _ => rfl), H1⟩
  case round =>

    obtain ⟨j, s5, rfl, hj, rfl, HO, HN0, HB⟩ := hrel
    by_cases hjk : j < k
    · have := HKZ.out; omega
    · have hjn2 : ¬ (j : Int) < k := by omega
      obtain rfl : k = j := by omega
      have HREC : Hid (∀ e w', RecPost wr E e w' → RecPost wr E e w') := Lib.hid (fun e w' h => h)
      have HRC : Hid (Calls Tryd.prog 11 #[.slice (some ⟨gn, on, none⟩) n cn, s5] wr (RecPost wr E)) := Lib.hid (by
        rw [HE.out]
        have hown := HO.out
        rw [HKL.out, List.take_of_length_le (Nat.le_refl _)] at hown
        exact rec_any wr w.heap.size _ n cn NS s5 IS ⟨HNL.out, Or.inr ⟨gn, on, rfl, Nat.lt_of_lt_of_le HGN.out HB.out.size, fun i s h => by rw [← HCN.out i s h]; exact HB.out.cell (p := ⟨gn, on + i, none⟩) HGN.out⟩⟩ hcn h20 (by rw [← HKL.out]; exact hk20) hown (fun h => HN0.out (by rw [HKL.out, h]; rfl)))
      go_wp2_with fail
      refine HRC.out.mono ?_
      intro e w2 hrec0
      have hrec := HREC.out _ _ hrec0
      clear hrec0
      obtain ⟨aN, cN, aK, cK, H, rfl, hrec, hb2⟩ := hrec
      have HR := Lib.hid hrec
      have HB2 := Lib.hid (HB.out.trans (hb2.mono HB.out.size))
      skip
      have HER := Lib.hid (upE_rises (zipP NS IS) (zipP NS IS).length)
      rw [← HE.out] at HER
      have hm0 : ((w2.alloc (.cells #[.int .i64 4, .int .i64 0, .int .u64 0, .string ⟨#[]⟩, .slice aN E.length cN, .slice aK E.length cK, .pointer none, .int .i64 H] 28)).alloc (.map #[] 0)).ownsMap Tryd.prog 9 (plainElem (H := Unit) Tryd.prog 2) (w2.heap.size + 1) 0 (.map []) := by
        have := World.ownsMap_made (H := Unit) (w2.alloc (.cells #[.int .i64 4, .int .i64 0, .int .u64 0, .string ⟨#[]⟩, .slice aN E.length cN, .slice aK E.length cK, .pointer none, .int .i64 H] 28)) Tryd.prog 9 (plainElem Tryd.prog 2)
        simpa using this
      have hv0 : ((w2.alloc (.cells #[.int .i64 4, .int .i64 0, .int .u64 0, .string ⟨#[]⟩, .slice aN E.length cN, .slice aK E.length cK, .pointer none, .int .i64 H] 28)).alloc (.map #[] 0)).heap[w2.heap.size]? = some (.cells #[.int .i64 4, .int .i64 0, .int .u64 0, .string ⟨#[]⟩, .slice aN E.length cN, .slice aK E.length cK, .pointer none, .int .i64 H] 28 (0, 0)) := by rw [Below.heap_alloc _ _ _ (by simp)]; exact heap_alloc_new w2 _
      have hx0 : Below w2.heap.size w2 ((w2.alloc (.cells #[.int .i64 4, .int .i64 0, .int .u64 0, .string ⟨#[]⟩, .slice aN E.length cN, .slice aK E.length cK, .pointer none, .int .i64 H] 28)).alloc (.map #[] 0)) := ((Below.refl _ _).alloc (Nat.le_refl _) _).alloc (by simp) _
      have hs0 : ((w2.alloc (.cells #[.int .i64 4, .int .i64 0, .int .u64 0, .string ⟨#[]⟩, .slice aN E.length cN, .slice aK E.length cK, .pointer none, .int .i64 H] 28)).alloc (.map #[] 0)).heap.size = w2.heap.size + 2 := by simp
      have HM0 := Lib.hid hm0
      have HV0 := Lib.hid hv0
      have HX0 := Lib.hid hx0
      have HS0 := Lib.hid hs0
      clear hrec hb2  hm0 hv0 hx0 hs0
      go_upto_region 11 with (fail)
      generalize ((w2.alloc (.cells #[.int .i64 4, .int .i64 0, .int .u64 0, .string ⟨#[]⟩, .slice aN E.length cN, .slice aK E.length cK, .pointer none, .int .i64 H] 28)).alloc (.map #[] 0)) = w3 at *
      have HB3 : Hid (Below w.heap.size w w3) := Lib.hid (HB2.out.trans (HX0.out.mono HB2.out.size))
      clear HO HN0 HB HRC HREC
      go_wp2
      go_loopw [55] (fun s55 wr => ∃ j : Nat, j ≤ n ∧ s55 = .int .i64 (j : Int) ∧ Hid (∃ (D : DataW Unit) (nn : Nat), nn ≤ j ∧ wr.ownsMap Tryd.prog 9 (plainElem Tryd.prog 2) (w2.heap.size + 1) nn D ∧ MapE D (upE (zipP NS IS) j)) ∧ Hid (w3.grownBy wr (some (w2.heap.size + 1)))) (fun s55 _ => n - (intOf s55).toNat)
      case atStart => exact ⟨0, by omega, rfl, Lib.hid ⟨_, 0, Nat.le_refl _, HM0.out, MapE.nil⟩, Lib.hid ⟨rfl, rfl, rfl, Nat.le_refl _, fun _ _ _ => rfl⟩⟩
      case round =>
        obtain ⟨j, hj, rfl, HMJ, HG⟩ := hrel
        by_cases hjn : j < n
        · obtain ⟨x, hx⟩ : ∃ x, NS[j]? = some x := ⟨_, List.getElem?_eq_getElem (by rw [← HNL.out]; exact hjn)⟩
          have hlt : (j : Int) < n := by omega
          have hBW : Below w.heap.size w wr := HB3.out.trans (below_of_grown HG.out (by have := HB2.out.size; omega) HB3.out.size)
          have ax : wr.cell? ⟨gn, on + j, none⟩ = some (.string x) := by rw [← HCN.out j x hx]; exact hBW.cell (p := ⟨gn, on + j, none⟩) HGN.out
          have hwj : IntKind.i64.wrap ((j : Int) + 1) = (j : Int) + 1 := by rw [IntKind.wrap_i64]; omega
          have HKX := Lib.hid (keyOf9 x (HSZ.out x (List.mem_of_getElem? hx)))
          obtain ⟨D, nn, hnn, hM, hME⟩ := HMJ.out
          have HM := Lib.hid hM
          have HME := Lib.hid hME
          have HBW := Lib.hid hBW
          have HXX := Lib.hid hx
          clear hM hME hBW hx
          cases hge : getE (upE (zipP NS IS) j) x with
          | some kk =>
            have hhas : Maps.has D (keyS x) = true := by rw [HME.out.has x, hge]; rfl
            have HME1 : Hid (MapE D (upE (zipP NS IS) (j + 1))) := Lib.hid (by
              rcases Nat.lt_or_ge j (zipP NS IS).length with hz | hz
              · obtain ⟨s, i, h1, h2, h3⟩ := zipP_inv NS IS j _ (List.getElem?_eq_getElem hz)
                have hs := HXX.out.symm.trans h1
                cases hs
                have := HME.out.step x i (by rw [List.getElem?_eq_getElem hz, h3])
                rw [hge] at this
                exact this
              · rw [upE_stay _ _ hz]; exact HME.out)
            clear hge
            go_wp2_with (at_lookup; refine wpList_lookup_own_ok_int _ rfl _ _ 37 rfl 9 2 .i64 (Maps.string_keyed Tryd.underlying9) Tryd.underlying37 Tryd.underlying2 (zero2 _) (w2.heap.size + 1) nn D rfl HM.out _ (keyS x) rfl HKX.out ?_; intro c hat hwc; clear hat hwc)
            go_roundw
            case rel => exact ⟨j + 1, by omega, rfl, Lib.hid ⟨D, nn, by omega, HM.out, HME1.out⟩, HG⟩
            case measure => simp [intOf]; omega
          | none =>
            have hhas : Maps.has D (keyS x) = false := by rw [HME.out.has x, hge]; rfl
            have HGE := Lib.hid hge
            clear hge
            by_cases hjk : j < k
            · have := HKZ.out; omega
            · have hnk : ¬ (j : Int) < k := by omega
              have HME1 : Hid (MapE D (upE (zipP NS IS) (j + 1))) := Lib.hid (by rw [upE_stay _ _ (by rw [zipP_len]; have := HKL.out; omega)]; exact HME.out)
              go_wp2_with (at_lookup; refine wpList_lookup_own_ok_int _ rfl _ _ 37 rfl 9 2 .i64 (Maps.string_keyed Tryd.underlying9) Tryd.underlying37 Tryd.underlying2 (zero2 _) (w2.heap.size + 1) nn D rfl HM.out _ (keyS x) rfl HKX.out ?_; intro c hat hwc; clear hat hwc)
              go_roundw
              case rel => exact ⟨j + 1, by omega, rfl, Lib.hid ⟨D, nn, by omega, HM.out, HME1.out⟩, HG⟩
              case measure => simp [intOf]; omega

        · have hjn3 : ¬ (j : Int) < n := by omega
          obtain rfl : n = j := by omega
          obtain ⟨D, nn, hnn, hM, hME⟩ := HMJ.out
          rw [upE_past _ n (by rw [zipP_len]; have := HNL.out; omega), ← HE.out] at hME
          obtain ⟨wm, rfl⟩ : ∃ wm : World, wm = wr := ⟨_, rfl⟩
          have hv : wm.heap[w2.heap.size]? = some (.cells #[.int .i64 4, .int .i64 0, .int .u64 0, .string ⟨#[]⟩, .slice aN E.length cN, .slice aK E.length cK, .pointer none, .int .i64 H] 28 (0, 0)) := by rw [HG.out.block _ (by rw [HS0.out]; omega) (by simp)]; exact HV0.out
          have a0 : wm.cell? ⟨w2.heap.size, 0, none⟩ = some (.int .i64 4) := by rw [cell_of_row _ _ 0 _ 28 _ hv]; rfl
          have a1 : wm.cell? ⟨w2.heap.size, 1, none⟩ = some (.int .i64 0) := by rw [cell_of_row _ _ 1 _ 28 _ hv]; rfl
          have a2 : wm.cell? ⟨w2.heap.size, 2, none⟩ = some (.int .u64 0) := by rw [cell_of_row _ _ 2 _ 28 _ hv]; rfl
          have a3 : wm.cell? ⟨w2.heap.size, 3, none⟩ = some (.string ⟨#[]⟩) := by rw [cell_of_row _ _ 3 _ 28 _ hv]; rfl
          have a4 : wm.cell? ⟨w2.heap.size, 4, none⟩ = some (.slice aN E.length cN) := by rw [cell_of_row _ _ 4 _ 28 _ hv]; rfl
          have a5 : wm.cell? ⟨w2.heap.size, 5, none⟩ = some (.slice aK E.length cK) := by rw [cell_of_row _ _ 5 _ 28 _ hv]; rfl
          have a6 : wm.cell? ⟨w2.heap.size, 6, none⟩ = some (.pointer none) := by rw [cell_of_row _ _ 6 _ 28 _ hv]; rfl
          have a7 : wm.cell? ⟨w2.heap.size, 7, none⟩ = some (.int .i64 H) := by rw [cell_of_row _ _ 7 _ 28 _ hv]; rfl
          have hlen : (Builtin.len_ #[37] 3 #[.map (some (w2.heap.size + 1))]).run Tryd.prog wm = .ok (.int .i64 (E.length : Int)) wm := by have := hM.len Tryd.underlying37 3; rw [hME.size] at this; exact this
          have hbm : Below w2.heap.size w2 wm := HX0.out.trans (below_of_grown HG.out (by omega) HX0.out.size)
          have hsm : w2.heap.size + 2 ≤ wm.heap.size := by have := HG.out.size; rw [HS0.out] at this; exact this
          have HM := Lib.hid hM
          have HME := Lib.hid hME
          have HVM := Lib.hid hv
          have HBM := Lib.hid hbm
          have HSM := Lib.hid hsm
          have hlE : E.length ≤ 20 := by rw [HE.out]; have h1 := upE_len (zipP NS IS) _ (Nat.le_refl _); have h2 := zipP_len NS IS; have h3 := HNL.out; omega
          have hlEI : (E.length : Int) ≤ 20 := by omega
          skip
          clear hM hME hv hbm hsm hnn HMJ
          go_upto_region 20 with (fail)
          clear hlen
          go_wp2
          clear a0 a1 a2 a3 a4 a5 a6 a7
          go_loopw [103] (fun s103 wr => ∃ j : Nat, j ≤ E.length ∧ s103 = .int .i64 (j : Int) ∧ Hid (Below wm.heap.size wm wr)) (fun s103 _ => E.length - (intOf s103).toNat)
          case atStart => exact ⟨0, by omega, rfl, Lib.hid (Below.refl _ _)⟩
          case round =>
            obtain ⟨j, hj, rfl, HBR⟩ := hrel
            have HVR : Hid (wr.heap[w2.heap.size]? = some (.cells #[.int .i64 4, .int .i64 0, .int .u64 0, .string ⟨#[]⟩, .slice aN E.length cN, .slice aK E.length cK, .pointer none, .int .i64 H] 28 (0, 0))) := by
              have := HBR.out.block w2.heap.size (by have := HSM.out; omega)
              exact this.trans HVM.out
            have HB2R : Hid (Below w2.heap.size w2 wr) := Lib.hid (HBM.out.trans (HBR.out.mono (by have := HSM.out; omega)))
            have HRR := Lib.hid (HR.out.on (w' := wr) (fun q hq => HB2R.out.block q hq))
            have HMR : Hid (wr.ownsMap Tryd.prog 9 (plainElem (H := Unit) Tryd.prog 2) (w2.heap.size + 1) nn D) := Lib.hid (HM.out.kept (row := none) ⟨HBR.out.os, HBR.out.tape, HBR.out.output, HBR.out.size, fun q hq _ => HBR.out.block q hq⟩ (by simp))
            have a0 : wr.cell? ⟨w2.heap.size, 0, none⟩ = some (.int .i64 4) := by rw [cell_of_row _ _ 0 _ 28 _ HVR.out]; rfl
            have a1 : wr.cell? ⟨w2.heap.size, 1, none⟩ = some (.int .i64 0) := by rw [cell_of_row _ _ 1 _ 28 _ HVR.out]; rfl
            have a2 : wr.cell? ⟨w2.heap.size, 2, none⟩ = some (.int .u64 0) := by rw [cell_of_row _ _ 2 _ 28 _ HVR.out]; rfl
            have a3 : wr.cell? ⟨w2.heap.size, 3, none⟩ = some (.string ⟨#[]⟩) := by rw [cell_of_row _ _ 3 _ 28 _ HVR.out]; rfl
            have a4 : wr.cell? ⟨w2.heap.size, 4, none⟩ = some (.slice aN E.length cN) := by rw [cell_of_row _ _ 4 _ 28 _ HVR.out]; rfl
            have a5 : wr.cell? ⟨w2.heap.size, 5, none⟩ = some (.slice aK E.length cK) := by rw [cell_of_row _ _ 5 _ 28 _ HVR.out]; rfl
            have a6 : wr.cell? ⟨w2.heap.size, 6, none⟩ = some (.pointer none) := by rw [cell_of_row _ _ 6 _ 28 _ HVR.out]; rfl
            have a7 : wr.cell? ⟨w2.heap.size, 7, none⟩ = some (.int .i64 H) := by rw [cell_of_row _ _ 7 _ 28 _ HVR.out]; rfl
            by_cases hjE : j < E.length
            · have := HE0.out; omega
            · have hjE2 : ¬ (j : Int) < E.length := by omega
              have HBW : Hid (Below w.heap.size w wr) := Lib.hid (HB2.out.trans (HB2R.out.mono HB2.out.size))
              have hnt : getE E ⟨#[110, 111, 116, 32, 116, 104, 101, 114, 101]⟩ = none := by rw [List.eq_nil_of_length_eq_zero HE0.out]; rfl
              have HFn : Hid (Calls Tryd.prog 12 #[.agg #[.int .i64 4, .int .i64 0, .int .u64 0, .string ⟨#[]⟩, .slice aN E.length cN, .slice aK E.length cK, .pointer none, .int .i64 H], .string ⟨#[110, 111, 116, 32, 116, 104, 101, 114, 101]⟩] wr fun e w' => e = .returned (.tuple #[.agg #[.int .i64 0, .int .i64 0, .int .u64 0, .string ⟨#[]⟩, .slice none 0 0, .slice none 0 0, .pointer none, .int .i64 0], .bool false]) ∧ Below wr.heap.size wr w') := Lib.hid (field_miss wr _ 0 0 H ⟨#[]⟩ none _ _ cN cK E.length E _ rfl (by omega) HRR.out hnt)
              have hhas : Maps.has D (.string [110, 111, 116, 32, 116, 104, 101, 114, 101]) = false := by have := HME.out.has ⟨#[110, 111, 116, 32, 116, 104, 101, 114, 101]⟩; rw [hnt] at this; exact this
              have HHAS := Lib.hid hhas
              clear hnt hhas
              go_upto_region 28 with (go_at_call 12; refine HFn.out.mono ?_; rintro e w5 ⟨rfl, hb5⟩)
              have HB6 : Hid (Below wr.heap.size wr (w5.alloc (.cells #[.int .i64 0, .int .i64 0, .int .u64 0, .string ⟨#[]⟩, .slice none 0 0, .slice none 0 0, .pointer none, .int .i64 0] 28))) := Lib.hid (hb5.alloc hb5.size _)
              clear hb5 a0 a1 a2 a3 a4 a5 a6 a7
              generalize (w5.alloc (.cells #[.int .i64 0, .int .i64 0, .int .u64 0, .string ⟨#[]⟩, .slice none 0 0, .slice none 0 0, .pointer none, .int .i64 0] 28)) = w6 at *
              go_upto_region 29 with (go_at_call 12; refine (field_tag2 _ _).mono ?_; rintro e w7 ⟨rfl, hb7⟩)
              have HB8 : Hid (Below wr.heap.size wr (w7.alloc (.cells #[.int .i64 0, .int .i64 0, .int .u64 0, .string ⟨#[]⟩, .slice none 0 0, .slice none 0 0, .pointer none, .int .i64 0] 28))) := Lib.hid ((HB6.out.trans (hb7.mono HB6.out.size)).alloc (Nat.le_trans HB6.out.size hb7.size) _)
              clear hb7
              generalize (w7.alloc (.cells #[.int .i64 0, .int .i64 0, .int .u64 0, .string ⟨#[]⟩, .slice none 0 0, .slice none 0 0, .pointer none, .int .i64 0] 28)) = w8 at *
              have HM8 : Hid (w8.ownsMap Tryd.prog 9 (plainElem (H := Unit) Tryd.prog 2) (w2.heap.size + 1) nn D) := Lib.hid (HMR.out.kept (row := none) ⟨HB8.out.os, HB8.out.tape, HB8.out.output, HB8.out.size, fun q hq _ => HB8.out.block q hq⟩ (by simp))
              have HKN := Lib.hid (keyOf9 ⟨#[110, 111, 116, 32, 116, 104, 101, 114, 101]⟩ (by unfold maxLen; decide))
              go_wp2_with (at_lookup; refine wpList_lookup_own_ok_int _ rfl _ _ 37 rfl 9 2 .i64 (Maps.string_keyed Tryd.underlying9) Tryd.underlying37 Tryd.underlying2 (zero2 _) (w2.heap.size + 1) nn D rfl HM8.out _ (.string [110, 111, 116, 32, 116, 104, 101, 114, 101]) rfl HKN.out ?_; intro c hat hwc; clear hat hwc; rw [HHAS.out])
              go_ret
              exact ⟨by simp, HBW.out.trans (HB8.out.mono HBW.out.size)⟩
set_option maxRecDepth 20000 in
set_option maxHeartbeats 400000 in
theorem recs_zze (w : World) (an : Option Addr) (ai : Option Addr) (n cn k ck : Nat) (NS : List ByteArray) (IS : List Int) (hn : n = NS.length) (hk : k = IS.length) (hcn : n ≤ cn) (h20 : n ≤ 20) (hk20 : k ≤ 20) (hnz : n = 0) (hkz : k = 0) (E : List Ent) (hE : E = upE (zipP NS IS) (zipP NS IS).length) (he0 : E.length = 0) :
    Calls Tryd.prog 4 #[.slice an n cn, .slice ai k ck] w fun e w' => e = .returned (.bool true) ∧ Below w.heap.size w w' := by
  have HNL := Lib.hid hn
  have HE := Lib.hid hE
  have HKL := Lib.hid hk
  have hnI : (n : Int) ≤ 20 := by omega
  have hkI : (k : Int) ≤ 20 := by omega
  obtain ⟨i0, hi, hz0, hz1, hz2⟩ := info_parts Tryd.info28
  have HI0 := Lib.hid hi
  have HZ0 := Lib.hid hz0
  have HZ1 := Lib.hid hz1
  have HZ2 := Lib.hid hz2
  have hmm := @run_makeMap Tryd.prog
  clear hE hn hk hi hz0 hz1 hz2
  have HE0 := Lib.hid he0
  clear he0
  have HNZ := Lib.hid hnz
  clear hnz
  have HKZ := Lib.hid hkz
  clear hkz
  go_enter Tryd.func4, Tryd.ntmps4
  go_upto_region 4 with (go_at_call 7; refine (lives_true _).mono ?_; rintro e w1 ⟨rfl, h1⟩)
  have H1 := Lib.hid h1
  clear h1
  go_wp2
  go_loopw [5, 39] (fun s5 s39 wr => ∃ (j : Nat) (v5 : Value), v5 = s5 ∧ j ≤ k ∧ s39 = .int .i64 (j : Int) ∧ Hid (wr.ownsRow w.heap.size 28 8 v5 j (cells (kRow (IS.take j)))) ∧ Hid (j = 0 → v5 = .slice none 0 0) ∧ Hid (Below w.heap.size w wr)) (fun _ s39 _ => k - (intOf s39).toNat)
  case atStart => exact ⟨0, _, rfl, by omega, rfl, Lib.hid (World.ownsRow_nil _ _ _ _), Lib.hid (fun _ => rfl), H1⟩
  case round =>

    obtain ⟨j, s5, rfl, hj, rfl, HO, HN0, HB⟩ := hrel
    by_cases hjk : j < k
    · have := HKZ.out; omega
    · have hjn2 : ¬ (j : Int) < k := by omega
      obtain rfl : k = j := by omega
      have HREC : Hid (∀ e w', RecPost wr E e w' → RecPost wr E e w') := Lib.hid (fun e w' h => h)
      have HRC : Hid (Calls Tryd.prog 11 #[.slice an n cn, s5] wr (RecPost wr E)) := Lib.hid (by
        rw [HE.out]
        have hown := HO.out
        rw [HKL.out, List.take_of_length_le (Nat.le_refl _)] at hown
        exact rec_any wr w.heap.size _ n cn NS s5 IS ⟨HNL.out, Or.inl HNZ.out⟩ hcn h20 (by rw [← HKL.out]; exact hk20) hown (fun h => HN0.out (by rw [HKL.out, h]; rfl)))
      go_wp2_with fail
      refine HRC.out.mono ?_
      intro e w2 hrec0
      have hrec := HREC.out _ _ hrec0
      clear hrec0
      obtain ⟨aN, cN, aK, cK, H, rfl, hrec, hb2⟩ := hrec
      have HR := Lib.hid hrec
      have HB2 := Lib.hid (HB.out.trans (hb2.mono HB.out.size))
      skip
      have HER := Lib.hid (upE_rises (zipP NS IS) (zipP NS IS).length)
      rw [← HE.out] at HER
      have hm0 : ((w2.alloc (.cells #[.int .i64 4, .int .i64 0, .int .u64 0, .string ⟨#[]⟩, .slice aN E.length cN, .slice aK E.length cK, .pointer none, .int .i64 H] 28)).alloc (.map #[] 0)).ownsMap Tryd.prog 9 (plainElem (H := Unit) Tryd.prog 2) (w2.heap.size + 1) 0 (.map []) := by
        have := World.ownsMap_made (H := Unit) (w2.alloc (.cells #[.int .i64 4, .int .i64 0, .int .u64 0, .string ⟨#[]⟩, .slice aN E.length cN, .slice aK E.length cK, .pointer none, .int .i64 H] 28)) Tryd.prog 9 (plainElem Tryd.prog 2)
        simpa using this
      have hv0 : ((w2.alloc (.cells #[.int .i64 4, .int .i64 0, .int .u64 0, .string ⟨#[]⟩, .slice aN E.length cN, .slice aK E.length cK, .pointer none, .int .i64 H] 28)).alloc (.map #[] 0)).heap[w2.heap.size]? = some (.cells #[.int .i64 4, .int .i64 0, .int .u64 0, .string ⟨#[]⟩, .slice aN E.length cN, .slice aK E.length cK, .pointer none, .int .i64 H] 28 (0, 0)) := by rw [Below.heap_alloc _ _ _ (by simp)]; exact heap_alloc_new w2 _
      have hx0 : Below w2.heap.size w2 ((w2.alloc (.cells #[.int .i64 4, .int .i64 0, .int .u64 0, .string ⟨#[]⟩, .slice aN E.length cN, .slice aK E.length cK, .pointer none, .int .i64 H] 28)).alloc (.map #[] 0)) := ((Below.refl _ _).alloc (Nat.le_refl _) _).alloc (by simp) _
      have hs0 : ((w2.alloc (.cells #[.int .i64 4, .int .i64 0, .int .u64 0, .string ⟨#[]⟩, .slice aN E.length cN, .slice aK E.length cK, .pointer none, .int .i64 H] 28)).alloc (.map #[] 0)).heap.size = w2.heap.size + 2 := by simp
      have HM0 := Lib.hid hm0
      have HV0 := Lib.hid hv0
      have HX0 := Lib.hid hx0
      have HS0 := Lib.hid hs0
      clear hrec hb2  hm0 hv0 hx0 hs0
      go_upto_region 11 with (fail)
      generalize ((w2.alloc (.cells #[.int .i64 4, .int .i64 0, .int .u64 0, .string ⟨#[]⟩, .slice aN E.length cN, .slice aK E.length cK, .pointer none, .int .i64 H] 28)).alloc (.map #[] 0)) = w3 at *
      have HB3 : Hid (Below w.heap.size w w3) := Lib.hid (HB2.out.trans (HX0.out.mono HB2.out.size))
      clear HO HN0 HB HRC HREC
      go_wp2
      go_loopw [55] (fun s55 wr => ∃ j : Nat, j ≤ n ∧ s55 = .int .i64 (j : Int) ∧ Hid (∃ (D : DataW Unit) (nn : Nat), nn ≤ j ∧ wr.ownsMap Tryd.prog 9 (plainElem Tryd.prog 2) (w2.heap.size + 1) nn D ∧ MapE D (upE (zipP NS IS) j)) ∧ Hid (w3.grownBy wr (some (w2.heap.size + 1)))) (fun s55 _ => n - (intOf s55).toNat)
      case atStart => exact ⟨0, by omega, rfl, Lib.hid ⟨_, 0, Nat.le_refl _, HM0.out, MapE.nil⟩, Lib.hid ⟨rfl, rfl, rfl, Nat.le_refl _, fun _ _ _ => rfl⟩⟩
      case round =>
        obtain ⟨j, hj, rfl, HMJ, HG⟩ := hrel
        by_cases hjn : j < n
        · have := HNZ.out; omega

        · have hjn3 : ¬ (j : Int) < n := by omega
          obtain rfl : n = j := by omega
          obtain ⟨D, nn, hnn, hM, hME⟩ := HMJ.out
          rw [upE_past _ n (by rw [zipP_len]; have := HNL.out; omega), ← HE.out] at hME
          obtain ⟨wm, rfl⟩ : ∃ wm : World, wm = wr := ⟨_, rfl⟩
          have hv : wm.heap[w2.heap.size]? = some (.cells #[.int .i64 4, .int .i64 0, .int .u64 0, .string ⟨#[]⟩, .slice aN E.length cN, .slice aK E.length cK, .pointer none, .int .i64 H] 28 (0, 0)) := by rw [HG.out.block _ (by rw [HS0.out]; omega) (by simp)]; exact HV0.out
          have a0 : wm.cell? ⟨w2.heap.size, 0, none⟩ = some (.int .i64 4) := by rw [cell_of_row _ _ 0 _ 28 _ hv]; rfl
          have a1 : wm.cell? ⟨w2.heap.size, 1, none⟩ = some (.int .i64 0) := by rw [cell_of_row _ _ 1 _ 28 _ hv]; rfl
          have a2 : wm.cell? ⟨w2.heap.size, 2, none⟩ = some (.int .u64 0) := by rw [cell_of_row _ _ 2 _ 28 _ hv]; rfl
          have a3 : wm.cell? ⟨w2.heap.size, 3, none⟩ = some (.string ⟨#[]⟩) := by rw [cell_of_row _ _ 3 _ 28 _ hv]; rfl
          have a4 : wm.cell? ⟨w2.heap.size, 4, none⟩ = some (.slice aN E.length cN) := by rw [cell_of_row _ _ 4 _ 28 _ hv]; rfl
          have a5 : wm.cell? ⟨w2.heap.size, 5, none⟩ = some (.slice aK E.length cK) := by rw [cell_of_row _ _ 5 _ 28 _ hv]; rfl
          have a6 : wm.cell? ⟨w2.heap.size, 6, none⟩ = some (.pointer none) := by rw [cell_of_row _ _ 6 _ 28 _ hv]; rfl
          have a7 : wm.cell? ⟨w2.heap.size, 7, none⟩ = some (.int .i64 H) := by rw [cell_of_row _ _ 7 _ 28 _ hv]; rfl
          have hlen : (Builtin.len_ #[37] 3 #[.map (some (w2.heap.size + 1))]).run Tryd.prog wm = .ok (.int .i64 (E.length : Int)) wm := by have := hM.len Tryd.underlying37 3; rw [hME.size] at this; exact this
          have hbm : Below w2.heap.size w2 wm := HX0.out.trans (below_of_grown HG.out (by omega) HX0.out.size)
          have hsm : w2.heap.size + 2 ≤ wm.heap.size := by have := HG.out.size; rw [HS0.out] at this; exact this
          have HM := Lib.hid hM
          have HME := Lib.hid hME
          have HVM := Lib.hid hv
          have HBM := Lib.hid hbm
          have HSM := Lib.hid hsm
          have hlE : E.length ≤ 20 := by rw [HE.out]; have h1 := upE_len (zipP NS IS) _ (Nat.le_refl _); have h2 := zipP_len NS IS; have h3 := HNL.out; omega
          have hlEI : (E.length : Int) ≤ 20 := by omega
          skip
          clear hM hME hv hbm hsm hnn HMJ
          go_upto_region 20 with (fail)
          clear hlen
          go_wp2
          clear a0 a1 a2 a3 a4 a5 a6 a7
          go_loopw [103] (fun s103 wr => ∃ j : Nat, j ≤ E.length ∧ s103 = .int .i64 (j : Int) ∧ Hid (Below wm.heap.size wm wr)) (fun s103 _ => E.length - (intOf s103).toNat)
          case atStart => exact ⟨0, by omega, rfl, Lib.hid (Below.refl _ _)⟩
          case round =>
            obtain ⟨j, hj, rfl, HBR⟩ := hrel
            have HVR : Hid (wr.heap[w2.heap.size]? = some (.cells #[.int .i64 4, .int .i64 0, .int .u64 0, .string ⟨#[]⟩, .slice aN E.length cN, .slice aK E.length cK, .pointer none, .int .i64 H] 28 (0, 0))) := by
              have := HBR.out.block w2.heap.size (by have := HSM.out; omega)
              exact this.trans HVM.out
            have HB2R : Hid (Below w2.heap.size w2 wr) := Lib.hid (HBM.out.trans (HBR.out.mono (by have := HSM.out; omega)))
            have HRR := Lib.hid (HR.out.on (w' := wr) (fun q hq => HB2R.out.block q hq))
            have HMR : Hid (wr.ownsMap Tryd.prog 9 (plainElem (H := Unit) Tryd.prog 2) (w2.heap.size + 1) nn D) := Lib.hid (HM.out.kept (row := none) ⟨HBR.out.os, HBR.out.tape, HBR.out.output, HBR.out.size, fun q hq _ => HBR.out.block q hq⟩ (by simp))
            have a0 : wr.cell? ⟨w2.heap.size, 0, none⟩ = some (.int .i64 4) := by rw [cell_of_row _ _ 0 _ 28 _ HVR.out]; rfl
            have a1 : wr.cell? ⟨w2.heap.size, 1, none⟩ = some (.int .i64 0) := by rw [cell_of_row _ _ 1 _ 28 _ HVR.out]; rfl
            have a2 : wr.cell? ⟨w2.heap.size, 2, none⟩ = some (.int .u64 0) := by rw [cell_of_row _ _ 2 _ 28 _ HVR.out]; rfl
            have a3 : wr.cell? ⟨w2.heap.size, 3, none⟩ = some (.string ⟨#[]⟩) := by rw [cell_of_row _ _ 3 _ 28 _ HVR.out]; rfl
            have a4 : wr.cell? ⟨w2.heap.size, 4, none⟩ = some (.slice aN E.length cN) := by rw [cell_of_row _ _ 4 _ 28 _ HVR.out]; rfl
            have a5 : wr.cell? ⟨w2.heap.size, 5, none⟩ = some (.slice aK E.length cK) := by rw [cell_of_row _ _ 5 _ 28 _ HVR.out]; rfl
            have a6 : wr.cell? ⟨w2.heap.size, 6, none⟩ = some (.pointer none) := by rw [cell_of_row _ _ 6 _ 28 _ HVR.out]; rfl
            have a7 : wr.cell? ⟨w2.heap.size, 7, none⟩ = some (.int .i64 H) := by rw [cell_of_row _ _ 7 _ 28 _ HVR.out]; rfl
            by_cases hjE : j < E.length
            · have := HE0.out; omega
            · have hjE2 : ¬ (j : Int) < E.length := by omega
              have HBW : Hid (Below w.heap.size w wr) := Lib.hid (HB2.out.trans (HB2R.out.mono HB2.out.size))
              have hnt : getE E ⟨#[110, 111, 116, 32, 116, 104, 101, 114, 101]⟩ = none := by rw [List.eq_nil_of_length_eq_zero HE0.out]; rfl
              have HFn : Hid (Calls Tryd.prog 12 #[.agg #[.int .i64 4, .int .i64 0, .int .u64 0, .string ⟨#[]⟩, .slice aN E.length cN, .slice aK E.length cK, .pointer none, .int .i64 H], .string ⟨#[110, 111, 116, 32, 116, 104, 101, 114, 101]⟩] wr fun e w' => e = .returned (.tuple #[.agg #[.int .i64 0, .int .i64 0, .int .u64 0, .string ⟨#[]⟩, .slice none 0 0, .slice none 0 0, .pointer none, .int .i64 0], .bool false]) ∧ Below wr.heap.size wr w') := Lib.hid (field_miss wr _ 0 0 H ⟨#[]⟩ none _ _ cN cK E.length E _ rfl (by omega) HRR.out hnt)
              have hhas : Maps.has D (.string [110, 111, 116, 32, 116, 104, 101, 114, 101]) = false := by have := HME.out.has ⟨#[110, 111, 116, 32, 116, 104, 101, 114, 101]⟩; rw [hnt] at this; exact this
              have HHAS := Lib.hid hhas
              clear hnt hhas
              go_upto_region 28 with (go_at_call 12; refine HFn.out.mono ?_; rintro e w5 ⟨rfl, hb5⟩)
              have HB6 : Hid (Below wr.heap.size wr (w5.alloc (.cells #[.int .i64 0, .int .i64 0, .int .u64 0, .string ⟨#[]⟩, .slice none 0 0, .slice none 0 0, .pointer none, .int .i64 0] 28))) := Lib.hid (hb5.alloc hb5.size _)
              clear hb5 a0 a1 a2 a3 a4 a5 a6 a7
              generalize (w5.alloc (.cells #[.int .i64 0, .int .i64 0, .int .u64 0, .string ⟨#[]⟩, .slice none 0 0, .slice none 0 0, .pointer none, .int .i64 0] 28)) = w6 at *
              go_upto_region 29 with (go_at_call 12; refine (field_tag2 _ _).mono ?_; rintro e w7 ⟨rfl, hb7⟩)
              have HB8 : Hid (Below wr.heap.size wr (w7.alloc (.cells #[.int .i64 0, .int .i64 0, .int .u64 0, .string ⟨#[]⟩, .slice none 0 0, .slice none 0 0, .pointer none, .int .i64 0] 28))) := Lib.hid ((HB6.out.trans (hb7.mono HB6.out.size)).alloc (Nat.le_trans HB6.out.size hb7.size) _)
              clear hb7
              generalize (w7.alloc (.cells #[.int .i64 0, .int .i64 0, .int .u64 0, .string ⟨#[]⟩, .slice none 0 0, .slice none 0 0, .pointer none, .int .i64 0] 28)) = w8 at *
              have HM8 : Hid (w8.ownsMap Tryd.prog 9 (plainElem (H := Unit) Tryd.prog 2) (w2.heap.size + 1) nn D) := Lib.hid (HMR.out.kept (row := none) ⟨HB8.out.os, HB8.out.tape, HB8.out.output, HB8.out.size, fun q hq _ => HB8.out.block q hq⟩ (by simp))
              have HKN := Lib.hid (keyOf9 ⟨#[110, 111, 116, 32, 116, 104, 101, 114, 101]⟩ (by unfold maxLen; decide))
              go_wp2_with (at_lookup; refine wpList_lookup_own_ok_int _ rfl _ _ 37 rfl 9 2 .i64 (Maps.string_keyed Tryd.underlying9) Tryd.underlying37 Tryd.underlying2 (zero2 _) (w2.heap.size + 1) nn D rfl HM8.out _ (.string [110, 111, 116, 32, 116, 104, 101, 114, 101]) rfl HKN.out ?_; intro c hat hwc; clear hat hwc; rw [HHAS.out])
              go_ret
              exact ⟨by simp, HBW.out.trans (HB8.out.mono HBW.out.size)⟩
end Go.Proofs.YtpefajgllapicaaDoor.valueRecords
