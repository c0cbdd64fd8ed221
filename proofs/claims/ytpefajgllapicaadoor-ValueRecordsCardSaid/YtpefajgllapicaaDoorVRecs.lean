/- ValueRecords: whatever the input, the law returns true; conditions: none but the three tables of the library that the row lists, each tied to the program's text. -/
import Derived.Test.YtpefajgllapicaaDoorTe
import Derived.ChangeSlices
import Derived.Test.YtpefajgllapicaaDoorLw
import Derived.Test.YtpefajgllapicaaDoorTie
import Derived.Test.YtpefajgllapicaaDoorCards
import Derived.ProofKit
import Derived.LaidMore
import Derived.SevenTiedAt
import Derived.Stop.Joined
import Derived.SliceStrings
import Derived.ChangeMaps
set_option linter.unusedVariables false
namespace Go.Proofs.YtpefajgllapicaaDoor.valueRecords
open Go.ChangeShapes Go.WideShapes Go.ChangeAt Go.RowKit
theorem strs_of {H : Type} {enc : TypeId × Value → H} {W : World} {fuel : Nat} {a : Option Addr} {n c : Nat} {x : DataW H × List MemPlace} (h : DataW.trod enc Tryd.prog W 0 (fun _ => true) true fuel 24 [.slice a n c] = some x) :
    n = 0 ∨ ∃ (b off : Nat) (NS : List ByteArray), a = some ⟨b, off, none⟩ ∧ b < W.heap.size ∧ n = NS.length ∧ n ≤ c ∧ (∀ i s, NS[i]? = some s → W.cell? ⟨b, off + i, none⟩ = some (.string s)) ∧ (∀ s ∈ NS, s.size ≤ maxLen) := by
  rcases open_strings Tryd.underlying24 Tryd.underlying9 (by kernel_rfl) h with ⟨hcs, _⟩ | ⟨ad, len, cap, ss, hcs, _, hl, hm, hsl, _, hcell, hsz⟩
  · simp at hcs
    exact Or.inl hcs.2.1
  · simp at hcs
    obtain ⟨rfl, rfl, rfl⟩ := hcs
    simp only [if_true] at hsl
    by_cases h0 : n = 0
    · exact Or.inl h0
    · right
      have hc0 := hcell 0 (by omega)
      have hlt : ad.block < W.heap.size := by
        rcases Nat.lt_or_ge ad.block W.heap.size with h' | h'
        · exact h'
        · have : (ad.add 0).block = ad.block := by unfold Addr.add; split <;> rfl
          simp [World.cell?, this, Array.getElem?_eq_none h'] at hc0
      have hsp := World.cell?_spot hc0
      obtain ⟨b, off, spot⟩ := ad
      have hs0 : spot = none := by simpa [Addr.add] using hsp
      subst hs0
      have hadd : ∀ j, (⟨b, off, none⟩ : Addr).add j = ⟨b, off + j, none⟩ := fun j => by unfold Addr.add; split <;> simp_all
      refine ⟨b, off, ss.take n, rfl, hlt, by simp; omega, hl, fun i s hi => ?_, fun s hs => hsz s (List.mem_of_mem_take hs)⟩
      have hin : i < n := by
        have := (List.getElem?_eq_some_iff.1 hi).1
        simp at this
        omega
      rw [← hadd, hcell i (by omega)]
      rw [List.getElem?_take, if_pos hin] at hi
      rw [List.getD_eq_getElem?_getD, hi]
      rfl
theorem ints_of {H : Type} {enc : TypeId × Value → H} {W : World} {fuel : Nat} {a : Option Addr} {n c : Nat} {x : DataW H × List MemPlace} (h : DataW.trod enc Tryd.prog W 0 (fun _ => true) true fuel 35 [.slice a n c] = some x) :
    n = 0 ∨ ∃ (b off : Nat) (IS : List Int), a = some ⟨b, off, none⟩ ∧ b < W.heap.size ∧ n = IS.length ∧ (∀ j i, IS[j]? = some i → W.cell? ⟨b, off + j, none⟩ = some (.int .i64 i)) ∧ (∀ i ∈ IS, (Lit.int .i64 i).wf = true) := by
  rcases open_ints Tryd.underlying35 Tryd.underlying2 (by kernel_rfl) h with ⟨hcs, _⟩ | ⟨ad, len, cap, ss, hcs, _, hl, hm, hsl, _, hcell, hsz⟩
  · simp at hcs
    exact Or.inl hcs.2.1
  · simp at hcs
    obtain ⟨rfl, rfl, rfl⟩ := hcs
    simp only [if_true] at hsl
    by_cases h0 : n = 0
    · exact Or.inl h0
    · right
      have hc0 := hcell 0 (by omega)
      have hlt : ad.block < W.heap.size := by
        rcases Nat.lt_or_ge ad.block W.heap.size with h' | h'
        · exact h'
        · have : (ad.add 0).block = ad.block := by unfold Addr.add; split <;> rfl
          simp [World.cell?, this, Array.getElem?_eq_none h'] at hc0
      have hsp := World.cell?_spot hc0
      obtain ⟨b, off, spot⟩ := ad
      have hs0 : spot = none := by simpa [Addr.add] using hsp
      subst hs0
      have hadd : ∀ j, (⟨b, off, none⟩ : Addr).add j = ⟨b, off + j, none⟩ := fun j => by unfold Addr.add; split <;> simp_all
      refine ⟨b, off, ss.take n, rfl, hlt, by simp; omega, fun i s hi => ?_, fun s hs => hsz s (List.mem_of_mem_take hs)⟩
      have hin : i < n := by
        have := (List.getElem?_eq_some_iff.1 hi).1
        simp at this
        omega
      rw [← hadd, hcell i (by omega)]
      rw [List.getElem?_take, if_pos hin] at hi
      rw [List.getD_eq_getElem?_getD, hi]
      rfl
theorem zip_nil_l (IS : List Int) : zipP [] IS = [] := rfl
theorem zip_nil_r (NS : List ByteArray) : zipP NS [] = [] := by unfold zipP; simp

theorem own : ownKnob Tryd.prog.godebug = none := by kernel_rfl
theorem laidOut : laidOutB Tryd.prog = true := by kernel_rfl
theorem door_met (os : Os) (args : Array Value) : laidMetH Tryd.prog Rows.valueRecordsRow.laid ((World.doorLaid Tryd.prog 24 os).forCall (fun _ _ => 0) ⟨#[], args, []⟩).memory :=
  laidMetH_of_parts3 (fuel := 8) (laidMet_of_run' 8 (by kernel_rfl) (by kernel_rfl)) (by kernel_rfl) (by kernel_rfl)
set_option maxRecDepth 100000 in
theorem lifted (os : Os) (started : os.Started) (H : Type) (enc : TypeId × Value → H) :
    ReturnsInHanded {} Tryd.checked os 4 .any (fun w args => (Rows.valueRecordsSpec.pre enc Tryd.prog Tryd.f4 [] false w args ∧ laidMetH Tryd.prog Rows.valueRecordsRow.laid w) ∧ sizedMet enc Tryd.prog Tryd.f4 (OpenSpec.ofChange Rows.valueRecordsSpec) false w args)
      (Rows.valueRecordsSpec.post enc Tryd.prog Tryd.f4 false true false false) := by
  refine returnsInHanded_of_change_and (C := Tryd.checked) (X := fun w _ => laidMetH Tryd.prog Rows.valueRecordsRow.laid w) (fun _ _ _ hh h => h.of_heap hh) own started (by kernel_rfl) Tryd.func4
    (ChangeSpec.witness_shaped (enc := enc) (C := Tryd.checked) (os := os) (X := fun w _ => laidMetH Tryd.prog Rows.valueRecordsRow.laid w) false (World.doorLaid Tryd.prog 24 os) #[.slice none 0 0, .slice none 0 0] 8 rfl (World.shaped_of_RefB (by kernel_rfl) (by kernel_rfl)) (by kernel_rfl) (by kernel_rfl) (by kernel_rfl) (door_met os _)) ?_
  intro W base args ds gs before hval0 hW _ _ hL _
  have hval : ∀ (j : Nat) t v, Tryd.f4.params[j]? = some t → args[j]? = some v → Value.okWide Tryd.prog W .any base t v := hval0
  have hW' := hW
  obtain ⟨p, q, hA0, hV, rfl, hfz, hnd⟩ := hW
  have hA : DataW.TrodAll enc Tryd.prog W 0 (fun _ => true) true Tryd.f4.params.toList args.toList ds p := hA0
  rw [Tryd.params4] at hA hval
  obtain ⟨v0, vs0, d0, ds0, p0, q0, hargs, rfl, rfl, h0, r0⟩ := trodAll_cons hA
  obtain ⟨v1, vs1, d1, ds1, p1, q1, rfl, rfl, rfl, h1, r1⟩ := trodAll_cons r0
  obtain ⟨rfl, rfl, rfl⟩ := trodAll_nil r1
  obtain rfl : args = #[v0, v1] := by cases args; simp_all
  obtain ⟨rfl, rfl⟩ := trodVars_none hV
  obtain ⟨a1, n1, c1, rfl⟩ := okWide_slice Tryd.underlying24 (hval 0 24 v0 rfl rfl)
  obtain ⟨a2, n2, c2, rfl⟩ := okWide_slice Tryd.underlying35 (hval 1 35 v1 rfl rfl)
  obtain ⟨fuel, hf⟩ := h0
  obtain ⟨fuel2, hf2⟩ := h1
  have hend : Calls Tryd.prog 4 #[.slice a1 n1 c1, .slice a2 n2 c2] W fun r w' => r = .returned (.bool true) ∧ Below W.heap.size W w' := by
    rcases Nat.lt_or_ge 20 n1 with h20 | h20
    · exact recs_long1 W a1 n1 c1 _ h20
    rcases Nat.lt_or_ge 20 n2 with h21 | h21
    · exact recs_long2 W a1 a2 n1 c1 n2 c2 h20 h21
    rcases strs_of hf with rfl | ⟨b, off, NS, rfl, hb, hN, hNc, hc, hsz⟩
    · rcases ints_of hf2 with rfl | ⟨b2, off2, IS, rfl, hb2, hI, hc2, hwf⟩
      · exact recs_zze W a1 a2 0 c1 0 c2 [] [] rfl rfl (Nat.zero_le _) (by omega) (by omega) rfl rfl _ rfl rfl
      · exact recs_zse W a1 b2 off2 0 c1 n2 c2 [] IS rfl hI (Nat.zero_le _) (by omega) h21 rfl hb2 hc2 hwf _ rfl rfl
    · rcases ints_of hf2 with rfl | ⟨b2, off2, IS, rfl, hb2, hI, hc2, hwf⟩
      · exact recs_sze W b off a2 n1 c1 0 c2 NS [] hN rfl hNc h20 (by omega) rfl hb hc hsz _ rfl (by rw [zip_nil_r]; rfl)
      · rcases Nat.eq_zero_or_pos (upE (zipP NS IS) (zipP NS IS).length).length with he | he
        · exact recs_sse W b off b2 off2 n1 c1 n2 c2 NS IS hN hI hNc h20 h21 hb hc hsz hb2 hc2 hwf _ rfl he
        · exact recs_ss W b off b2 off2 n1 c1 n2 c2 NS IS hN hI hNc h20 h21 hb hc hsz hb2 hc2 hwf _ rfl he
  refine hend.mono fun e W' ⟨he, hg⟩ => ?_
  subst he
  exact ⟨_, rfl, law_post laidOut (by kernel_rfl) rfl rfl Tryd.underlying4 rfl hW' hg⟩
theorem row_proved : Rows.ValueRecordsSaid :=
  OpenClaim.holds_of_wide 4 Tryd.f4 rfl rfl rfl rfl rfl rfl rfl ⟨rfl, rfl, rfl, rfl, rfl⟩ rfl rfl rfl rfl rfl (by kernel_rfl) Tryd.func4 (by kernel_rfl)
    (of_decide_eq_true (by kernel_rfl)) (by unfold Func.isWrapper; first | (rw [if_pos (by decide +kernel)]; kernel_rfl) | (rw [if_neg (by decide +kernel)]; exact ⟨rfl, rfl⟩))
    (fun os started H enc _ => lifted os started H enc)
theorem proved : Rows.ValueRecordsCardSaid :=
  Claim7.holds_tied_plain_at .later [] [.data, .data, .data] true (true, "8a16fffd8bf857e10c32b057e3642f30f58bda0775d8efdf7df40a7fd7c12559") false
    row_proved (fun _ h => by cases h) (by kernel_rfl) (fun _ h => by cases h) valueRecords_row_tie rfl ⟨rfl, rfl⟩ (by kernel_rfl) rfl
    (fun f fn hf hfn => by
      obtain rfl : f = 4 := Option.some.inj ((show Tryd.prog.funcNamed "azimuth/azimuthlaw20.ValueRecords" = some 4 by kernel_rfl).symm.trans hf) |>.symm
      obtain rfl : fn = Tryd.f4 := (Option.some.inj (Tryd.func4.symm.trans hfn)).symm
      exact ⟨by kernel_rfl, fun j t ht => by
        rw [Tryd.params4] at ht
        have hm : t ∈ [24, 35] := by simpa using Array.mem_of_getElem? ht
        have hall : ([24, 35].all fun u => !Tryd.prog.wantsStandIn u) = true := by kernel_rfl
        exact (show Tryd.prog.wantsStandIn t = false by simpa using List.all_eq_true.1 hall t hm)⟩)
    (by kernel_rfl)
end Go.Proofs.YtpefajgllapicaaDoor.valueRecords
