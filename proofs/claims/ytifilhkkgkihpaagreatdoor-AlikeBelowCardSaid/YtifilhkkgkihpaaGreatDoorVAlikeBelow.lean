/- AlikeBelow: whatever the input, the law returns true; conditions: none but the three tables of the library that the row lists, each tied to the program's text. -/
import Derived.Test.YtifilhkkgkihpaaGreatDoorVAlikeBelow2
import Derived.Test.YtifilhkkgkihpaaGreatDoorVAlikeBelow3
import Derived.Test.YtifilhkkgkihpaaGreatDoorBm15
import Derived.ChangeSlices
import Derived.Deep.Slices
import Derived.Deep.Fields
import Derived.ChangeSame
import Derived.Lib.SmallJoins
import Derived.OpenShut
import Derived.Test.YtifilhkkgkihpaaGreatDoorAs01
import Derived.Test.YtifilhkkgkihpaaGreatDoorTie
import Derived.Test.YtifilhkkgkihpaaGreatDoorCards
import Derived.ProofKit
import Derived.LaidMore
import Derived.SevenTiedAt
import Derived.Stop.Joined
import Derived.SliceStrings
import Derived.ChangeMaps
set_option linter.unusedVariables false
namespace Go.Proofs.YtifilhkkgkihpaaGreatDoor.alikeBelow
open Go.ChangeShapes Go.WideShapes Go.ChangeAt Go.RowKit Go.Deep
section
variable {H : Type} {enc : TypeId × Value → H} {P : Program} {w : World} {base : Nat} {spare : Nat → Bool} {held : Bool}
theorem open_slice_fields {t e : TypeId} {fs : Array Field} {fuel : Nat} {cs : List Value} {x : DataW H × List MemPlace} (ht : P.underlying t = some (.slice e)) (he : P.underlying e = some (.struct fs))
    (hone : oneCellFields P fs = true) (hC : P.cellsOf e = fs.size) (h : DataW.trod enc P w base spare held fuel t cs = some x) :
    (cs = [.slice none 0 0] ∧ x = (.nil, [])) ∨
    ∃ (a : Addr) (len cap m : Nat) (D : Nat → DataW H) (Pl : Nat → List MemPlace), cs = [.slice (some a) len cap] ∧ base ≤ a.block ∧ len ≤ cap ∧ cap ≤ maxLen ∧ m = (if spare a.block then cap else len) ∧
      x = (.slice ((List.range len).map D) ((List.range (m - len)).map fun j => D (len + j)), MemPlace.row a (m * fs.size) ++ (List.range m).flatMap Pl) ∧
      ∀ i, i < m → ∃ (ys : List (DataW H × List MemPlace)) (n : Nat), D i = .agg (ys.map (·.1)) ∧ Pl i = ys.flatMap (·.2) ∧ ys.length = fs.size ∧
        ∀ (j : Nat) (f : Field), fs[j]? = some f → ∃ (v : Value) (y : DataW H × List MemPlace), w.cell? (a.add (i * fs.size + j)) = some v ∧ ys[j]? = some y ∧ DataW.trod enc P w base spare held n f.type [v] = some y := by
  rcases open_slice ht h with h0 | ⟨a, len, cap, m, n, D, Pl, hcs, hb, hl, hm, hmm, hx, hi⟩
  · exact .inl h0
  · refine .inr ⟨a, len, cap, m, D, Pl, hcs, hb, hl, hm, hmm, by rw [hC] at hx; exact hx, fun i him => ?_⟩
    obtain ⟨cs', hc, ht'⟩ := hi i him
    rw [hC] at hc
    obtain ⟨ys, n', hn', hy, hlen, hyl, hf⟩ := DataW.trod_struct he ht'
    obtain ⟨_, hcl, hat⟩ := World.cells?_some hc
    simp only [Prod.mk.injEq] at hy
    refine ⟨ys, n', hy.1, hy.2, hyl, fun j f hj => ?_⟩
    obtain ⟨ho, hk⟩ := hone_of hone j f hj
    have hjl : j < fs.size := (Array.getElem?_eq_some_iff.1 hj).1
    have hcell := hat j hjl
    have hv : cs'[j]? = some (cs'[j]'(by omega)) := List.getElem?_eq_getElem (by omega)
    have h1 := hf j f hj
    rw [ho, hk] at h1
    have hone' : (cs'.drop j).take 1 = [cs'[j]'(by omega)] := by
      rw [List.drop_eq_getElem_cons (by omega)]
      rfl
    rw [hone'] at h1
    have hys : ys[j]? = some (ys[j]'(by omega)) := List.getElem?_eq_getElem (by omega)
    refine ⟨_, _, ?_, hys, h1.trans hys⟩
    rw [← Go.Deep.add_add, hcell, hv]
end
section
variable {H : Type} {enc : TypeId × Value → H} {W : World}
theorem row_lt {a : Addr} {v : Value} (h : W.cell? (a.add 0) = some v) : ∃ b off, a = ⟨b, off, none⟩ ∧ b < W.heap.size ∧ ∀ j, (⟨b, off, none⟩ : Addr).add j = ⟨b, off + j, none⟩ := by
  have hsp := World.cell?_spot h
  have hlt : a.block < W.heap.size := by
    rcases Nat.lt_or_ge a.block W.heap.size with h' | h'
    · exact h'
    · have : (a.add 0).block = a.block := by unfold Addr.add; split <;> rfl
      simp [World.cell?, this, Array.getElem?_eq_none h'] at h
  obtain ⟨b, off, spot⟩ := a
  have hs0 : spot = none := by simpa [Addr.add] using hsp
  subst hs0
  exact ⟨b, off, rfl, hlt, fun j => by unfold Addr.add; split <;> simp_all⟩
theorem names_of {n : Nat} {v : Value} {y : DataW H × List MemPlace} (h : DataW.trod enc Tryz.prog W 0 (fun _ => true) true n 30 [v] = some y) : ∃ (a : Option Addr) (l c : Nat) (NS : List ByteArray), v = .slice a l c ∧ NamesAt W a l NS ∧ (a = none → c = 0) := by
  rcases open_strings Tryz.underlying30 Tryz.underlying9 (by kernel_rfl) h with ⟨hcs, _⟩ | ⟨ad, len, cap, ss, hcs, _, hl, hm, hsl, _, hcell, _⟩
  · simp at hcs
    exact ⟨none, 0, 0, [], hcs, ⟨rfl, Or.inl rfl⟩, fun _ => rfl⟩
  · simp at hcs
    simp only [if_true] at hsl
    refine ⟨some ad, len, cap, ss.take len, hcs, ⟨by simp; omega, ?_⟩, fun e => by cases e⟩
    by_cases h0 : len = 0
    · exact Or.inl h0
    · obtain ⟨b, off, rfl, hlt, hadd⟩ := row_lt (hcell 0 (by omega))
      refine Or.inr ⟨b, off, rfl, hlt, fun i s hi => ?_⟩
      have hin : i < len := by
        have := (List.getElem?_eq_some_iff.1 hi).1
        simp at this
        omega
      rw [← hadd, hcell i (by omega)]
      rw [List.getElem?_take, if_pos hin] at hi
      rw [List.getD_eq_getElem?_getD, hi]
      rfl
theorem kids_of {n : Nat} {v : Value} {y : DataW H × List MemPlace} (h : DataW.trod enc Tryz.prog W 0 (fun _ => true) true n 31 [v] = some y) : ∃ (a : Option Addr) (l c : Nat) (KS : List Int), v = .slice a l c ∧ l = KS.length ∧ l ≤ c ∧ c ≤ maxLen ∧ (l = 0 ∨ ∃ gk ok, a = some ⟨gk, ok, none⟩ ∧ gk < W.heap.size ∧ ∀ j k, KS[j]? = some k → W.cell? ⟨gk, ok + j, none⟩ = some (.int .i64 k)) ∧ (∀ k ∈ KS, (Lit.int .i64 k).wf = true) := by
  rcases open_ints Tryz.underlying31 Tryz.underlying3 (by kernel_rfl) h with ⟨hcs, _⟩ | ⟨ad, len, cap, ss, hcs, _, hl, hm, hsl, _, hcell, hwf⟩
  · simp at hcs
    exact ⟨none, 0, 0, [], hcs, rfl, Nat.le_refl _, Nat.zero_le _, Or.inl rfl, fun k hk => by simp at hk⟩
  · simp at hcs
    simp only [if_true] at hsl
    refine ⟨some ad, len, cap, ss.take len, hcs, by simp; omega, hl, hm, ?_, fun k hk => hwf k (List.mem_of_mem_take hk)⟩
    by_cases h0 : len = 0
    · exact Or.inl h0
    · obtain ⟨b, off, rfl, hlt, hadd⟩ := row_lt (hcell 0 (by omega))
      refine Or.inr ⟨b, off, rfl, hlt, fun i s hi => ?_⟩
      have hin : i < len := by
        have := (List.getElem?_eq_some_iff.1 hi).1
        simp at this
        omega
      rw [← hadd, hcell i (by omega)]
      rw [List.getElem?_take, if_pos hin] at hi
      rw [List.getD_eq_getElem?_getD, hi]
      rfl
theorem heads_of {fuel : Nat} {v : Value} {x : DataW H × List MemPlace} (h : DataW.trod enc Tryz.prog W 0 (fun _ => true) true fuel 34 [v] = some x) :
    ∃ (a : Option Addr) (n c : Nat) (HS : List Hd), v = .slice a n c ∧ HeadsRaw W a n HS ∧ n ≤ maxLen ∧ (∀ x ∈ HS, x.na = none → x.nc = 0) := by
  rcases open_slice_fields Tryz.underlying34 Tryz.underlying33 (by kernel_rfl) (by kernel_rfl) h with ⟨hcs, _⟩ | ⟨ad, len, cap, m, D, Pl, hcs, _, hl, hm, hmm, _, hf⟩
  · simp at hcs
    exact ⟨none, 0, 0, [], hcs, ⟨rfl, Or.inl rfl⟩, Nat.zero_le _, fun x hx => by cases hx⟩
  · simp at hcs
    simp only [if_true] at hmm
    by_cases h0 : len = 0
    · subst h0
      exact ⟨some ad, 0, cap, [], hcs, ⟨rfl, Or.inl rfl⟩, Nat.zero_le _, fun x hx => by cases hx⟩
    · obtain ⟨ys0, n0, _, _, _, hy0⟩ := hf 0 (by omega)
      obtain ⟨v00, y00, c00, _, _⟩ := hy0 0 _ rfl
      obtain ⟨b, off, rfl, hlt, hadd⟩ := row_lt (show W.cell? (ad.add 0) = some v00 from by simpa using c00)
      have hex : ∀ i, ∃ t : Hd, (i < len → HdRaw W b off i t) ∧ (t.na = none → t.nc = 0) := fun i => by
        by_cases hi : i < len
        · obtain ⟨ys, n', _, _, _, hy⟩ := hf i (by omega)
          obtain ⟨v0, y0, c0, _, t0⟩ := hy 0 _ rfl
          obtain ⟨v1, y1, c1, _, t1⟩ := hy 1 _ rfl
          obtain ⟨v2, y2, c2, _, t2⟩ := hy 2 _ rfl
          obtain ⟨v3, y3, c3, _, t3⟩ := hy 3 _ rfl
          obtain ⟨z0, e0, _⟩ := DataW.trod_int Tryz.underlying3 t0
          obtain ⟨na, nl, nc, NS, e1, hn, hnc⟩ := names_of t1
          obtain ⟨ka, kl, kc, KS, e2, k1, k2, k3, k4, k5⟩ := kids_of t2
          obtain ⟨z3, e3, _⟩ := DataW.trod_bool Tryz.underlying4 t3
          simp at e0 e3
          subst e0 e1 e2 e3
          rw [hadd] at c0 c1 c2 c3
          exact ⟨⟨z0, na, nl, nc, NS, ka, kl, kc, KS, z3⟩, fun _ => ⟨c0, c1, c2, c3, hn, ⟨k1, k4⟩⟩, hnc⟩
        · exact ⟨⟨0, none, 0, 0, [], none, 0, 0, [], false⟩, fun hc => absurd hc hi, fun _ => rfl⟩
      obtain ⟨f, hff⟩ := Classical.axiomOfChoice hex
      refine ⟨_, len, cap, (List.range len).map f, hcs, ⟨by simp, Or.inr ⟨b, off, rfl, hlt, fun i t ht => ?_⟩⟩, by omega, fun x hx => ?_⟩
      · rw [List.getElem?_map] at ht
        have hi : i < len := by
          rcases Nat.lt_or_ge i len with h | h
          · exact h
          · rw [List.getElem?_eq_none (by simpa using h)] at ht; simp at ht
        rw [List.getElem?_range hi] at ht
        simp at ht
        subst ht
        exact (hff i).1 hi
      · obtain ⟨i, _, rfl⟩ := List.mem_map.1 hx
        exact (hff i).2
end


theorem own : ownKnob Tryz.prog.godebug = none := by kernel_rfl
theorem laidOut : laidOutB Tryz.prog = true := by kernel_rfl
theorem door_met (os : Os) (args : Array Value) : laidMetH Tryz.prog Rows.alikeBelowRow.laid ((World.doorLaid Tryz.prog 24 os).forCall (fun _ _ => 0) ⟨#[], args, []⟩).memory :=
  laidMetH_of_parts3 (fuel := 8) (laidMet_of_run' 8 (by kernel_rfl) (by kernel_rfl)) (by kernel_rfl) (by kernel_rfl)
set_option maxRecDepth 100000 in
theorem lifted (os : Os) (started : os.Started) (H : Type) (enc : TypeId × Value → H) :
    ReturnsInHanded {} Tryz.checked os 17 .any (fun w args => (Rows.alikeBelowSpec.pre enc Tryz.prog Tryz.f17 [] false w args ∧ laidMetH Tryz.prog Rows.alikeBelowRow.laid w) ∧ sizedMet enc Tryz.prog Tryz.f17 (OpenSpec.ofChange Rows.alikeBelowSpec) false w args)
      (Rows.alikeBelowSpec.post enc Tryz.prog Tryz.f17 false true false false) := by
  refine returnsInHanded_of_change_and (C := Tryz.checked) (X := fun w _ => laidMetH Tryz.prog Rows.alikeBelowRow.laid w) (fun _ _ _ hh h => h.of_heap hh) own started (by kernel_rfl) Tryz.func17
    (ChangeSpec.witness_shaped (enc := enc) (C := Tryz.checked) (os := os) (X := fun w _ => laidMetH Tryz.prog Rows.alikeBelowRow.laid w) false (World.doorLaid Tryz.prog 24 os) #[.agg #[.slice none 0 0, .int .i64 0], .agg #[.slice none 0 0, .int .i64 0]] 8 rfl (World.shaped_of_RefB (by kernel_rfl) (by kernel_rfl)) (by kernel_rfl) (by kernel_rfl) (by kernel_rfl) (door_met os _)) ?_
  intro W base args ds gs before hval0 hW _ _ hL _
  have hval : ∀ (j : Nat) t v, Tryz.f17.params[j]? = some t → args[j]? = some v → Value.okWide Tryz.prog W .any base t v := hval0
  have hW' := hW
  obtain ⟨p, q, hA0, hV, rfl, hfz, hnd⟩ := hW
  have hA : DataW.TrodAll enc Tryz.prog W 0 (fun _ => true) true Tryz.f17.params.toList args.toList ds p := hA0
  rw [Tryz.params17] at hA hval
  obtain ⟨v0, vs0, d0, ds0, p0, q0, hargs, rfl, rfl, h0, r0⟩ := trodAll_cons hA
  obtain ⟨v1, vs1, d1, ds1, p1, q1, rfl, rfl, rfl, h1, r1⟩ := trodAll_cons r0
  obtain ⟨rfl, rfl, rfl⟩ := trodAll_nil r1
  obtain rfl : args = #[v0, v1] := by cases args; simp_all
  obtain ⟨rfl, rfl⟩ := trodVars_none hV
  obtain ⟨g00, g10, y00, y10, m10, rfl, rfl, rfl, t00, t10⟩ := Joins.open_agg2 Tryz.underlying36 (by kernel_rfl) (by kernel_rfl) (hval 0 36 v0 rfl rfl) h0
  obtain ⟨la, ln, lc, A, rfl, hHA, hlA, hnA⟩ := heads_of t00
  obtain ⟨ra, e10, _⟩ := DataW.trod_int Tryz.underlying3 t10
  simp at e10
  subst e10
  obtain ⟨g01, g11, y01, y11, m11, rfl, rfl, rfl, t01, t11⟩ := Joins.open_agg2 Tryz.underlying36 (by kernel_rfl) (by kernel_rfl) (hval 1 36 v1 rfl rfl) h1
  obtain ⟨lb, lm, ld, B, rfl, hHB, hlB, hnB⟩ := heads_of t01
  obtain ⟨rb, e11, _⟩ := DataW.trod_int Tryz.underlying3 t11
  simp at e11
  subst e11
  have hend : Calls Tryz.prog 17 #[.agg #[.slice la ln lc, .int .i64 ra], .agg #[.slice lb lm ld, .int .i64 rb]] W fun r w' => r = .returned (.bool true) ∧ Below W.heap.size W w' := alikeBelow_true W la ln lc ra A ⟨hHA, by omega, hnA⟩ lb lm ld rb B ⟨hHB, by omega, hnB⟩
  refine hend.mono fun e W' ⟨he, hg⟩ => ?_
  subst he
  exact ⟨_, rfl, law_post laidOut (by kernel_rfl) rfl rfl Tryz.underlying4 rfl hW' hg⟩
theorem row_proved : Rows.AlikeBelowSaid :=
  OpenClaim.holds_of_wide 17 Tryz.f17 rfl rfl rfl rfl rfl rfl rfl ⟨rfl, rfl, rfl, rfl, rfl⟩ rfl rfl rfl rfl rfl r1 Tryz.func17 joined r2 r3
    (fun os started H enc _ => lifted os started H enc)
theorem proved : Rows.AlikeBelowCardSaid :=
  Claim7.holds_tied_plain_at .later [] [.data, .data, .data] true (true, "ee256039582477f60126b604fd1bf2c9aebe063c097a57aeaa24b2b2ddc0481b") true
    row_proved (fun _ h => by cases h) p1 (fun _ h => by cases h) alikeBelow_row_tie rfl ⟨rfl, rfl⟩ p2 rfl
    (fun f fn hf hfn => by
      obtain rfl : f = 17 := Option.some.inj (r1.symm.trans hf) |>.symm
      obtain rfl : fn = Tryz.f17 := (Option.some.inj (Tryz.func17.symm.trans hfn)).symm
      exact ⟨p3, fun j t ht => by
        rw [Tryz.params17] at ht
        have hm : t ∈ [36, 36] := by simpa using Array.mem_of_getElem? ht
        exact (show Tryz.pinned.checked.prog.wantsStandIn t = false by simpa using List.all_eq_true.1 p6 t hm)⟩)
    p4
end Go.Proofs.YtifilhkkgkihpaaGreatDoor.alikeBelow
