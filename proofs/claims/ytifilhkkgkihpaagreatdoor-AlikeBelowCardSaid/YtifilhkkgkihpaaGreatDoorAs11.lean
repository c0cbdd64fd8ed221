/- Walks: graph.normal, walked. Walks: graph.Normal. -/
import Derived.Test.YtifilhkkgkihpaaGreatDoorAs10
set_option linter.unusedSimpArgs false
set_option linter.unusedVariables false
set_option linter.unusedSimpArgs false
set_option linter.unusedVariables false
namespace Go.Proofs.YtifilhkkgkihpaaGreatDoor
open Go.RowKit
theorem Tryz.info33 : (Tryz.prog.info? 33).map (fun i => (i.zero, i.size, i.bytes)) = some (some (.agg #[.int .i64 0, .slice none 0 0, .slice none 0 0, .bool false]), 4, 64) := by kernel_rfl
structure NS1 (w wr : World) (B T M1 : Nat) (cl : List Nat) (D : DataW Unit) (n : Nat) (f : Nat → Option Nat) (i ln : Nat) : Prop where
  below : Below w.heap.size w wr
  res : wr.heap[B]? = some (.cells #[.slice none 0 0, .int .i64 0] 36 (0, 0))
  cls : wr.heap[T]? = some (.cells (uRow (natI cl)) 3 (0, 0))
  one : wr.ownsMap Tryz.prog 3 (plainElem (H := Unit) Tryz.prog 3) M1 n D
  mapf : MapF D f
  low : ∀ k, i ≤ k → k < ln → ∃ r, f (cl.getD k 0) = some r ∧ r < ln ∧ cl.getD r 0 = cl.getD k 0
  nle : n + i ≤ ln
  ge : w.heap.size ≤ B ∧ B < T ∧ T < M1 ∧ M1 < wr.heap.size
theorem NS1.step {w wr w' : World} {B T M1 : Nat} {cl : List Nat} {D : DataW Unit} {n : Nat} {f : Nat → Option Nat} {i ln : Nat} (h : NS1 w wr B T M1 cl D n f (i + 1) ln) (hi : i < ln) (hg : wr.grownBy w' (some M1)) (hm : w'.ownsMap Tryz.prog 3 (plainElem (H := Unit) Tryz.prog 3) M1 (n + 1) (D.put (keyI (cl.getD i 0)) (.lit (.int .i64 (i : Int))))) : NS1 w w' B T M1 cl (D.put (keyI (cl.getD i 0)) (.lit (.int .i64 (i : Int)))) (n + 1) (fun x => if x = cl.getD i 0 then some i else f x) i ln := by
  obtain ⟨g1, g2, g3, g4⟩ := h.ge
  exact {
    below := below_grow h.below hg h.below.size (fun g e => by cases e; omega)
    res := (hg.block B (by omega) (fun e => by cases e; omega)).trans h.res
    cls := (hg.block T (by omega) (fun e => by cases e; omega)).trans h.cls
    one := hm
    mapf := h.mapf.put _ _
    low := fun k h1 h2 => by
      by_cases hk : cl.getD k 0 = cl.getD i 0
      · exact ⟨i, if_pos hk, hi, hk.symm⟩
      · simp only [if_neg hk]
        exact h.low k (by rcases Nat.lt_or_ge i k with h3 | h3; omega; exact absurd (by rw [show k = i by omega]) hk) h2
    nle := by have := h.nle; omega
    ge := ⟨g1, g2, g3, Nat.lt_of_lt_of_le g4 hg.size⟩ }
theorem idxN_one (c x : Nat) : idxN [c] x = if x = c then some 0 else none := by
  unfold idxN
  by_cases h : x = c
  · simp [h]
  · simp [h, Ne.symm h, idxN]
theorem NS1.start {w wr w5 w7 : World} {B T M1 : Nat} {cl : List Nat} {D : DataW Unit} {n : Nat} {f : Nat → Option Nat} {ln c : Nat} (h : NS1 w wr B T M1 cl D n f 0 ln) (hg : (wr.alloc (.map #[] 0)).grownBy w5 (some wr.heap.size))
    (hm : w5.ownsMap Tryz.prog 3 (plainElem (H := Unit) Tryz.prog 3) wr.heap.size 1 ((DataW.map []).put (keyI c) (.lit (.int .i64 0)))) (h7 : w7 = (w5.alloc (.cells #[.int .i64 (c : Int)] 3)).alloc (.cells #[.slice none 0 0, .int .i64 0] 36)) :
    NSt w w7 B T M1 wr.heap.size (w5.heap.size + 1) cl D n w7.heap.size [c] w5.heap.size 1 ((DataW.map []).put (keyI c) (.lit (.int .i64 0))) 1 [] (.slice none 0 0) ∧ MapF ((DataW.map []).put (keyI c) (.lit (.int .i64 0))) (idxN [c]) := by
  obtain ⟨g1, g2, g3, g4⟩ := h.ge
  have hs := hg.size
  simp only [World.size_alloc] at hs
  have hb7 : Below w5.heap.size w5 w7 := by rw [h7]; exact ((Below.refl _ _).alloc (Nat.le_refl _) _).alloc (by simp) _
  have hk : ∀ g, g < wr.heap.size → w7.heap[g]? = wr.heap[g]? := fun g hlt => by
    rw [hb7.block g (by omega), hg.block g (by simp; omega) (fun e => by cases e; omega), Below.heap_alloc _ _ _ hlt]
  have hgr : ∀ row, wr.grownBy w7 row := fun row => ⟨hb7.os.trans (hg.os.trans rfl), hb7.tape.trans (hg.tape.trans rfl), hb7.output.trans (hg.output.trans rfl), by have := hb7.size; omega, fun g hlt _ => hk g hlt⟩
  have hbs : w.heap.size ≤ wr.heap.size := h.below.size
  refine ⟨{
    below := below_grow h.below (hgr none) hbs (fun g e => by cases e)
    res := (hk B (by omega)).trans h.res
    cls := (hk T (by omega)).trans h.cls
    one := h.one.kept (hgr none) (by simp)
    num := hm.kept (row := none) (grown_below hb7) (by simp)
    ordr := ⟨by simp [natI], .inr ⟨w5.heap.size, 1, #[.int .i64 (c : Int)], rfl, by omega, ?_, Nat.le_refl _, by unfold maxLen; omega, rfl, rfl⟩⟩
    box := by
      rw [h7]
      have := heap_alloc_new (w5.alloc (.cells #[.int .i64 (c : Int)] 3)) (.cells #[.slice none 0 0, .int .i64 0] 36)
      simpa using this
    out := ⟨rfl, .inl ⟨rfl, rfl⟩⟩
    heads := fun x hx => by cases hx
    nodup := nodup_of ⟨⟨by omega, by omega, by omega, by omega, by omega, by simp [Value.ownBlock]⟩, ⟨by omega, by omega, by omega, by omega, by simp [Value.ownBlock]⟩, ⟨by omega, by omega, by omega, by simp [Value.ownBlock]⟩, ⟨by omega, by omega, by simp [Value.ownBlock]⟩, ⟨by omega, by simp [Value.ownBlock]⟩, by simp [Value.ownBlock]⟩
    ge := fun g hg9 => by
      unfold blks at hg9
      simp only [List.mem_cons, Option.mem_toList, Value.ownBlock] at hg9
      rcases hg9 with r | r | r | r | r | r | r
      · omega
      · omega
      · omega
      · omega
      · omega
      · omega
      · cases r
    hsep := fun x hx => by cases hx
    limle := Nat.le_refl _
    limge := by have := hb7.size; omega }, ?_⟩
  · rw [h7, Below.heap_alloc _ _ _ (by simp)]
    exact heap_alloc_new w5 _
  · have := MapF.nil.put c 0
    rw [show (idxN [c]) = (fun x => if x = c then some 0 else none) from funext (idxN_one c)]
    exact this
def NormPost (w : World) (HS : List Hd) (root : Nat) (e : Ending) (w' : World) : Prop := ∃ (g c : Nat) (OS : List Hd) (cl ord : List Nat), e = .returned (.agg #[.slice (some ⟨g, 0, none⟩) OS.length c, .int .i64 0]) ∧ w.heap.size ≤ g ∧ HeadsIn w' (some ⟨g, 0, none⟩) OS.length OS ∧ (∀ x ∈ OS, (x.na = none → x.nc = 0) ∧ (x.ka = none → x.kc = 0) ∧ ∀ ad, blkOf x ad → w.heap.size ≤ ad.block) ∧ cl.length = HS.length ∧ Stands HS cl ∧ Coarse HS cl ∧ NPl HS cl root ord OS [] ∧ OS.length = ord.length ∧ Below w.heap.size w w'
set_option maxRecDepth 20000 in
set_option maxHeartbeats 8000000 in
theorem normal_any (w : World) (la : Option Addr) (ln lc root : Nat) (HS : List Hd) (hH : HeadsIn w la ln HS) (hf : HS.all fewH = true) (h1 : root < ln) (h25 : ln ≤ 100) (hok : OkHeads HS) (hnc : ∀ x ∈ HS, x.na = none → x.nc = 0) :
    Calls Tryz.prog 77 #[.slice la ln lc, .int .i64 (root : Int)] w (NormPost w HS root) := by
  have HOK := Lib.hid hok
  have HFW := Lib.hid hf
  have HHH := Lib.hid hH
  have HL := Lib.hid hH.1
  have HNC := Lib.hid hnc
  obtain ⟨ga, oa, rfl, hga, hca⟩ := hH.2.resolve_left (by omega)
  have HGA := Lib.hid hga
  have HCA := Lib.hid hca
  have hmm := @run_makeMap Tryz.prog
  have hln2 : (ln : Int) ≤ 100 := by omega
  have hro2 : (root : Int) < ln := by omega
  have HB0 : Hid (Below w.heap.size w (w.alloc (.cells #[.slice none 0 0, .int .i64 0] 36))) := Lib.hid ((Below.refl _ _).alloc (Nat.le_refl _) _)
  have HX0 : Hid ((w.alloc (.cells #[.slice none 0 0, .int .i64 0] 36)).heap[w.heap.size]? = some (.cells #[.slice none 0 0, .int .i64 0] 36 (0, 0))) := Lib.hid (heap_alloc_new w _)
  have HCC := Lib.hid (classes_any (w.alloc (.cells #[.slice none 0 0, .int .i64 0] 36)) (some ⟨ga, oa, none⟩) ln lc HS (hH.on HB0.out) hf (by omega) h25 hok)
  have hwl : IntKind.i64.wrap ((ln : Int) - 1) = (ln : Int) - 1 := by rw [IntKind.wrap_i64]; omega
  clear hok hf hH hga hca hnc
  go_enter Tryz.func77, Tryz.ntmps77
  go_upto_region 1 with (fail)
  generalize (w.alloc (.cells #[.slice none 0 0, .int .i64 0] 36)) = w1 at *
  go_upto_region 2 with (go_at_call 102; (with_reducible refine HCC.out.mono ?_); rintro e w2 ⟨T, cl, rfl, hT, hTr, hcl, hc100, hst, hco, hb2⟩; have HT := Lib.hid hT; have HTR := Lib.hid hTr; have HCL := Lib.hid hcl; have HC1 := Lib.hid hc100; have HST := Lib.hid hst; have HCO := Lib.hid hco; have HB2 := Lib.hid hb2; clear hT hTr hcl hc100 hst hco hb2)
  have hz0 : NS1 w (w2.alloc (.map #[] 0)) w.heap.size T w2.heap.size cl (.map []) 0 (fun _ => none) ln ln := by
    have hw1 := (Array.getElem?_eq_some_iff.1 HX0.out).1
    have hTl := (Array.getElem?_eq_some_iff.1 HTR.out).1
    refine ⟨(HB0.out.trans (HB2.out.mono HB0.out.size)).alloc (Nat.le_trans HB0.out.size HB2.out.size) _, ?_, ?_, ?_, MapF.nil, fun k h1 h2 => by omega, by omega, Nat.le_refl _, Nat.lt_of_lt_of_le hw1 HT.out, hTl, by simp⟩
    · rw [Below.heap_alloc _ _ _ (Nat.lt_of_lt_of_le hw1 HB2.out.size), HB2.out.block _ hw1]
      exact HX0.out
    · rw [Below.heap_alloc _ _ _ hTl]
      exact HTR.out
    · exact World.ownsMap_made (H := Unit) w2 Tryz.prog 3 (plainElem Tryz.prog 3)
  have HZ0 := Lib.hid hz0
  clear hz0
  obtain ⟨M1, hM1⟩ : ∃ M1, M1 = w2.heap.size := ⟨_, rfl⟩
  rw [← hM1] at HZ0
  have HM1 := Lib.hid hM1
  go_upto_region 3 with (fail)
  rw [← HM1.out]
  generalize (w2.alloc (.map #[] 0)) = w3 at *
  clear hM1
  go_wp2
  go_loopw [7] (fun s7 wr => ∃ (i : Nat) (D : DataW Unit) (n : Nat) (f : Nat → Option Nat), s7 = .int .i64 ((i : Int) - 1) ∧ i ≤ ln ∧ Hid (NS1 w wr w.heap.size T M1 cl D n f i ln)) (fun s7 _ => (intOf s7 + 1).toNat)
  case atStart => exact ⟨ln, .map [], 0, fun _ => none, rfl, Nat.le_refl _, HZ0⟩
  case round =>
    obtain ⟨i, D, n, f, rfl, hi, HN⟩ := hrel
    cases i with
    | zero =>
      have hir : ((0 : Nat) : Int) - 1 = -1 := by omega
      rw [hir]
      have hrl : root < cl.length := by rw [HCL.out, ← HL.out]; exact h1
      have HC0 : Hid (cl.getD root 0 < 100) := Lib.hid (HC1.out root (by rw [← HL.out]; exact h1))
      have HOF : Hid (∃ k, k < HS.length ∧ cl.getD k 0 = cl.getD root 0) := Lib.hid ⟨root, by rw [← HL.out]; exact h1, rfl⟩
      have HPL : Hid (NPl HS cl root [cl.getD root 0] [] []) := Lib.hid ⟨Nat.zero_le _, fun k x hx => by simp at hx, rfl, by simp, fun c hc => by rw [List.mem_singleton.1 hc]; exact HC0.out, rfl, fun c hc => by rw [List.mem_singleton.1 hc]; exact HOF.out, fun k hk => by simp at hk⟩
      have TC : Hid (∀ wx : World, wx.heap[T]? = some (.cells (uRow (natI cl)) 3 (0, 0)) → wx.cell? ⟨T, root, none⟩ = some (.int .i64 ((cl.getD root 0 : Nat) : Int))) := Lib.hid (fun wx hx => by
        rw [cells_row wx T (natI cl) hx root (by simp only [natI, List.length_map]; exact hrl), natI_get cl root hrl])
      have HKX : Hid (keyOf Tryz.prog 3 (.int .i64 ((cl.getD root 0 : Nat) : Int)) = some (keyI (cl.getD root 0))) := Lib.hid (keyOf3 _ (by have := HC0.out; omega))
      have hbound : cl.getD root 0 < 100 := HC0.out
      obtain ⟨c0, hc0⟩ : ∃ c, cl.getD root 0 = c := ⟨_, rfl⟩
      rw [hc0] at HPL TC HKX hbound
      have HC00 := Lib.hid hc0
      clear hc0
      have HTA : Hid ((wr.alloc (.map #[] 0)).heap[T]? = some (.cells (uRow (natI cl)) 3 (0, 0))) := Lib.hid (by rw [Below.heap_alloc _ _ _ (Array.getElem?_eq_some_iff.1 HN.out.cls).1]; exact HN.out.cls)
      have tc := TC.out _ HTA.out
      have HOM : Hid ((wr.alloc (.map #[] 0)).ownsMap Tryz.prog 3 (plainElem (H := Unit) Tryz.prog 3) wr.heap.size 0 (.map [])) := Lib.hid (World.ownsMap_made (H := Unit) wr Tryz.prog 3 (plainElem Tryz.prog 3))
      have hmk2 := run_makeMap (P := Tryz.prog)
      go_upto_region 8 with (refine wpList_insert_own _ rfl _ _ _ 163 rfl 3 3 (Maps.int_keyed Tryz.underlying3) Tryz.underlying163 _ wr.heap.size 0 (.map []) rfl HOM.out (by unfold maxLen; omega) _ _ _ rfl rfl HKX.out _ [] (plainElem_int Tryz.underlying3 (by decide)) ?_; intro w5 hown5 hgrow5; have HO5 := Lib.hid hown5; have HG5 := Lib.hid hgrow5; clear hown5 hgrow5)
      have HT5 : Hid (w5.heap[T]? = some (.cells (uRow (natI cl)) 3 (0, 0))) := Lib.hid (by
        rw [HG5.out.block T (by have := HN.out.ge; simp; omega) (fun e => by cases e; have := HN.out.ge; omega)]
        exact HTA.out)
      have tc5 := TC.out _ HT5.out
      have HNS := Lib.hid (HN.out.start HG5.out HO5.out rfl)
      clear tc
      go_upto_region 11 with (fail)
      generalize hM2 : wr.heap.size = M2 at *
      generalize hgo : w5.heap.size = g0 at *
      generalize hW7 : (w5.alloc (.cells #[.int .i64 (c0 : Int)] 3)).alloc (.cells #[.slice none 0 0, .int .i64 0] 36) = w7 at *
      generalize g0 + 1 = B10 at *
      have HLW := Lib.hid HN.out.low
      have HMF := Lib.hid HN.out.mapf
      clear hM2 hgo hW7 tc5 HT5 HG5 HO5 HTA HOM TC
      generalize ((DataW.map (H := Unit) []).put (keyI c0) (.lit (.int .i64 0))) = D20 at *
      generalize w7.heap.size = lim0 at *
      go_loopw [11, 9] (fun s11 s9 wr => ∃ (ord : List Nat) (go co : Nat) (D2 : DataW Unit) (n2 : Nat) (OS : List Hd) (sv : Value) (lim : Nat), s11 = .int .i64 (OS.length : Int) ∧ s9 = .slice (some ⟨go, 0, none⟩) ord.length co ∧ Hid (NSt w wr w.heap.size T M1 M2 B10 cl D n lim ord go co D2 n2 OS sv) ∧ Hid (MapF D2 (idxN ord)) ∧ Hid (NPl HS cl root ord OS []) ∧ Hid (n2 ≤ ord.length)) (fun s11 _ _ => 100 - (intOf s11).toNat)
      case atStart => exact ⟨[c0], g0, 1, D20, 1, [], .slice none 0 0, lim0, rfl, rfl, Lib.hid HNS.out.1, Lib.hid HNS.out.2, HPL, Lib.hid (Nat.le_refl _)⟩
      case round =>
        obtain ⟨ord, go, co, D2, n2, OS, sv, lim, rfl, rfl, HS2, HM2, HP2, HN2⟩ := hrel
        have hole : ord.length ≤ 100 := nodup_len 100 ord HP2.out.nodup HP2.out.lt
        have hosl := HP2.out.le
        have hwo : IntKind.i64.wrap ((OS.length : Int) + 1) = (OS.length : Int) + 1 := by rw [IntKind.wrap_i64]; omega
        by_cases hat : OS.length < ord.length
        · have hat2 : (OS.length : Int) < ord.length := by omega
          have HNOW := Lib.hid (HP2.out.now hat)
          obtain ⟨wi, rfl⟩ : ∃ wi : World, wi = wr := ⟨_, rfl⟩
          obtain ⟨c, hcat⟩ : ∃ c, ord[OS.length]? = some c := ⟨_, List.getElem?_eq_getElem hat⟩
          have hcm := List.mem_of_getElem? hcat
          obtain ⟨k1, hk1, hk2⟩ := HP2.out.of c hcm
          have hc100 := HP2.out.lt c hcm
          obtain ⟨r, hfr, hrl, hrc⟩ := HLW.out k1 (Nat.zero_le _) (by rw [HL.out]; exact hk1)
          rw [hk2] at hfr hrc
          have oc : wi.cell? ⟨go, OS.length, none⟩ = some (.int .i64 (c : Int)) := by
            rw [HS2.out.ordr.cellAt OS.length (by omega)]
            simp [natI, hcat]
          have HGD : Hid (ord.getD OS.length 0 = c) := Lib.hid (by rw [List.getD_eq_getElem?_getD, hcat]; rfl)
          have HKX1 : Hid (keyOf Tryz.prog 3 (.int .i64 (c : Int)) = some (keyI c)) := Lib.hid (keyOf3 _ (by omega))
          have HAT : Hid (D.atKey (keyI c) (.lit (.int .i64 0)) = .lit (.int .i64 (r : Int))) := Lib.hid (by rw [HMF.out.at_ c, hfr]; rfl)
          obtain ⟨h, hh⟩ : ∃ h, HS[r]? = some h := ⟨_, List.getElem?_eq_getElem (by rw [← HL.out]; exact hrl)⟩
          have HH := Lib.hid hh
          have HRC := Lib.hid hrc
          have hfh := few_head HFW.out (List.mem_of_getElem? hh)
          have HFH := Lib.hid hfh
          have HNCH := Lib.hid (HNC.out h (List.mem_of_getElem? hh))
          have HHK := Lib.hid (head_kind (HOK.out h (List.mem_of_getElem? hh)))
          have hin := HCA.out r h hh
          have HIN := Lib.hid hin.ok
          have HBW : Hid (Below w.heap.size w wi) := Lib.hid HS2.out.below
          have hrl2 : (r : Int) < ln := by omega
          have b0 : wi.cell? ⟨ga, oa + r * 4, none⟩ = some (.int .i64 h.kd) := keepB HBW.out HGA.out hin.c0
          have b1 : wi.cell? ⟨ga, oa + r * 4 + 1, none⟩ = some (.slice h.na h.nn h.nc) := keepB HBW.out HGA.out hin.c1
          have b2 : wi.cell? ⟨ga, oa + r * 4 + 2, none⟩ = some (.slice h.ka h.kn h.kc) := keepB HBW.out HGA.out hin.c2
          have b3 : wi.cell? ⟨ga, oa + r * 4 + 3, none⟩ = some (.bool h.op) := keepB HBW.out HGA.out hin.c3
          clear hin hh hrc hfr hk2 hcat hcm hfh
          have HY : Hid ((wi.alloc (.cells #[.int .i64 h.kd, .slice h.na h.nn h.nc, .slice h.ka h.kn h.kc, .bool h.op] 33)).heap[wi.heap.size]? = some (.cells #[.int .i64 h.kd, .slice h.na h.nn h.nc, .slice h.ka h.kn h.kc, .bool h.op] 33 (0, 0))) := Lib.hid (heap_alloc_new wi _)
          have HBY : Hid (Below wi.heap.size wi (wi.alloc (.cells #[.int .i64 h.kd, .slice h.na h.nn h.nc, .slice h.ka h.kn h.kc, .bool h.op] 33))) := Lib.hid ((Below.refl _ _).alloc (Nat.le_refl _) _)
          go_upto_region 14 with (at_lookup; refine wpList_lookup_own_int _ rfl _ _ 163 rfl 3 3 .i64 (Maps.int_keyed Tryz.underlying3) Tryz.underlying163 Tryz.underlying3 (zero3 _) M1 n D rfl HS2.out.one _ (keyI c) rfl HKX1.out ?_; intro r' hat9 hwc; obtain rfl : r' = (r : Int) := (by have h9 := hat9.symm.trans HAT.out; simpa using h9); clear hat9 hwc)
          clear b0 b1 b2 b3 oc
          obtain ⟨w6, hw6⟩ : ∃ w6, wi.alloc (.cells #[.int .i64 h.kd, .slice h.na h.nn h.nc, .slice h.ka h.kn h.kc, .bool h.op] 33) = w6 := ⟨_, rfl⟩
          rw [hw6] at HY HBY ⊢
          clear hw6
          have HYL : Hid (wi.heap.size < w6.heap.size) := Lib.hid (Array.getElem?_eq_some_iff.1 HY.out).1
          have c1 : w6.cell? ⟨wi.heap.size, 1, none⟩ = some (.slice h.na h.nn h.nc) := (by rw [cell_of_row _ _ 1 _ 33 _ HY.out]; rfl)
          have HCN := Lib.hid (clone_55 w6 h.na h.nn h.nc h.NS (HIN.out.on (HBW.out.trans (HBY.out.mono HBW.out.size))).names HNCH.out (by have := HFH.out.2.1; omega))
          go_upto_region 15 with (go_at_call 91; (with_reducible refine HCN.out.mono ?_); rintro e w7' ⟨a7, c7, rfl, hn7, hz7, hg7, hb7⟩; have HN7 := Lib.hid hn7; have HZ7 := Lib.hid hz7; have HG7 := Lib.hid hg7; have HB7 := Lib.hid hb7; have HY7 := Lib.hid ((hb7.block _ HYL.out).trans HY.out); have d1 : w7'.cell? ⟨wi.heap.size, 1, none⟩ = some (.slice h.na h.nn h.nc) := (by rw [cell_of_row _ _ 1 _ 33 _ HY7.out]; rfl); have f1 : w7'.frozen? ⟨wi.heap.size, 1, none⟩ = false := frozen_of_row _ _ _ _ _ HY7.out; have l1 : wi.heap.size < w7'.heap.size := Nat.lt_of_lt_of_le HYL.out hb7.size; clear hn7 hz7 hg7 hb7)
          obtain ⟨w8, hw8⟩ : ∃ w8, w7'.setCell ⟨wi.heap.size, 1, none⟩ (.slice a7 h.nn c7) = w8 := ⟨_, rfl⟩
          have HB8 : Hid (Below wi.heap.size wi w8) := Lib.hid (by rw [← hw8]; exact (HBY.out.trans (HB7.out.mono HBY.out.size)).setCell (p := ⟨wi.heap.size, 1, none⟩) (Nat.le_refl _) _)
          have HY8 : Hid (w8.heap[wi.heap.size]? = some (.cells #[.int .i64 h.kd, .slice a7 h.nn c7, .slice h.ka h.kn h.kc, .bool h.op] 33 (0, 0))) := Lib.hid (by rw [← hw8, heap_setCell_same _ wi.heap.size 1 _ 33 _ HY7.out]; rfl)
          have HSZ8 : Hid (w8.heap.size = w7'.heap.size) := Lib.hid (by rw [← hw8]; simp)
          have HN8 : Hid (NamesAt w8 a7 h.nn h.NS) := Lib.hid (by
            rw [← hw8]
            refine HN7.out.kept0 (fun ad e h0 hl => ?_) (by simp)
            have := HG7.out ad e
            have := HYL.out
            rw [Below.heap_setCell _ _ _ _ (show ad.block ≠ wi.heap.size by omega)])
          rw [hw8]
          clear hw8 c1 d1 f1 l1 HCN
          obtain ⟨w9, hw9⟩ : ∃ w9, w8.alloc (.cells #[] 3) = w9 := ⟨_, rfl⟩
          have HB9 : Hid (Below wi.heap.size wi w9) := Lib.hid (by rw [← hw9]; exact HB8.out.alloc HB8.out.size _)
          have HY9 : Hid (w9.heap[wi.heap.size]? = some (.cells #[.int .i64 h.kd, .slice a7 h.nn c7, .slice h.ka h.kn h.kc, .bool h.op] 33 (0, 0))) := Lib.hid (by
            rw [← hw9, Below.heap_alloc _ _ _ (Array.getElem?_eq_some_iff.1 HY8.out).1]
            exact HY8.out)
          have HN9 : Hid (NamesAt w9 a7 h.nn h.NS) := Lib.hid (by rw [← hw9]; exact HN8.out.on ((Below.refl _ _).alloc (Nat.le_refl _) _))
          have HQ : Hid (∀ ad, a7 = some ad → h.nn ≠ 0 → wi.heap.size < ad.block ∧ ad.block < w8.heap.size) := Lib.hid (fun ad e h0 => by
            have h3 := HG7.out ad e
            have h4 := HYL.out
            rcases HN8.out.2 with r | ⟨g, o, e2, hl, _⟩
            · exact absurd r h0
            · rw [e] at e2; cases e2; exact ⟨by omega, hl⟩)
          have HI9 := Lib.hid (NIn.start HS2.out HB8.out (Array.getElem?_eq_some_iff.1 HY8.out).1 HQ.out hw9.symm)
          have HS9 := Lib.hid (HS2.out.on HB9.out)
          go_upto_region 16 with (fail)
          try rw [hw9]
          clear hw9
          obtain ⟨gk0, hgk0⟩ : ∃ gk0, w8.heap.size = gk0 := ⟨_, rfl⟩
          rw [hgk0] at HI9 ⊢
          clear hgk0
          generalize hQQ : (wi.heap.size :: (if h.nn = 0 then [] else (a7.map (fun ad => ad.block)).toList)) = Q at HI9
          have HQQ := Lib.hid hQQ
          clear hQQ
          obtain ⟨hb, hhb⟩ : ∃ hb, wi.heap.size = hb := ⟨_, rfl⟩
          have HHB := Lib.hid hhb
          have e2 : w9.cell? ⟨wi.heap.size, 2, none⟩ = some (.slice h.ka h.kn h.kc) := (by rw [cell_of_row _ _ 2 _ 33 _ HY9.out]; rfl)
          rw [hhb] at e2 HY9 HQQ ⊢
          clear hhb
          have hkn := HFH.out.1
          have hkn2 : (h.kn : Int) ≤ 20 := by omega
          have HKN : Hid (h.kn = h.KS.length) := Lib.hid HIN.out.kids.1
          obtain ⟨i3, p3, q31, q32, q33⟩ := info_parts Tryz.info3
          have P3 := Lib.hid p3
          have Q31 := Lib.hid q31
          have Q32 := Lib.hid q32
          have Q33 := Lib.hid q33
          clear p3 q31 q32 q33
          have HKD0 : Hid (KdI cl ord h 0 []) := Lib.hid ⟨rfl, fun k hk => by simp at hk⟩
          have HATL := Lib.hid hat
          go_upto_region 17 with (fail)
          clear e2
          go_loopw [69, 9, 13] (fun s69 s9 s13 wr => ∃ (p : Nat) (ord : List Nat) (go co : Nat) (D2 : DataW Unit) (n2 gk ck : Nat) (KK : List Int), s69 = .int .i64 (p : Int) ∧ s9 = .slice (some ⟨go, 0, none⟩) ord.length co ∧ s13 = .slice (some ⟨gk, 0, none⟩) KK.length ck ∧ p ≤ h.kn ∧ Hid (KK.length = p) ∧ Hid (NSt w wr w.heap.size T M1 M2 B10 cl D n lim ord go co D2 n2 OS sv) ∧ Hid (MapF D2 (idxN ord)) ∧ Hid (NPl HS cl root ord OS KK) ∧ Hid (n2 ≤ ord.length) ∧ Hid (NIn w w9 wr lim Q gk ck (blks w.heap.size T M1 M2 B10 go sv) KK) ∧ Hid (KdI cl ord h p KK) ∧ Hid (ord.getD OS.length 0 = c) ∧ Hid (OS.length < ord.length)) (fun s69 _ _ _ => h.kn - (intOf s69).toNat)
          case atStart => exact ⟨0, ord, go, co, D2, n2, gk0, 0, [], rfl, rfl, rfl, Nat.zero_le _, Lib.hid rfl, HS9, HM2, HP2, HN2, HI9, HKD0, HGD, HATL⟩
          case round =>
            clear HS2 HM2 HP2 HN2 HI9 HKD0 HGD HATL HS9 hat hat2 hole hosl
            obtain ⟨p, ord, go, co, D2, n2, gk, ck, KK, rfl, rfl, rfl, hp, HKKL, HZ, HM, HP, HN2, HI, HKD, HGD, HATL⟩ := hrel
            obtain ⟨wj, rfl⟩ : ∃ wj : World, wj = wr := ⟨_, rfl⟩
            have hwp : IntKind.i64.wrap ((p : Int) + 1) = (p : Int) + 1 := by rw [IntKind.wrap_i64]; omega
            have hole : ord.length ≤ 100 := nodup_len 100 ord HP.out.nodup HP.out.lt
            have hkkb : KK.length ≤ 20 := (by have := HKKL.out; have := hkn; omega)
            by_cases hpk : p < h.kn
            · have hpk2 : (p : Int) < h.kn := by omega
              obtain ⟨x, hx⟩ : ∃ x, h.KS[p]? = some x := ⟨_, List.getElem?_eq_getElem (by rw [← HKN.out]; exact hpk)⟩
              obtain ⟨gi, oi, hka, hgi, hci⟩ := HIN.out.kids.2.resolve_left (by omega)
              have kc : wj.cell? ⟨gi, oi + p, none⟩ = some (.int .i64 x) := keepB HZ.out.below hgi (hci p x hx)
              have hxr := HHK.out.2.2.1 x (List.mem_of_getElem? hx)
              obtain ⟨q0, rfl⟩ : ∃ q : Nat, x = (q : Int) := ⟨x.toNat, by omega⟩
              have hql : q0 < ln := by rw [HL.out]; omega
              have hql2 : (q0 : Int) < ln := by omega
              have tq : wj.cell? ⟨T, q0, none⟩ = some (.int .i64 ((cl.getD q0 0 : Nat) : Int)) := by
                rw [cells_row wj T (natI cl) HZ.out.cls q0 (by simp only [natI, List.length_map]; rw [HCL.out, ← HL.out]; exact hql), natI_get cl q0 (by rw [HCL.out, ← HL.out]; exact hql)]
              have hcq := HC1.out q0 (by rw [← HL.out]; exact hql)
              obtain ⟨cc, hcc⟩ : ∃ cc, cl.getD q0 0 = cc := ⟨_, rfl⟩
              rw [hcc] at tq hcq
              have HOFC : Hid (∃ k, k < HS.length ∧ cl.getD k 0 = cc) := Lib.hid ⟨q0, by rw [← HL.out]; exact hql, hcc⟩
              have HKX : Hid (keyOf Tryz.prog 3 (.int .i64 (cc : Int)) = some (keyI cc)) := Lib.hid (keyOf3 _ (by omega))
              have HKST : Hid (∀ (ord : List Nat) (KK : List Int) (q : Nat), KdI cl ord h p KK → idxN ord cc = some q → KdI cl ord h (p + 1) (KK ++ [(q : Int)])) := Lib.hid (fun ord KK q h1 h2 => h1.step hx (by show idxN ord (cl.getD q0 0) = some q; rw [hcc]; exact h2))
              have HMA := Lib.hid (HM.out.at_ cc)
              have hhh := HM.out.has cc
              rw [hka]
              clear hcc hx hci hxr
              cases hix : idxN ord cc with
              | some q =>
                have hhas : Maps.has D2 (keyI cc) = true := by rw [hhh, hix]; rfl
                have HAT2 : Hid (D2.atKey (keyI cc) (.lit (.int .i64 0)) = .lit (.int .i64 (q : Int))) := Lib.hid (by rw [HMA.out, hix]; rfl)
                have HBA : Hid (Below wj.heap.size wj (wj.alloc (.cells #[.int .i64 (q : Int)] 3))) := Lib.hid ((Below.refl _ _).alloc (Nat.le_refl _) _)
                have HPN := Lib.hid (HP.out.known hix)
                have HKN2 := Lib.hid (HKST.out ord KK q HKD.out hix)
                clear hix hhh
                go_wp2_with (first
                  | (at_lookup; refine wpList_lookup_own_ok_int _ rfl _ _ 163 rfl 3 3 .i64 (Maps.int_keyed Tryz.underlying3) Tryz.underlying163 Tryz.underlying3 (zero3 _) M2 n2 D2 rfl HZ.out.num _ (keyI cc) rfl HKX.out ?_; intro z8 hat8 hwc8; clear hat8 hwc8)
                  | (at_lookup; refine wpList_lookup_own_int _ rfl _ _ 163 rfl 3 3 .i64 (Maps.int_keyed Tryz.underlying3) Tryz.underlying163 Tryz.underlying3 (zero3 _) M2 _ _ rfl HZ.out.num _ (keyI cc) rfl HKX.out ?_; intro z9 hat9 hwc; obtain rfl : z9 = ((q : Nat) : Int) := (by have h9 := hat9.symm.trans HAT2.out; simpa using h9); clear hat9 hwc)
                  | (at_builtin; refine wpList_append_lies _ rfl _ _ 31 rfl w.heap.size 3 i3 (.int .i64 0) 1 8 Tryz.underlying31 P3.out Q31.out Q32.out Q33.out rfl (by decide) _ KK.length (KK.map (Value.int .i64)) rfl (HI.out.kids.kept (grown_below HBA.out) (.inr (by simp [Value.ownBlock]))) ⟨wj.heap.size, 0, none⟩ 1 1 [.int .i64 ((q : Nat) : Int)] rfl rfl (World.news_of_block (cs := #[.int .i64 ((q : Nat) : Int)]) (heap_alloc_new wj _)) (by simp [Value.oneCell']) (by omega) (by unfold maxLen; omega) (by omega) (Nat.le_trans HZ.out.below.size HBA.out.size) _ rfl ?_; intro g5 p5 w5' hown5 hgr5 hwh5 hlt5; have HE5 := Lib.hid (kid_end HZ.out HI.out hgr5 hown5 hwh5); clear hown5 hgr5 hwh5 hlt5))
                go_roundw
                case rel => exact ⟨p + 1, ord, go, co, D2, n2, g5, p5, KK ++ [(q : Int)], by go_num, rfl, by simp, by omega, Lib.hid (by simp [HKKL.out]), Lib.hid HE5.out.1, HM, HPN, HN2, Lib.hid HE5.out.2, HKN2, HGD, HATL⟩
                case measure => simp [intOf]; omega
              | none =>
                have hhas : Maps.has D2 (keyI cc) = false := by rw [hhh, hix]; rfl
                have HPN := Lib.hid (HP.out.fresh hix hcq HOFC.out)
                have HIN2 : Hid (idxN (ord ++ [cc]) cc = some ord.length) := Lib.hid (by rw [idxN_new ord cc cc hix, if_pos rfl])
                have HMN : Hid (MapF (D2.put (keyI cc) (.lit (.int .i64 (ord.length : Int)))) (idxN (ord ++ [cc]))) := Lib.hid (by
                  rw [show idxN (ord ++ [cc]) = (fun y => if y = cc then some ord.length else idxN ord y) from funext (fun y => idxN_new ord cc y hix)]
                  exact HM.out.put cc ord.length)
                have HKN2 := Lib.hid (HKST.out (ord ++ [cc]) KK ord.length (HKD.out.app [cc]) HIN2.out)
                have HAT2 : Hid ((D2.put (keyI cc) (.lit (.int .i64 (ord.length : Int)))).atKey (keyI cc) (.lit (.int .i64 0)) = .lit (.int .i64 (ord.length : Int))) := Lib.hid (by rw [HMN.out.at_ cc, HIN2.out]; rfl)
                have HIW : Hid ((Lit.int .i64 (ord.length : Int)).wf = true) := Lib.hid (wf_small _ (by omega))
                have HOD : Hid (∀ m : List Nat, OS.length < ord.length → (ord ++ m).getD OS.length 0 = ord.getD OS.length 0) := Lib.hid (fun m hl => by rw [List.getD_eq_getElem?_getD, List.getElem?_append_left hl, ← List.getD_eq_getElem?_getD])
                have HGD3 : Hid ((ord ++ [cc]).getD OS.length 0 = c) := Lib.hid (by rw [HOD.out [cc] HATL.out]; exact HGD.out)
                have HATL3 : Hid (OS.length < (ord ++ [cc]).length) := Lib.hid (by rw [List.length_append]; exact Nat.lt_of_lt_of_le HATL.out (Nat.le_add_right _ _))
                clear hix hhh
                go_upto_region 23 with (first
                  | (at_lookup; refine wpList_lookup_own_ok_int _ rfl _ _ 163 rfl 3 3 .i64 (Maps.int_keyed Tryz.underlying3) Tryz.underlying163 Tryz.underlying3 (zero3 _) M2 n2 D2 rfl HZ.out.num _ (keyI cc) rfl HKX.out ?_; intro z8 hat8 hwc8; clear hat8 hwc8)
                  | (at_mapUpdate; refine wpList_mapUpdate_own _ rfl _ _ _ 163 rfl 3 3 (Maps.int_keyed Tryz.underlying3) Tryz.underlying163 _ M2 n2 D2 rfl HZ.out.num (by have h8 := HN2.out; unfold maxLen; omega) _ _ _ rfl rfl HKX.out _ [] (plainElem_int Tryz.underlying3 HIW.out) ?_; intro w10 hown10 hgrow10; have HE10 := Lib.hid (num_end HZ.out HI.out hgrow10 hown10); clear hown10 hgrow10))
                have HB10A : Hid (Below w10.heap.size w10 (w10.alloc (.cells #[.int .i64 (cc : Int)] 3))) := Lib.hid ((Below.refl _ _).alloc (Nat.le_refl _) _)
                go_upto_region 24 with (at_builtin; refine wpList_append_lies _ rfl _ _ 31 rfl w.heap.size 3 i3 (.int .i64 0) 1 8 Tryz.underlying31 P3.out Q31.out Q32.out Q33.out rfl (by decide) _ ord.length ((natI ord).map (Value.int .i64)) rfl (HE10.out.1.ordr.kept (grown_below HB10A.out) (.inr (by simp [Value.ownBlock]))) ⟨w10.heap.size, 0, none⟩ 1 1 [.int .i64 (cc : Int)] rfl rfl (World.news_of_block (cs := #[.int .i64 (cc : Int)]) (heap_alloc_new w10 _)) (by simp [Value.oneCell']) (by omega) (by unfold maxLen; omega) (by omega) (Nat.le_trans HE10.out.1.below.size HB10A.out.size) _ rfl ?_; intro g4 p4 w11 hown4 hgr4 hwh4 hlt4; have HE11 := Lib.hid (ord_end HE10.out.1 HE10.out.2 hgr4 hown4 hwh4); clear hown4 hgr4 hwh4 hlt4)
                have HZ1 := Lib.hid HE11.out.1
                have HI1 := Lib.hid HE11.out.2
                have HBA : Hid (Below w11.heap.size w11 (w11.alloc (.cells #[.int .i64 (ord.length : Int)] 3))) := Lib.hid ((Below.refl _ _).alloc (Nat.le_refl _) _)
                go_wp2_with (first
                  | (at_lookup; refine wpList_lookup_own_int _ rfl _ _ 163 rfl 3 3 .i64 (Maps.int_keyed Tryz.underlying3) Tryz.underlying163 Tryz.underlying3 (zero3 _) M2 _ _ rfl HZ1.out.num _ (keyI cc) rfl HKX.out ?_; intro z9 hat9 hwc; obtain rfl : z9 = ((ord.length : Nat) : Int) := (by have h9 := hat9.symm.trans HAT2.out; simpa using h9); clear hat9 hwc)
                  | (at_builtin; refine wpList_append_lies _ rfl _ _ 31 rfl w.heap.size 3 i3 (.int .i64 0) 1 8 Tryz.underlying31 P3.out Q31.out Q32.out Q33.out rfl (by decide) _ KK.length (KK.map (Value.int .i64)) rfl (HI1.out.kids.kept (grown_below HBA.out) (.inr (by simp [Value.ownBlock]))) ⟨w11.heap.size, 0, none⟩ 1 1 [.int .i64 ((ord.length : Nat) : Int)] rfl rfl (World.news_of_block (cs := #[.int .i64 ((ord.length : Nat) : Int)]) (heap_alloc_new w11 _)) (by simp [Value.oneCell']) (by omega) (by unfold maxLen; omega) (by omega) (Nat.le_trans HZ1.out.below.size HBA.out.size) _ rfl ?_; intro g5 p5 w5' hown5 hgr5 hwh5 hlt5; have HE5 := Lib.hid (kid_end HZ1.out HI1.out hgr5 hown5 hwh5); clear hown5 hgr5 hwh5 hlt5))
                go_roundw
                case rel => exact ⟨p + 1, ord ++ [cc], g4, p4, _, n2 + 1, g5, p5, KK ++ [(ord.length : Int)], by go_num, by simp, by simp, by omega, Lib.hid (by simp [HKKL.out]), Lib.hid HE5.out.1, HMN, HPN, Lib.hid (by have := HN2.out; simp; omega), Lib.hid HE5.out.2, HKN2, HGD3, HATL3⟩
                case measure => simp [intOf]; omega
            · have hpk2 : ¬ (p : Int) < h.kn := by omega
              obtain rfl : p = h.kn := by omega
              have hat := HATL.out
              have HQH : Hid (hb ∈ Q) := Lib.hid (by rw [← HQQ.out]; simp)
              have HQ2 : Hid (∀ ad, a7 = some ad → h.nn ≠ 0 → ad.block ∈ Q ∧ ad.block ≠ hb) := Lib.hid (fun ad e h0 => by
                have h3 := (HQ.out ad e h0).1
                have h4 := HHB.out
                refine ⟨?_, by omega⟩
                rw [← HQQ.out, if_neg h0, e]
                simp)
              have HBE := Lib.hid (box_end HZ.out HI.out HY9.out HN9.out HQH.out HQ2.out (by have := HFH.out.2.1; omega) (by omega) (fun s hs => by have := HFH.out.2.2 s hs; omega))
              have k2 : wj.cell? ⟨hb, 2, none⟩ = some (.slice h.ka h.kn h.kc) := (by rw [cell_of_row _ _ 2 _ 33 _ HBE.out.1]; rfl)
              have f2 : wj.frozen? ⟨hb, 2, none⟩ = false := frozen_of_row _ _ _ _ _ HBE.out.1
              have l2 : hb < wj.heap.size := (Array.getElem?_eq_some_iff.1 HBE.out.1).1
              go_upto_region 27 with (fail)
              clear k2 f2 l2
              obtain ⟨w12, hw12⟩ : ∃ w12, wj.setCell ⟨hb, 2, none⟩ (.slice (some ⟨gk, 0, none⟩) KK.length ck) = w12 := ⟨_, rfl⟩
              have HS12 : Hid (w.heap.size ≤ w12.heap.size) := Lib.hid (by rw [← hw12]; simpa using HZ.out.below.size)
              have HE12 : Hid (w12.heap.size = wj.heap.size) := Lib.hid (by rw [← hw12]; simp)
              rw [hw12] at HBE ⊢
              clear hw12
              have HZ12 := Lib.hid HBE.out.2.1
              have HX12 := Lib.hid HBE.out.2.2.1
              have HO12 := Lib.hid HBE.out.2.2.2.1
              have HXS : Hid (∀ ad, blkOf ⟨h.kd, a7, h.nn, c7, h.NS, some ⟨gk, 0, none⟩, KK.length, ck, KK, h.op⟩ ad → w.heap.size ≤ ad.block ∧ ad.block < w12.heap.size ∧ ad.block ∉ blks w.heap.size T M1 M2 B10 go sv) := Lib.hid (by rw [HE12.out]; exact HBE.out.2.2.2.2)
              have HXN : Hid ((a7 = none → c7 = 0) ∧ ((some (⟨gk, 0, none⟩ : Addr)) = none → ck = 0)) := Lib.hid ⟨HZ7.out, fun e => by cases e⟩
              have HNH : Hid (NHead HS cl ord (ord.getD OS.length 0) ⟨h.kd, a7, h.nn, c7, h.NS, some ⟨gk, 0, none⟩, KK.length, ck, KK, h.op⟩) := Lib.hid ⟨⟨r, h, HH.out, by rw [HGD.out]; exact HRC.out, rfl, rfl, rfl, by
                have := HKD.out.1
                rw [List.take_of_length_le (by rw [← HKN.out]; exact Nat.le_refl _)] at this
                exact this, fun k hk => HKD.out.2 k (by rw [List.take_of_length_le (by rw [← HKN.out]; exact Nat.le_refl _)]; exact hk)⟩⟩
              have HPC := Lib.hid (HP.out.close HNOW.out HATL.out HNH.out rfl)
              have x0 : w12.cell? ⟨hb, 0, none⟩ = some (.int .i64 h.kd) := (by rw [cell_of_row _ _ 0 _ 33 _ HX12.out]; rfl)
              have x1 : w12.cell? ⟨hb, 1, none⟩ = some (.slice a7 h.nn c7) := (by rw [cell_of_row _ _ 1 _ 33 _ HX12.out]; rfl)
              have x2 : w12.cell? ⟨hb, 2, none⟩ = some (.slice (some ⟨gk, 0, none⟩) KK.length ck) := (by rw [cell_of_row _ _ 2 _ 33 _ HX12.out]; rfl)
              have x3 : w12.cell? ⟨hb, 3, none⟩ = some (.bool h.op) := (by rw [cell_of_row _ _ 3 _ 33 _ HX12.out]; rfl)
              have y0 : w12.cell? ⟨B10, 0, none⟩ = some sv := (by rw [cell_of_row _ _ 0 _ 36 _ HZ12.out.box]; rfl)
              have y0a : (w12.alloc (.cells #[.int .i64 h.kd, .slice a7 h.nn c7, .slice (some ⟨gk, 0, none⟩) KK.length ck, .bool h.op] 33)).cell? ⟨B10, 0, none⟩ = some sv := (by rw [cell_of_row _ _ 0 _ 36 _ ((Below.heap_alloc _ _ _ (Array.getElem?_eq_some_iff.1 HZ12.out.box).1).trans HZ12.out.box)]; rfl)
              obtain ⟨i0, hi9, hz0, hz1, hz2⟩ := info_parts Tryz.info33
              have HIF := Lib.hid hi9
              have HIF0 := Lib.hid hz0
              have HIF1 := Lib.hid hz1
              have HIF2 := Lib.hid hz2
              have HDR : Hid (Below w12.heap.size w12 w12) := Lib.hid (Below.refl _ _)
              have HLE : Hid (w.heap.size ≤ (w12.alloc (.cells #[.int .i64 h.kd, .slice a7 h.nn c7, .slice (some ⟨gk, 0, none⟩) KK.length ck, .bool h.op] 33)).heap.size) := Lib.hid (by have := HS12.out; have := HDR.out.size; simp; omega)
              have HOWD : Hid ((w12.alloc (.cells #[.int .i64 h.kd, .slice a7 h.nn c7, .slice (some ⟨gk, 0, none⟩) KK.length ck, .bool h.op] 33)).ownsRow w.heap.size 33 4 sv OS.length (OS.flatMap hcells)) := Lib.hid (HZ12.out.out.kept (grown_below (HDR.out.alloc HDR.out.size _)) (by cases hs : sv.ownBlock; exact .inl rfl; exact .inr (by simp)))
              have HBO : Hid (∀ w5' : World, (w12.alloc (.cells #[.int .i64 h.kd, .slice a7 h.nn c7, .slice (some ⟨gk, 0, none⟩) KK.length ck, .bool h.op] 33)).grownBy w5' sv.ownBlock → w5'.heap[B10]? = some (.cells #[sv, .int .i64 0] 36 (0, 0))) := Lib.hid (fun w5' hg => by
                have hl := (Array.getElem?_eq_some_iff.1 HZ12.out.box).1
                have hb9 := HDR.out.alloc HDR.out.size (.cells #[.int .i64 h.kd, .slice a7 h.nn c7, .slice (some ⟨gk, 0, none⟩) KK.length ck, .bool h.op] 33)
                rw [hg.block B10 (Nat.lt_of_lt_of_le hl hb9.size) (fun e => HZ12.out.nums.2.2.2.2.1.2 e.symm), hb9.block B10 hl]
                exact HZ12.out.box)
              have HONE : Hid (∀ u ∈ ([.int .i64 h.kd, .slice a7 h.nn c7, .slice (some ⟨gk, 0, none⟩) KK.length ck, .bool h.op] : List Value), u.oneCell' = true) := Lib.hid (by
                intro u hu
                simp only [List.mem_cons, List.not_mem_nil, or_false] at hu
                rcases hu with rfl | rfl | rfl | rfl <;> rfl)
              have hosb : OS.length ≤ 100 := Nat.le_trans (Nat.le_of_lt hat) hole
              clear hi9 hz0 hz1 hz2
              go_wp2_with (at_builtin; refine wpList_append_lies _ rfl _ _ 34 rfl w.heap.size 33 i0 (.agg #[.int .i64 0, .slice none 0 0, .slice none 0 0, .bool false]) 4 64 Tryz.underlying34 HIF.out HIF0.out HIF1.out HIF2.out rfl (by decide) sv OS.length (OS.flatMap hcells) rfl HOWD.out ⟨w12.heap.size, 0, none⟩ 1 1 [.int .i64 h.kd, .slice a7 h.nn c7, .slice (some ⟨gk, 0, none⟩) KK.length ck, .bool h.op] rfl rfl (news_of (heap_alloc_new w12 _)) HONE.out (by decide) (by unfold maxLen; omega) (by omega) HLE.out _ rfl ?_; intro g6 c6 w6' hown6 hgr6 hat6 hlt6; have hA5 := HBO.out w6' hgr6; have a5 : w6'.cell? ⟨B10, 0, none⟩ = some sv := (by rw [cell_of_row _ _ 0 _ 36 _ hA5]; rfl); have f5 : w6'.frozen? ⟨B10, 0, none⟩ = false := frozen_of_row _ _ 0 _ 36 hA5; have l5 := (Array.getElem?_eq_some_iff.1 hA5).1; clear hA5 hlt6; have HOE := Lib.hid (out_end HZ12.out HO12.out HXN.out HXS.out HDR.out hgr6 hown6 hat6); clear hown6 hgr6 hat6)
              go_roundw
              case rel => exact ⟨ord, go, co, D2, n2, OS ++ [⟨h.kd, a7, h.nn, c7, h.NS, some ⟨gk, 0, none⟩, KK.length, ck, KK, h.op⟩], .slice (some ⟨g6, 0, none⟩) (OS.length + 1) c6, w6'.heap.size, by simp, rfl, HOE, HM, HPC, HN2⟩
              case measure => simp [intOf]; omega
        · have hat2 : ¬ (OS.length : Int) < ord.length := by omega
          have hll : OS.length = ord.length := by omega
          obtain ⟨gS, cS, rfl, hgS, hOS, hEND⟩ := norm_end HS2.out HP2.out hll
          have HGS := Lib.hid hgS
          have HOS := Lib.hid hOS
          have HEND := Lib.hid hEND
          have HLL := Lib.hid hll
          have y0 : wr.cell? ⟨B10, 0, none⟩ = some (.slice (some ⟨gS, 0, none⟩) OS.length cS) := (by rw [cell_of_row _ _ 0 _ 36 _ HS2.out.box]; rfl)
          have y1 : wr.cell? ⟨B10, 1, none⟩ = some (.int .i64 0) := (by rw [cell_of_row _ _ 1 _ 36 _ HS2.out.box]; rfl)
          clear hgS hOS hEND hll
          go_wp2_with (refine wpList_store_row rfl 36 _ _ rfl w.heap.size _ rfl rfl 36 _ HS2.out.res (by kernel_rfl) rfl (by simp [Value.oneCell']) ?_)
          (try simp only [Exit.inBlock, Exit.then])
          exact bodyPost_ret (v := .agg #[.slice (some ⟨gS, 0, none⟩) OS.length cS, .int .i64 0]) (results_cell_row (P := Tryz.prog) rfl _ _ w.heap.size 36 _ (0, 0) _ rfl (setRow_heap _ _ _ _ _ _ HS2.out.res) Tryz.underlying36 rfl (by kernel_rfl)) rfl
            ⟨gS, cS, OS, cl, ord, rfl, HGS.out, (HEND.out _).1, HOS.out, HCL.out, HST.out, HCO.out, HP2.out, HLL.out, (HEND.out _).2⟩
    | succ i =>
      have hir : ((i + 1 : Nat) : Int) - 1 = (i : Int) := by omega
      rw [hir]
      have hil : (i : Int) < ln := by omega
      have hi9 : i < ln := by omega
      have hwi : IntKind.i64.wrap ((i : Int) - 1) = (i : Int) - 1 := by rw [IntKind.wrap_i64]; omega
      have tc : wr.cell? ⟨T, i, none⟩ = some (.int .i64 ((cl.getD i 0 : Nat) : Int)) := by
        rw [cells_row wr T (natI cl) HN.out.cls i (by simp only [natI, List.length_map]; rw [HCL.out, ← HL.out]; omega), natI_get cl i (by rw [HCL.out, ← HL.out]; omega)]
      have HKX : Hid (keyOf Tryz.prog 3 (.int .i64 ((cl.getD i 0 : Nat) : Int)) = some (keyI (cl.getD i 0))) := Lib.hid (keyOf3 _ (by have := HC1.out i (by rw [← HL.out]; exact hi9); omega))
      have HIW : Hid ((Lit.int .i64 (i : Int)).wf = true) := Lib.hid (wf_small i (by omega))
      have HST1 : Hid (∀ w', w'.ownsMap Tryz.prog 3 (plainElem (H := Unit) Tryz.prog 3) M1 (n + 1) (D.put (keyI (cl.getD i 0)) (.lit (.int .i64 (i : Int)))) → wr.grownBy w' (some M1) → NS1 w w' w.heap.size T M1 cl (D.put (keyI (cl.getD i 0)) (.lit (.int .i64 (i : Int)))) (n + 1) (fun x => if x = cl.getD i 0 then some i else f x) i ln) := Lib.hid (fun w' a b => HN.out.step hi9 b a)
      obtain ⟨c, hc⟩ : ∃ c, cl.getD i 0 = c := ⟨_, rfl⟩
      rw [hc] at tc HKX HST1
      clear hc
      go_wp2_with (at_mapUpdate; refine wpList_mapUpdate_own _ rfl _ _ _ 163 rfl 3 3 (Maps.int_keyed Tryz.underlying3) Tryz.underlying163 _ M1 n D rfl HN.out.one (by have h8 := HN.out.nle; unfold maxLen; omega) _ _ _ rfl rfl HKX.out _ [] (plainElem_int Tryz.underlying3 HIW.out) ?_; intro w10 hown10 hgrow10; have HO10 := Lib.hid (HST1.out w10 hown10 hgrow10); clear hown10 hgrow10)
      go_roundw
      case rel => exact ⟨i, _, n + 1, _, by go_num, by omega, HO10⟩
      case measure => simp [intOf]
end Go.Proofs.YtifilhkkgkihpaaGreatDoor
set_option linter.unusedSimpArgs false
set_option linter.unusedVariables false
namespace Go.Proofs.YtifilhkkgkihpaaGreatDoor
open Go.RowKit
theorem results_24 {fn : Func} {p u : Tmp} (h : fn.results = #[.cell p 36, .tmp u]) (tmps : Array Value) (w : World) (g : Nat) (cs : Array Value) (hp : tmps.getD p undef = .pointer (some ⟨g, 0, none⟩)) (hg : w.heap[g]? = some (.cells cs 36 (0, 0))) (hs : cs.size = 2) :
    (results fn tmps).run Tryz.prog w = .ok (.tuple #[.agg cs, tmps.getD u undef]) w := by
  have hi2 : (Tryz.prog.info? 36).map (·.size) = some cs.size := by rw [hs]; kernel_rfl
  rw [results_cell_tmp h, hp]
  simp [asAddr, run_loadVar_row w g 36 36 cs (0, 0) _ hg Tryz.underlying36 rfl hi2]
theorem below_row {n : Nat} {w w' : World} (hb : Below n w w') {B : Nat} (hB : n ≤ B) {cs : Array Value} : Below n w (w'.setRow B cs) :=
  ⟨hb.os, hb.tape, hb.output, by rw [setRow_size]; exact hb.size, fun k hk => (setRow_other w' B k cs (by omega)).trans (hb.block k hk)⟩
theorem HeadsIn.row {w : World} {g n : Nat} {OS : List Hd} (h : HeadsIn w (some ⟨g, 0, none⟩) n OS) (B : Nat) (cs : Array Value) (hg : g ≠ B) (hx : ∀ x ∈ OS, ∀ ad, blkOf x ad → ad.block ≠ B) : HeadsIn (w.setRow B cs) (some ⟨g, 0, none⟩) n OS := by
  refine ⟨h.1, h.2.imp id ?_⟩
  rintro ⟨g', o, e, hl, hc⟩
  cases e
  refine ⟨g, 0, rfl, by rw [setRow_size]; exact hl, fun i x hi => ?_⟩
  obtain ⟨c0, c1, c2, c3, ok⟩ := hc i x hi
  have hk : ∀ j, (w.setRow B cs).cell? ⟨g, j, none⟩ = w.cell? ⟨g, j, none⟩ := fun j => World.cell?_of_block (w := w) (a := ⟨g, j, none⟩) (setRow_other w B g cs hg)
  exact ⟨(hk _).trans c0, (hk _).trans c1, (hk _).trans c2, (hk _).trans c3, hd_kept ok (fun ad e _ => setRow_other w B _ cs (hx x (List.mem_of_getElem? hi) ad e)) (by rw [setRow_size]; exact Nat.le_refl _)⟩
end Go.Proofs.YtifilhkkgkihpaaGreatDoor
