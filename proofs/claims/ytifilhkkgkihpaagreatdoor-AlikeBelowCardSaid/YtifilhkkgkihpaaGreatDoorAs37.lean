/- maker.head on any type whose heads are told. Walks: graph.Of over a tree of types. Walks: graph.Of over a tree of types. Walks: graph.Of over a tree of types (the walk). -/
import Derived.Test.YtifilhkkgkihpaaGreatDoorAs28
import Derived.Test.YtifilhkkgkihpaaGreatDoorAs11
set_option linter.unusedSimpArgs false
set_option linter.unusedVariables false
set_option linter.unusedSimpArgs false
set_option linter.unusedVariables false
namespace Go.Proofs.YtifilhkkgkihpaaGreatDoor
open Go.RowKit
theorem HdT.hlen {YT : List Nd} {i m : Nat} {hs : List Vh} {ix : List Nat} (h : HdT YT i m hs ix) : 0 < ix.length := by
  cases h; simp
theorem heads_any (w0 : World) (R M : Nat) (gn gk gt gy oy cy cn r NN : Nat) (YT : List Nd) (hT0 : TreeT w0 gn gk gt r) (hY0 : TpsIn w0 (some ⟨gy, oy, none⟩) NN YT) (hN3 : NN ≤ 1000) (hr : r < NN) (hty : TypsOk YT) (h1 : ∀ x ∈ bumps (UU NN r) (kidsN YT), x = 1) {i m : Nat} {hs : List Vh} {ix : List Nat} (hT : HdT YT i m hs ix) :
    ∀ (w : World) (n : Nat) (D : DataW Unit) (f : Nat → Option Nat) (xa : Option Addr) (xc : Nat) (OS : List Hd), OS.length = m → MkS w0 w R M n (.slice (some ⟨gn, 0, none⟩) 2 cn) (.slice (some ⟨gy, oy, none⟩) NN cy) D f xa xc OS → (∀ k ∈ ix, f k = none) → OS.length + hs.length ≤ 1000 → n + ix.length ≤ 10000 →
    Calls Tryz.prog 101 #[.pointer (some ⟨R, 0, none⟩), .int .i64 (i : Int)] w (HdPost w0 w R M n (.slice (some ⟨gn, 0, none⟩) 2 cn) (.slice (some ⟨gy, oy, none⟩) NN cy) f xa xc OS hs ix) := by
  induction hT with
  | mk cs hx hNS hKS hall hnd ih =>
    rename_i i m x
    intro w n D f xa xc OS hm hS hf hl hn
    subst hm
    simp only [List.length_cons] at hl hn
    exact head_one w0 w R M n gn gk gt gy oy cy cn r NN YT hT0 hY0 hN3 hr hty h1 D f xa xc OS hS i x hx hNS cs hKS hf hnd (by omega) (by omega) (fun j c hc w' n' D' f' xa' xc' OS' hlen' hS' hf' hn' => ih j c hc w' n' D' f' xa' xc' OS' hlen' hS' hf' (by
      rw [hlen']
      have e1 := flat_all (fun c => c.2.1) hc
      have e2 := congrArg List.length e1
      simp only [List.length_append] at e2
      have e3 : offs cs j = ((cs.take j).flatMap (fun c => c.2.1)).length := rfl
      omega) hn')
end Go.Proofs.YtifilhkkgkihpaaGreatDoor
set_option linter.unusedSimpArgs false
set_option linter.unusedVariables false
namespace Go.Proofs.YtifilhkkgkihpaaGreatDoor
open Go.RowKit
/-- the maker at its birth. -/
theorem MkS.start (w : World) (NV TV : Value) : MkS w ((w.alloc (.map #[] 0)).alloc (.cells #[NV, TV, .slice none 0 0, .map (some w.heap.size), .slice none 0 0] 165)) (w.heap.size + 1) w.heap.size 0 NV TV (.map []) (fun _ => none) none 0 [] where
  below := ((Below.refl _ _).alloc (Nat.le_refl _) _).alloc (by simp) _
  box := by
    have := heap_alloc_new (w.alloc (.map #[] 0)) (.cells #[NV, TV, .slice none 0 0, .map (some w.heap.size), .slice none 0 0] 165)
    simpa using this
  map := (World.ownsMap_made w Tryz.prog 3 _).alloc _
  mapf := MapF.nil
  row := World.ownsRow_nil _ _ _ _
  heads x hx := by cases hx
  sep x hx := by cases hx
  geR := by omega
  geM := Nat.le_refl _
theorem MkS.heads_in {w0 wr : World} {R M n : Nat} {NV TV : Value} {D : DataW Unit} {f : Nat → Option Nat} {xa : Option Addr} {xc : Nat} {XS : List Hd} (h : MkS w0 wr R M n NV TV D f xa xc XS) : HeadsIn wr xa XS.length XS := by
  refine ⟨rfl, ?_⟩
  by_cases h0 : XS.length = 0
  · exact .inl h0
  · obtain ⟨g, cap, e, h2, h3⟩ := h.row.form (by omega)
    injection e with e1 e2 e3
    subst e1
    refine .inr ⟨g, 0, rfl, h3, fun i x hi => ?_⟩
    have hil := (List.getElem?_eq_some_iff.1 hi).1
    have hc : ∀ j, j < 4 → wr.cell? ⟨g, 0 + i * 4 + j, none⟩ = (hcells x)[j]? := fun j hj => by
      rw [Nat.zero_add, h.row.cellAt (i * 4 + j) (by omega)]
      exact flat_at XS i j x hi hj
    exact ⟨hc 0 (by omega), hc 1 (by omega), hc 2 (by omega), hc 3 (by omega), (h.heads x (List.mem_of_getElem? hi)).1⟩
end Go.Proofs.YtifilhkkgkihpaaGreatDoor
set_option linter.unusedSimpArgs false
set_option linter.unusedVariables false
namespace Go.Proofs.YtifilhkkgkihpaaGreatDoor
open Go.RowKit
/-- the normal graph of a type. -/
def OfPost (w : World) (hs : List Vh) (e : Ending) (w' : World) : Prop := ∃ (HS : List Hd) (g c : Nat) (OS : List Hd) (cl ord : List Nat), HS.map vh = hs ∧ e = .returned (.tuple #[.agg #[.slice (some ⟨g, 0, none⟩) OS.length c, .int .i64 0], .int .i64 0]) ∧ w.heap.size ≤ g ∧ HeadsIn w' (some ⟨g, 0, none⟩) OS.length OS ∧ (∀ x ∈ OS, (x.na = none → x.nc = 0) ∧ (x.ka = none → x.kc = 0) ∧ ∀ ad, blkOf x ad → w.heap.size ≤ ad.block) ∧ cl.length = HS.length ∧ Stands HS cl ∧ Coarse HS cl ∧ NPl HS cl 0 ord OS [] ∧ OS.length = ord.length ∧ Below w.heap.size w w'
/-- heads that say hs may be a graph's. -/
def HsOk (hs : List Vh) : Prop := ∀ HS : List Hd, HS.map vh = hs → (∀ x ∈ HS, x.nn = x.NS.length ∧ x.kn = x.KS.length) → HS.all fewH = true ∧ OkHeads HS
end Go.Proofs.YtifilhkkgkihpaaGreatDoor
set_option linter.unusedSimpArgs false
set_option linter.unusedVariables false
namespace Go.Proofs.YtifilhkkgkihpaaGreatDoor
open Go.RowKit
theorem TreeT.row {w : World} {gn gk gt r : Nat} (h : TreeT w gn gk gt r) (B : Nat) (cs : Array Value) (h1 : gn ≠ B) (h2 : gk ≠ B) (h3 : gt ≠ B) : TreeT (w.setRow B cs) gn gk gt r := by
  have hk : ∀ g, g ≠ B → ∀ j, (w.setRow B cs).cell? ⟨g, j, none⟩ = w.cell? ⟨g, j, none⟩ := fun g hg j => World.cell?_of_block (w := w) (a := ⟨g, j, none⟩) (setRow_other w B g cs hg)
  exact ⟨fun i u hu => (hk gn h1 i).trans (h.n0 i u hu), (hk gk h2 0).trans h.kk, (hk gt h3 0).trans h.kt, by rw [setRow_size]; exact h.ln, by rw [setRow_size]; exact h.lk, by rw [setRow_size]; exact h.lt⟩
set_option maxRecDepth 20000 in
set_option maxHeartbeats 8000000 in
theorem of_any (w : World) (gy oy cy NN r : Nat) (YT : List Nd) (hY : TpsIn w (some ⟨gy, oy, none⟩) NN YT) (hN3 : NN ≤ 1000) (hr : r < NN) (hty : TypsOk YT) (h1 : ∀ x ∈ bumps (UU NN r) (kidsN YT), x = 1) (hin : ∀ i, i < NN → (i ∈ kidsN YT ↔ i ≠ r)) (hkl : (kidsN YT).length ≤ 10000) (hks : ∀ x ∈ YT, ∀ k ∈ x.1.KS, 0 ≤ k ∧ k ≤ 1000) (hs : List Vh) (ix : List Nat) (hT : HdT YT r 0 hs ix) (hl : hs.length ≤ 100) (hl0 : 0 < hs.length) (hix : ix.length ≤ 10000) (hg : HsOk hs) :
    Calls Tryz.prog 76 #[.agg #[.slice none 0 0, .slice (some ⟨gy, oy, none⟩) NN cy, .slice none 0 0], .int .i64 (r : Int)] w (OfPost w hs) := by
  have HB : Hid (Below w.heap.size w ((w.alloc (.cells #[.slice none 0 0, .slice (some ⟨gy, oy, none⟩) NN cy, .slice none 0 0] 108)).alloc (.cells #[.slice none 0 0, .int .i64 0] 36))) := Lib.hid (((Below.refl _ _).alloc (Nat.le_refl _) _).alloc (by simp) _)
  have HX : Hid (((w.alloc (.cells #[.slice none 0 0, .slice (some ⟨gy, oy, none⟩) NN cy, .slice none 0 0] 108)).alloc (.cells #[.slice none 0 0, .int .i64 0] 36)).heap[w.heap.size]? = some (.cells #[.slice none 0 0, .slice (some ⟨gy, oy, none⟩) NN cy, .slice none 0 0] 108 (0, 0))) := Lib.hid (by rw [Below.heap_alloc _ _ _ (by simp)]; exact heap_alloc_new w _)
  have HX2 : Hid (((w.alloc (.cells #[.slice none 0 0, .slice (some ⟨gy, oy, none⟩) NN cy, .slice none 0 0] 108)).alloc (.cells #[.slice none 0 0, .int .i64 0] 36)).heap[w.heap.size + 1]? = some (.cells #[.slice none 0 0, .int .i64 0] 36 (0, 0))) := Lib.hid (by
    have := heap_alloc_new (w.alloc (.cells #[.slice none 0 0, .slice (some ⟨gy, oy, none⟩) NN cy, .slice none 0 0] 108)) (.cells #[.slice none 0 0, .int .i64 0] 36)
    simpa using this)
  have HAL := Lib.hid (alone_any _ gy oy cy r NN YT (hY.on HB.out) hN3 hr hin hkl hks)
  have HCK : Hid (∀ w', Below w.heap.size w w' → ∀ gn gk gt cn, TreeT w' gn gk gt r → Calls Tryz.prog 96 #[.agg #[.slice (some ⟨gn, 0, none⟩) 2 cn, .slice (some ⟨gy, oy, none⟩) NN cy, .slice none 0 0]] w' (ErrPost w' true)) := Lib.hid (fun w' hb gn gk gt cn ht => tree_types w' gn gk gt gy oy cy cn r NN YT ht (hY.on hb) hN3 hr hty h1)
  have HHD : Hid (∀ w', Below w.heap.size w w' → ∀ gn gk gt cn, TreeT w' gn gk gt r → Calls Tryz.prog 101 #[.pointer (some ⟨w'.heap.size + 1, 0, none⟩), .int .i64 (r : Int)] ((w'.alloc (.map #[] 0)).alloc (.cells #[.slice (some ⟨gn, 0, none⟩) 2 cn, .slice (some ⟨gy, oy, none⟩) NN cy, .slice none 0 0, .map (some w'.heap.size), .slice none 0 0] 165)) (HdPost w' ((w'.alloc (.map #[] 0)).alloc (.cells #[.slice (some ⟨gn, 0, none⟩) 2 cn, .slice (some ⟨gy, oy, none⟩) NN cy, .slice none 0 0, .map (some w'.heap.size), .slice none 0 0] 165)) (w'.heap.size + 1) w'.heap.size 0 (.slice (some ⟨gn, 0, none⟩) 2 cn) (.slice (some ⟨gy, oy, none⟩) NN cy) (fun _ => none) none 0 [] hs ix)) := Lib.hid (fun w' hb gn gk gt cn ht => heads_any w' _ _ gn gk gt gy oy cy cn r NN YT ht (hY.on hb) hN3 hr hty h1 hT _ 0 _ _ none 0 [] rfl (MkS.start w' _ _) (fun k _ => rfl) (by simp; omega) (by omega))
  have HNR : Hid (∀ (w0 w' : World) (R M n : Nat) (NV TV : Value) (D : DataW Unit) (f : Nat → Option Nat) (xa : Option Addr) (xc : Nat) (XS : List Hd), MkS w0 w' R M n NV TV D f xa xc XS → XS.map vh = hs → Calls Tryz.prog 77 #[.slice xa XS.length xc, .int .i64 0] w' (NormPost w' XS 0)) := Lib.hid (fun w0 w' R M n NV TV D f xa xc XS hM hv => by
    have hlen : XS.length = hs.length := by rw [← hv]; simp
    obtain ⟨f1, f2⟩ := hg XS hv (fun x hx => ⟨(hM.heads x hx).1.names.1, (hM.heads x hx).1.kids.1⟩)
    have := normal_any w' xa XS.length xc 0 XS hM.heads_in f1 (by omega) (by omega) f2 (fun x hx => (hM.heads x hx).2.1)
    simpa using this)
  have hrn : (r : Int) < NN := by omega
  have hrn2 : ¬ (NN : Int) ≤ r := by omega
  have hmm := @run_makeMap Tryz.prog
  have HGY : Hid (NN ≤ 1000) := Lib.hid hN3
  clear hY hty h1 hin hkl hks hT hg hr hl hix hl0
  go_enter Tryz.func76, Tryz.ntmps76
  go_upto_region 1 with (fail)
  generalize ((w.alloc (.cells #[.slice none 0 0, .slice (some ⟨gy, oy, none⟩) NN cy, .slice none 0 0] 108)).alloc (.cells #[.slice none 0 0, .int .i64 0] 36)) = w1 at *
  have HL1 : Hid (w.heap.size + 1 < w1.heap.size) := Lib.hid (Array.getElem?_eq_some_iff.1 HX2.out).1
  have a0 : w1.cell? ⟨w.heap.size, 0, none⟩ = some (.slice none 0 0) := (by rw [cell_of_row _ _ 0 _ 108 _ HX.out]; rfl)
  have a1 : w1.cell? ⟨w.heap.size, 1, none⟩ = some (.slice (some ⟨gy, oy, none⟩) NN cy) := (by rw [cell_of_row _ _ 1 _ 108 _ HX.out]; rfl)
  have a2 : w1.cell? ⟨w.heap.size, 2, none⟩ = some (.slice none 0 0) := (by rw [cell_of_row _ _ 2 _ 108 _ HX.out]; rfl)
  go_upto_region 2 with (first
    | (go_at_call 100; (with_reducible refine HAL.out.mono ?_); rintro e w2 ⟨gn, cn, gk, gt, rfl, ht2, hn2, hk2, hg2, hb2⟩; have HT2 := Lib.hid ht2; have HN2 := Lib.hid hn2; have HK2 := Lib.hid hk2; have HG2 := Lib.hid hg2; have HB2 := Lib.hid hb2; have HXA := Lib.hid ((hb2.block _ (Nat.lt_of_succ_lt HL1.out)).trans HX.out); have HXB := Lib.hid ((hb2.block _ HL1.out).trans HX2.out); clear ht2 hn2 hk2 hg2 hb2)
    | (refine wpList_store_row rfl 108 _ _ rfl w.heap.size _ rfl rfl 108 _ HXA.out (by kernel_rfl) rfl (by simp [Value.oneCell']) ?_))
  clear a0 a1 a2
  have HT3 : Hid (TreeT (w2.setRow w.heap.size #[.slice (some ⟨gn, 0, none⟩) 2 cn, .slice (some ⟨gy, oy, none⟩) NN cy, .slice none 0 0]) gn gk gt r) := Lib.hid (HT2.out.row _ _ (by have h1 := HL1.out; have h2 := HN2.out; omega) (by have h1 := HL1.out; have h2 := HK2.out; omega) (by have h1 := HL1.out; have h2 := HG2.out; omega))
  have HB3 : Hid (Below w.heap.size w (w2.setRow w.heap.size #[.slice (some ⟨gn, 0, none⟩) 2 cn, .slice (some ⟨gy, oy, none⟩) NN cy, .slice none 0 0])) := Lib.hid (below_rowP (HB.out.trans (HB2.out.mono HB.out.size)) (Nat.le_refl _))
  have HXC : Hid ((w2.setRow w.heap.size #[.slice (some ⟨gn, 0, none⟩) 2 cn, .slice (some ⟨gy, oy, none⟩) NN cy, .slice none 0 0]).heap[w.heap.size]? = some (.cells #[.slice (some ⟨gn, 0, none⟩) 2 cn, .slice (some ⟨gy, oy, none⟩) NN cy, .slice none 0 0] 108 (0, 0))) := Lib.hid (setRow_heap _ _ _ _ _ _ HXA.out)
  have HXD : Hid ((w2.setRow w.heap.size #[.slice (some ⟨gn, 0, none⟩) 2 cn, .slice (some ⟨gy, oy, none⟩) NN cy, .slice none 0 0]).heap[w.heap.size + 1]? = some (.cells #[.slice none 0 0, .int .i64 0] 36 (0, 0))) := Lib.hid ((setRow_other _ _ _ _ (by omega)).trans HXB.out)
  generalize (w2.setRow w.heap.size #[.slice (some ⟨gn, 0, none⟩) 2 cn, .slice (some ⟨gy, oy, none⟩) NN cy, .slice none 0 0]) = w3 at *
  clear HT2 HXA HXB
  have HL3 : Hid (w.heap.size + 1 < w3.heap.size) := Lib.hid (Array.getElem?_eq_some_iff.1 HXD.out).1
  have HC3 := Lib.hid (HCK.out w3 HB3.out gn gk gt cn HT3.out)
  have a0 : w3.cell? ⟨w.heap.size, 0, none⟩ = some (.slice (some ⟨gn, 0, none⟩) 2 cn) := (by rw [cell_of_row _ _ 0 _ 108 _ HXC.out]; rfl)
  have a1 : w3.cell? ⟨w.heap.size, 1, none⟩ = some (.slice (some ⟨gy, oy, none⟩) NN cy) := (by rw [cell_of_row _ _ 1 _ 108 _ HXC.out]; rfl)
  have a2 : w3.cell? ⟨w.heap.size, 2, none⟩ = some (.slice none 0 0) := (by rw [cell_of_row _ _ 2 _ 108 _ HXC.out]; rfl)
  go_upto_region 5 with (go_at_call 96; (with_reducible refine HC3.out.mono ?_); rintro e w4 ⟨rfl, hb4⟩; have HB4 := Lib.hid hb4; clear hb4)
  clear a0 a1 a2
  have HB5 : Hid (Below w.heap.size w w4) := Lib.hid (HB3.out.trans (HB4.out.mono HB3.out.size))
  have HXE := Lib.hid ((HB4.out.block _ (Nat.lt_of_succ_lt HL3.out)).trans HXC.out)
  have HXF := Lib.hid ((HB4.out.block _ HL3.out).trans HXD.out)
  have HT5 := Lib.hid (HT3.out.on HB4.out)
  have a0 : w4.cell? ⟨w.heap.size, 0, none⟩ = some (.slice (some ⟨gn, 0, none⟩) 2 cn) := (by rw [cell_of_row _ _ 0 _ 108 _ HXE.out]; rfl)
  have a1 : w4.cell? ⟨w.heap.size, 1, none⟩ = some (.slice (some ⟨gy, oy, none⟩) NN cy) := (by rw [cell_of_row _ _ 1 _ 108 _ HXE.out]; rfl)
  have a2 : w4.cell? ⟨w.heap.size, 2, none⟩ = some (.slice none 0 0) := (by rw [cell_of_row _ _ 2 _ 108 _ HXE.out]; rfl)
  go_upto_region 8 with (fail)
  clear a0 a1 a2
  have HL4 : Hid (w.heap.size + 1 < w4.heap.size) := Lib.hid (Array.getElem?_eq_some_iff.1 HXF.out).1
  have HHH := Lib.hid (HHD.out w4 HB5.out gn gk gt cn HT5.out)
  have HBM : Hid (Below w4.heap.size w4 ((w4.alloc (.map #[] 0)).alloc (.cells #[.slice (some ⟨gn, 0, none⟩) 2 cn, .slice (some ⟨gy, oy, none⟩) NN cy, .slice none 0 0, .map (some w4.heap.size), .slice none 0 0] 165))) := Lib.hid (((Below.refl _ _).alloc (Nat.le_refl _) _).alloc (by simp) _)
  generalize ((w4.alloc (.map #[] 0)).alloc (.cells #[.slice (some ⟨gn, 0, none⟩) 2 cn, .slice (some ⟨gy, oy, none⟩) NN cy, .slice none 0 0, .map (some w4.heap.size), .slice none 0 0] 165)) = w5 at *
  go_upto_region 11 with (go_at_call 101; (with_reducible refine HHH.out.mono ?_); rintro e w6 ⟨NEW, D', f', xa', xc', rfl, hv6, hm6, -, -, -, -⟩; have HV6 := Lib.hid hv6; have HM6 := Lib.hid hm6; clear hv6 hm6)
  rw [List.nil_append] at HM6
  have HB6 : Hid (Below w.heap.size w w6) := Lib.hid (HB5.out.trans (HM6.out.below.mono HB5.out.size))
  have HXG := Lib.hid ((HM6.out.below.block _ HL4.out).trans HXF.out)
  have HN6 := Lib.hid (HNR.out _ w6 _ _ _ _ _ _ _ xa' xc' NEW HM6.out HV6.out)
  have b4 : w6.cell? ⟨w4.heap.size + 1, 4, none⟩ = some (.slice xa' NEW.length xc') := (by rw [cell_of_row _ _ 4 _ 165 _ HM6.out.box]; rfl)
  go_wp2_with (first
    | (go_at_call 77; (with_reducible refine HN6.out.mono ?_); rintro e w7 ⟨g3, c3, OS, cl, ord, rfl, hg3, hH3, hO3, hcl3, hst3, hco3, hnp3, hll3, hb3⟩; have HG3 := Lib.hid hg3; have HH3 := Lib.hid hH3; have HO3 := Lib.hid hO3; have HCL3 := Lib.hid hcl3; have HST3 := Lib.hid hst3; have HCO3 := Lib.hid hco3; have HNP3 := Lib.hid hnp3; have HLL3 := Lib.hid hll3; have HB7 := Lib.hid hb3; have HX7 := Lib.hid ((hb3.block _ (Array.getElem?_eq_some_iff.1 HXG.out).1).trans HXG.out); clear hg3 hH3 hO3 hcl3 hst3 hco3 hnp3 hll3 hb3)
    | (refine wpList_store_row rfl 36 _ _ rfl (w.heap.size + 1) _ rfl rfl 36 _ HX7.out (by kernel_rfl) rfl (by simp [Value.oneCell']) ?_))
  (try simp only [Exit.inBlock, Exit.then])
  have HSZ : Hid (w.heap.size + 1 < w6.heap.size) := Lib.hid (Array.getElem?_eq_some_iff.1 HXG.out).1
  exact bodyPost_ret (v := .tuple #[.agg #[.slice (some ⟨g3, 0, none⟩) OS.length c3, .int .i64 0], .int .i64 0]) (results_24 (fn := Tryz.f76) (p := 4) (u := 5) rfl _ _ (w.heap.size + 1) _ rfl (setRow_heap _ _ _ _ _ _ HX7.out) rfl) rfl
    ⟨NEW, g3, c3, OS, cl, ord, HV6.out, rfl, Nat.le_trans HB6.out.size HG3.out, HH3.out.row (w.heap.size + 1) _ (by have := HG3.out; have := HSZ.out; omega) (fun x hx ad e => by have := (HO3.out x hx).2.2 ad e; have := HSZ.out; omega), fun x hx => ⟨(HO3.out x hx).1, (HO3.out x hx).2.1, fun ad e => Nat.le_trans HB6.out.size ((HO3.out x hx).2.2 ad e)⟩, HCL3.out, HST3.out, HCO3.out, HNP3.out, HLL3.out, below_row (HB6.out.trans (HB7.out.mono HB6.out.size)) (by omega)⟩
end Go.Proofs.YtifilhkkgkihpaaGreatDoor
