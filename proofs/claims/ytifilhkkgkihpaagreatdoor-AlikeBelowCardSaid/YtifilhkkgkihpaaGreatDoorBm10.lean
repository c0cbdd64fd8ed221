/- Walks and plain facts. -/
import Derived.Test.YtifilhkkgkihpaaGreatDoorBm09
import Derived.Test.YtifilhkkgkihpaaGreatDoorAs12
import Derived.Test.YtifilhkkgkihpaaGreatDoorBm01
import Derived.Test.YtifilhkkgkihpaaGreatDoorBm04
import Derived.Test.YtifilhkkgkihpaaGreatDoorBm02
import Derived.Deep.RegionHeld3
import Derived.Deep.LoopGhost
set_option linter.unusedSimpArgs false
set_option linter.unusedVariables false
namespace Go.Proofs.YtifilhkkgkihpaaGreatDoor
open Go.RowKit
theorem blk_lt {w : World} {x : Hd} {ad : Addr} (h : HdOk w x) (e : blkOf x ad) : ad.block < w.heap.size := by
  rcases e with ⟨e, h0⟩ | ⟨e, h0⟩
  · rcases h.names.2 with r | ⟨g, o, e2, hl, _⟩
    · exact absurd r h0
    · rw [e2] at e; cases e; exact hl
  · rcases h.kids.2 with r | ⟨g, o, e2, hl, _⟩
    · exact absurd r h0
    · rw [e2] at e; cases e; exact hl
theorem hcells_len (A : List Hd) : (A.flatMap hcells).length = A.length * 4 := by
  induction A with
  | nil => rfl
  | cons x A ih => rw [List.flatMap_cons, List.length_append, ih, List.length_cons]; simp [hcells]; omega
set_option maxRecDepth 20000 in
set_option maxHeartbeats 2000000 in
theorem clone_84 (w : World) (la : Option Addr) (n c : Nat) (A : List Hd) (h : HeadsIn w la n A) (h0 : n ≠ 0) (hn : n ≤ 100000) :
    Calls Tryz.prog 84 #[.slice la n c] w fun e w' => ∃ a' c', e = .returned (.slice a' n c') ∧ w'.ownsRow w.heap.size 33 4 (.slice a' n c') n (A.flatMap hcells) ∧ Below w.heap.size w w' := by
  obtain ⟨g, o, rfl, hg, hc⟩ := h.2.resolve_left h0
  obtain ⟨i0, hi, hz0, hz1, hz2⟩ := info_parts Tryz.info33
  have hown0 : (w.alloc (.cells #[] 33)).ownsRow w.heap.size 33 4 (.slice (some ⟨w.heap.size, 0, none⟩) 0 0) 0 [] := World.ownsRow_made w #[] 0 (Nat.le_refl _) (by decide) rfl
  have HO := Lib.hid hown0
  have HN : Hid (∀ j u, (A.flatMap hcells)[j]? = some u → (w.alloc (.cells #[] 33)).cell? ((⟨g, o, none⟩ : Addr).add j) = some u) := Lib.hid (by
    intro j u hj
    have hjl := (List.getElem?_eq_some_iff.1 hj).1
    rw [hcells_len] at hjl
    obtain ⟨x, hx⟩ : ∃ x, A[j / 4]? = some x := ⟨_, List.getElem?_eq_getElem (by omega)⟩
    have hf := flat_at A (j / 4) (j % 4) x hx (by omega)
    rw [show j / 4 * 4 + j % 4 = j from by omega, hj] at hf
    have k := hc _ x hx
    rw [show ((⟨g, o, none⟩ : Addr).add j) = ⟨g, o + j, none⟩ from by unfold Addr.add; split <;> simp_all]
    refine (((Below.refl w.heap.size w).alloc (Nat.le_refl _) _).cell (p := ⟨g, o + j, none⟩) hg).trans ?_
    have e4 : j % 4 = 0 ∨ j % 4 = 1 ∨ j % 4 = 2 ∨ j % 4 = 3 := by omega
    rcases e4 with e | e | e | e
    · rw [e] at hf
      rw [show o + j = o + j / 4 * 4 from by omega, k.c0]; exact hf.symm
    · rw [e] at hf
      rw [show o + j = o + j / 4 * 4 + 1 from by omega, k.c1]; exact hf.symm
    · rw [e] at hf
      rw [show o + j = o + j / 4 * 4 + 2 from by omega, k.c2]; exact hf.symm
    · rw [e] at hf
      rw [show o + j = o + j / 4 * 4 + 3 from by omega, k.c3]; exact hf.symm)
  have HL : Hid ((A.flatMap hcells).length = n * 4) := Lib.hid (by rw [hcells_len, h.1])
  have HONE : Hid (∀ u ∈ A.flatMap hcells, u.oneCell' = true) := Lib.hid (by
    intro u hu
    obtain ⟨x, _, hx⟩ := List.mem_flatMap.1 hu
    simp only [hcells, List.mem_cons, List.not_mem_nil, or_false] at hx
    rcases hx with rfl | rfl | rfl | rfl <;> rfl)
  clear h hown0 hc hg h0
  have hq := Lib.run_eql_slice_nil (P := Tryz.prog) w 34 33 (some ⟨g, o, none⟩) n c 0 0 Tryz.underlying34
  simp only [Option.isNone] at hq
  go_enter Tryz.func84, Tryz.ntmps84
  go_wp2_with (at_builtin; refine wpList_append_own _ rfl _ _ 34 rfl w.heap.size 33 i0 (.agg #[.int .i64 0, .slice none 0 0, .slice none 0 0, .bool false]) 4 64 Tryz.underlying34 hi hz0 hz1 hz2 rfl (by decide) _ 0 _ rfl HO.out ⟨g, o, none⟩ n c (A.flatMap hcells) rfl HL.out HN.out HONE.out (by unfold maxLen; omega) (by omega) (by simp) ?_; intro v' w5 hown hgr hnil)
  go_ret
  obtain ⟨a', c', rfl⟩ := own_slice hown
  rw [Nat.zero_add] at hown
  simp only [List.nil_append] at hown
  exact ⟨a', c', by simp, hown, ((Below.refl _ _).alloc (Nat.le_refl _) _).grown hgr (by simp) (fun q hq => by cases hq; exact Nat.le_refl _)⟩
set_option maxRecDepth 20000 in
set_option maxHeartbeats 2000000 in
theorem clone_67 (w : World) (a : Option Addr) (n c : Nat) (XS : List Int) (h : IntsAt w a n XS) (hn : n ≤ 100000) :
    Calls Tryz.prog 67 #[.slice a n c] w fun e w' => ∃ a' c', e = .returned (.slice a' n c') ∧ w'.ownsRow w.heap.size 3 1 (.slice a' n c') n (XS.map (Value.int .i64)) ∧ (∀ ad, a' = some ad → w.heap.size ≤ ad.block) ∧ Below w.heap.size w w' := by
  cases a with
  | none =>
    have hn0 : n = 0 := h.2.elim id (fun ⟨g, o, e, _⟩ => by cases e)
    subst hn0
    have HH := Lib.hid h
    clear h
    have hq := Lib.run_eql_slice_nil (P := Tryz.prog) w 31 3 none 0 c 0 0 Tryz.underlying31
    simp only [Option.isNone] at hq
    go_enter Tryz.func67, Tryz.ntmps67
    go_wp2
    go_ret
    exact ⟨none, 0, rfl, (by have h0 : XS = [] := List.length_eq_zero_iff.1 HH.out.1.symm; rw [h0]; exact ⟨rfl, .inl ⟨rfl, rfl⟩⟩), fun _ e => (by cases e), Below.refl _ _⟩
  | some ad => exact (clone_45o w (some ad) n c XS h (fun e => by cases e) hn).mono (fun e w' ⟨a', c', h1, h2, h3, h4, h5⟩ => ⟨a', c', h1, h2, h4, h5⟩)
/-- the row of heads under way, in the asker's box. -/
structure RwS (w0 w : World) (R M dyn : Nat) (xa : Option Addr) (xc : Nat) (XS : List Hd) : Prop where
  below : Below w0.heap.size w0 w
  box : w.heap[R]? = some (.cells #[.slice xa XS.length xc, .int .i64 (dyn : Int), .map (some M), .slice none 0 0] 137 (0, 0))
  map : w.ownsMap Tryz.prog 141 (plainElem (H := Unit) Tryz.prog 4) M 0 (.map [])
  row : w.ownsRow w0.heap.size 33 4 (.slice xa XS.length xc) XS.length (XS.flatMap hcells)
  heads : ∀ x ∈ XS, HdOk w x
  sep : ∀ x ∈ XS, ∀ ad, blkOf x ad → ad.block ≠ R ∧ ad.block ≠ M ∧ ad.block < w.heap.size ∧ (Value.slice xa XS.length xc).ownBlock ≠ some ad.block
  geR : w0.heap.size ≤ R
  geM : w0.heap.size ≤ M
section
variable {w0 w w' : World} {R M dyn : Nat} {xa : Option Addr} {xc : Nat} {XS : List Hd}
theorem RwS.ltR (h : RwS w0 w R M dyn xa xc XS) : R < w.heap.size := (Array.getElem?_eq_some_iff.1 h.box).1
theorem RwS.ltM (h : RwS w0 w R M dyn xa xc XS) : M < w.heap.size := h.map.lt
theorem RwS.RM (h : RwS w0 w R M dyn xa xc XS) : R ≠ M := fun e => by
  have h1 := h.box
  obtain ⟨es, cl, hm, _⟩ := h.map
  rw [e, hm] at h1
  cases h1
theorem RwS.ownR (h : RwS w0 w R M dyn xa xc XS) : (Value.slice xa XS.length xc).ownBlock ≠ some R := own_boxP h.row h.box (by decide)
theorem RwS.ownM (h : RwS w0 w R M dyn xa xc XS) : (Value.slice xa XS.length xc).ownBlock ≠ some M := fun e => by
  obtain ⟨es, cl, hm, _⟩ := h.map
  rcases h.row.2 with ⟨h1, -⟩ | ⟨g, cap, cur, h1, e2, e3, -⟩
  · rw [h1] at e; cases e
  · rw [h1] at e
    cases e
    rw [hm] at e3
    cases e3
theorem RwS.on (h : RwS w0 w R M dyn xa xc XS) (hb : Below w.heap.size w w') : RwS w0 w' R M dyn xa xc XS where
  below := h.below.trans (hb.mono h.below.size)
  box := (hb.block R h.ltR).trans h.box
  map := h.map.kept (row := none) ⟨hb.os, hb.tape, hb.output, hb.size, fun j hj _ => hb.block j hj⟩ (by simp)
  row := ownsRow_mono h.row (fun g hg => hb.block g (h.row.lt g hg).2)
  heads x hx := (h.heads x hx).on hb
  sep x hx ad e := by
    obtain ⟨h1, h2, h3, h4⟩ := h.sep x hx ad e
    exact ⟨h1, h2, Nat.lt_of_lt_of_le h3 hb.size, h4⟩
  geR := h.geR
  geM := h.geM
theorem RwS.start (w : World) (dyn : Nat) : RwS w ((w.alloc (.map #[] 0)).alloc (.cells #[.slice none 0 0, .int .i64 (dyn : Int), .map (some w.heap.size), .slice none 0 0] 137)) (w.heap.size + 1) w.heap.size dyn none 0 [] where
  below := ((Below.refl _ _).alloc (Nat.le_refl _) _).alloc (by simp) _
  box := by
    have := heap_alloc_new (w.alloc (.map #[] 0)) (.cells #[.slice none 0 0, .int .i64 (dyn : Int), .map (some w.heap.size), .slice none 0 0] 137)
    simpa using this
  map := (World.ownsMap_made w Tryz.prog 141 _).alloc _
  row := World.ownsRow_nil _ _ _ _
  heads x hx := by cases hx
  sep x hx := by cases hx
  geR := by omega
  geM := Nat.le_refl _
/-- the first graph's heads. -/
theorem RwS.cloned (h : RwS w0 w R M dyn none 0 []) (hb : Below w.heap.size w w') {A : List Hd} {a' : Option Addr} {c' : Nat} (hown : w'.ownsRow w.heap.size 33 4 (.slice a' A.length c') A.length (A.flatMap hcells)) (hA : ∀ x ∈ A, HdOk w0 x) : RwS w0 (w'.setCell ⟨R, 0, none⟩ (.slice a' A.length c')) R M dyn a' c' A := by
  have hR := h.ltR
  have hM := h.ltM
  have hgR := h.geR
  have hgM := h.geM
  have hbs := hb.size
  have hb0 := h.below.size
  have hR' := (hb.block R hR).trans h.box
  have hown' : ∀ g, (Value.slice a' A.length c').ownBlock = some g → w.heap.size ≤ g ∧ g < w'.heap.size := fun g e => hown.lt g e
  have hbb : Below w0.heap.size w0 (w'.setCell ⟨R, 0, none⟩ (.slice a' A.length c')) := by
    have h1 := h.below.trans (hb.mono hb0)
    exact ⟨h1.os, h1.tape, h1.output, by simpa using h1.size, fun b hb2 => by
      rw [Below.heap_setCell _ _ _ _ (show b ≠ R by omega)]
      exact h1.block b hb2⟩
  exact {
    below := hbb
    box := by
      rw [heap_setCell_same _ R 0 _ 137 _ hR']
      rfl
    map := (h.map.kept (row := none) ⟨hb.os, hb.tape, hb.output, hb.size, fun j hj _ => hb.block j hj⟩ (by simp)).setCell (a := ⟨R, 0, none⟩) (fun e => h.RM e.symm) _
    row := own_move hown (fun g e => ⟨Below.heap_setCell _ _ _ _ (show g ≠ R by have := hown' g e; omega), by have := hown' g e; omega⟩)
    heads := fun x hx => (hA x hx).on hbb
    sep := fun x hx ad e => by
      have h1 := blk_lt (hA x hx) e
      exact ⟨by omega, by omega, by simp; omega, fun e2 => by have := hown' _ e2; omega⟩
    geR := hgR
    geM := hgM }
/-- a head more. -/
theorem RwS.step (h : RwS w0 w R M dyn xa xc XS) {x : Hd} {wd : World} (hd : Below w.heap.size w wd) {o : Obj} {w6 : World} {g6 c6 : Nat}
    (hx : HdOk wd x) (hxs : ∀ ad, blkOf x ad → ad.block ≠ R ∧ ad.block ≠ M ∧ (Value.slice xa XS.length xc).ownBlock ≠ some ad.block ∧ ad.block < wd.heap.size)
    (hg : (wd.alloc o).grownBy w6 (Value.slice xa XS.length xc).ownBlock) (hown : w6.ownsRow w0.heap.size 33 4 (.slice (some ⟨g6, 0, none⟩) (XS.length + 1) c6) (XS.length + 1) (XS.flatMap hcells ++ hcells x)) (hw : (Value.slice xa XS.length xc).ownBlock = some g6 ∨ g6 = (wd.alloc o).heap.size) :
    RwS w0 (w6.setCell ⟨R, 0, none⟩ (.slice (some ⟨g6, 0, none⟩) (XS.length + 1) c6)) R M dyn (some ⟨g6, 0, none⟩) c6 (XS ++ [x]) ∧ w6.heap[R]? = some (.cells #[.slice xa XS.length xc, .int .i64 (dyn : Int), .map (some M), .slice none 0 0] 137 (0, 0)) := by
  have hbd : Below w.heap.size w (wd.alloc o) := hd.alloc hd.size _
  have hsd : (wd.alloc o).heap.size = wd.heap.size + 1 := by simp
  have hds := hd.size
  have hRl := h.ltR
  have hMl := h.ltM
  have hlo : ∀ b, b < w.heap.size → (Value.slice xa XS.length xc).ownBlock ≠ some b → w6.heap[b]? = w.heap[b]? := fun b hb e => by
    rw [hg.block b (by omega) (fun e' => e e'.symm)]
    exact hbd.block b hb
  have hR6 := (hlo R hRl h.ownR).trans h.box
  have hsz : w.heap.size ≤ w6.heap.size := Nat.le_trans hbd.size hg.size
  have hgs := hg.size
  have hkeep : ∀ b, b < w.heap.size → b ≠ R → (Value.slice xa XS.length xc).ownBlock ≠ some b → (w6.setCell ⟨R, 0, none⟩ (.slice (some ⟨g6, 0, none⟩) (XS.length + 1) c6)).heap[b]? = w.heap[b]? := fun b hb h1 h2 => by
    rw [Below.heap_setCell _ _ _ _ h1]
    exact hlo b hb h2
  have hgb : ∀ b, b < w.heap.size → (Value.slice xa XS.length xc).ownBlock ≠ some b → g6 ≠ b := fun b hb hne e => by
    rcases hw with r | r
    · exact hne (by rw [r, e])
    · omega
  have howl : ∀ g, (Value.slice xa XS.length xc).ownBlock = some g → w0.heap.size ≤ g ∧ g < w.heap.size := fun g e => h.row.lt g e
  have hbs := h.below.size
  have e1 : (XS ++ [x]).length = XS.length + 1 := by simp
  refine ⟨{
      below := ⟨hg.os.trans (hbd.os.trans h.below.os), hg.tape.trans (hbd.tape.trans h.below.tape), hg.output.trans (hbd.output.trans h.below.output), by simpa using Nat.le_trans hbs hsz, fun b hb => by
        rw [hkeep b (by omega) (fun e => by have := h.geR; omega) (fun e => by have := howl _ e; omega)]
        exact h.below.block b hb⟩
      box := by
        rw [e1, heap_setCell_same _ R 0 _ 137 _ hR6]
        rfl
      map := ((h.map.kept (row := none) ⟨hbd.os, hbd.tape, hbd.output, hbd.size, fun j hj _ => hbd.block j hj⟩ (by simp)).kept hg (fun e => h.ownM e.symm)).setCell (a := ⟨R, 0, none⟩) (fun e => h.RM e.symm) _
      row := by
        rw [e1, List.flatMap_append]
        have := ownsRow_mono (w' := w6.setCell ⟨R, 0, none⟩ (.slice (some ⟨g6, 0, none⟩) (XS.length + 1) c6)) hown (fun g e => by
          cases e
          exact Below.heap_setCell _ _ _ _ (hgb R hRl h.ownR))
        simpa using this
      heads := fun z hz => by
        rcases List.mem_append.1 hz with r | r
        · exact hd_kept (h.heads z r) (fun ad e _ => by obtain ⟨s1, s2, s3, s4⟩ := h.sep z r ad e; exact hkeep _ s3 s1 s4) (by simpa using hsz)
        · obtain rfl : z = x := by simpa using r
          refine hd_kept hx (fun ad e hl => ?_) (by simp; omega)
          obtain ⟨s1, s2, s3, s4⟩ := hxs ad e
          rw [Below.heap_setCell _ _ _ _ s1, hg.block _ (by omega) (fun e2 => s3 e2.symm), Below.heap_alloc _ _ _ s4]
      sep := fun z hz ad e => by
        rcases List.mem_append.1 hz with r | r
        · obtain ⟨s1, s2, s3, s4⟩ := h.sep z r ad e
          exact ⟨s1, s2, by simp; omega, fun e2 => hgb _ s3 s4 (by simpa [Value.ownBlock] using e2)⟩
        · obtain rfl : z = x := by simpa using r
          obtain ⟨s1, s2, s3, s4⟩ := hxs ad e
          refine ⟨s1, s2, by simp; omega, fun e2 => ?_⟩
          have e3 : g6 = ad.block := by simpa [Value.ownBlock] using e2
          rcases hw with q | q
          · exact s3 (by rw [q, e3])
          · omega
      geR := h.geR
      geM := h.geM }, hR6⟩
theorem RwS.heads_in (h : RwS w0 w R M dyn xa xc XS) : ∀ w', Lk w R M w' → HeadsIn w' xa XS.length XS := by
  intro w' hk
  refine ⟨rfl, ?_⟩
  by_cases h0 : XS.length = 0
  · exact .inl h0
  · obtain ⟨g, cap, e, h2, h3⟩ := h.row.form (by omega)
    injection e with e1 e2 e3
    subst e1
    have hgR : g ≠ R := fun e => h.ownR (by rw [← e]; rfl)
    have hgM : g ≠ M := fun e => h.ownM (by rw [← e]; rfl)
    have hblk := hk.2 g h3 hgR hgM
    refine .inr ⟨g, 0, rfl, Nat.lt_of_lt_of_le h3 hk.1, fun i x hi => ?_⟩
    have hil := (List.getElem?_eq_some_iff.1 hi).1
    have hc : ∀ j, j < 4 → w'.cell? ⟨g, 0 + i * 4 + j, none⟩ = (hcells x)[j]? := fun j hj => by
      have h9 : w'.cell? ⟨g, 0 + i * 4 + j, none⟩ = w.cell? ⟨g, 0 + i * 4 + j, none⟩ := World.cell?_of_block (w := w) (a := ⟨g, 0 + i * 4 + j, none⟩) hblk
      rw [h9, Nat.zero_add, h.row.cellAt (i * 4 + j) (by omega)]
      exact flat_at XS i j x hi hj
    exact ⟨hc 0 (by omega), hc 1 (by omega), hc 2 (by omega), hc 3 (by omega), hd_kept (h.heads x (List.mem_of_getElem? hi)) (fun ad e hl => by
      obtain ⟨s1, s2, s3, s4⟩ := h.sep x (List.mem_of_getElem? hi) ad e
      exact hk.2 _ s3 s1 s2) hk.1⟩
/-- the asker at its birth. -/
theorem RwS.asker (h : RwS w0 w R M dyn xa xc XS) : AkT akA w0 w R M (.slice xa XS.length xc) (.int .i64 (dyn : Int)) w ([], []) :=
  ⟨WkN.start, .map [], none, 0, {
    below := h.below
    lsize := Nat.le_refl _
    keep := fun b _ _ _ => rfl
    box := h.box
    map := h.map
    mapb := SetP.nil
    row := World.ownsRow_nil _ _ _ _
    geR := h.geR
    geM := h.geM
    lR := h.ltR
    lM := h.ltM
    le := h.below.size }⟩
end
/-- heads told from n on. -/
theorem row_same {A B YS : List Hd} (hl : YS.length = B.length) (hm : ∀ (i : Nat) x y, B[i]? = some x → YS[i]? = some y → Moved A.length x y) (okB : OkHeads B) : SameH (A ++ YS ++ [dynH]) (rowA A B) := by
  refine ⟨by simp [rowA, two, hl], fun i h h' h1 h2 => ?_⟩
  unfold rowA two at h2
  by_cases hi : i < A.length
  · rw [List.append_assoc, List.getElem?_append_left hi] at h1 h2
    rw [h1] at h2
    cases h2
    exact ⟨rfl, rfl, rfl, rfl⟩
  · by_cases hj : i < A.length + B.length
    · rw [List.getElem?_append_left (by simp; omega), List.getElem?_append_right (by omega)] at h1 h2
      rw [List.getElem?_map] at h2
      obtain ⟨x, hx⟩ : ∃ x, B[i - A.length]? = some x := ⟨_, List.getElem?_eq_getElem (by omega)⟩
      rw [hx] at h2
      cases h2
      obtain ⟨m1, m2, m3, m4⟩ := hm _ x h hx h1
      exact ⟨m1, m3, m4, m2⟩
    · rw [List.getElem?_append_right (by simp; omega)] at h1 h2
      have e1 : i - (A ++ YS).length = i - (A ++ B.map (shH A.length)).length := by simp [hl]
      rw [e1] at h1
      rw [h1] at h2
      cases h2
      exact ⟨rfl, rfl, rfl, rfl⟩
theorem row_ok {A B : List Hd} (hA : OkHeads A) (hB : OkHeads B) : OkHeads (rowA A B) := fun x hx => by
  have hl : (rowA A B).length = (two A B).length + 1 := by simp [rowA]
  have h2 := two_ok hA hB
  rcases List.mem_append.1 hx with h | h
  · refine headB_move (h2 x h) rfl (fun k hk => ?_)
    obtain ⟨i, hi⟩ := List.getElem?_of_mem h
    have := ok_kids h2 hi k hk
    rw [hl]
    omega
  · obtain rfl : x = dynH := by simpa using h
    rw [hl]
    unfold headB
    simp [dynH, typB]
    rfl
theorem SameH.ok {L L' : List Hd} (s : SameH L L') (h : OkHeads L') : OkHeads L := fun x hx => by
  obtain ⟨i, hi⟩ := List.getElem?_of_mem hx
  rcases s.at i with ⟨g1, _⟩ | ⟨a, b, g1, g2, e1, e2, e3, e4⟩
  · rw [g1] at hi; cases hi
  · rw [g1] at hi
    cases hi
    rw [e1, e2, e3, e4, s.1]
    exact h b (List.mem_of_getElem? g2)
theorem asks_mem {α : Type} [DecidableEq α] : ∀ (qs : List α) (SL : List α × List α), ∀ p ∈ (qs.foldl askS SL).2, p ∈ SL.2 ∨ p ∈ qs
  | [], SL, p, h => .inl h
  | q :: qs, SL, p, h => by
    rcases asks_mem qs (askS SL q) p h with h1 | h1
    · unfold askS at h1
      by_cases hq : q ∈ SL.1
      · rw [if_pos hq] at h1; exact .inl h1
      · rw [if_neg hq] at h1
        rcases List.mem_append.1 h1 with h2 | h2
        · exact .inl h2
        · simp at h2; exact .inr (by simp [h2])
    · exact .inr (List.mem_cons_of_mem _ h1)
/-- what is asked lies in the row. -/
theorem ask_range {L : List Hd} {dyn N : Nat} {h k : Hd} (okh : headB h.kd h.op (N : Int) h.NS h.KS = true) (okk : headB k.kd k.op (N : Int) k.NS k.KS = true) (hd : dyn < N) {m : List PrA} (e : askA L dyn h k = some m) : ∀ q ∈ m, q.1 < N ∧ q.2 < N := by
  obtain ⟨a1, a2, a3, a4, a5, a6, a7⟩ := head_kind okh
  obtain ⟨b1, b2, b3, b4, b5, b6, b7⟩ := head_kind okk
  have hg : ∀ (K : List Int), (∀ k ∈ K, 0 ≤ k ∧ k < (N : Int)) → ∀ i, (K.getD i 0).toNat < N := by
    intro K hK i
    rw [List.getD_eq_getElem?_getD]
    cases h : K[i]? with
    | none => simp; omega
    | some v => have := hK v (List.mem_of_getElem? h); simp; omega
  have hm : ∀ (K : List Int), (∀ k ∈ K, 0 ≤ k ∧ k < (N : Int)) → ∀ x ∈ K, x.toNat < N := fun K hK x hx => by have := hK x hx; omega
  have hf : ∀ s, 0 ≤ findK h.NS h.KS s → (h.kd = 8 ∨ h.kd = 9) → (findK h.NS h.KS s).toNat < N := fun s h0 hk => by
    obtain ⟨p, x, _, h2, h3⟩ := find_mem (a4 hk) h0
    have := a3 x (List.mem_of_getElem? h2)
    omega
  unfold askA at e
  split at e
  · cases e; intro q hq; cases hq
  split at e
  · cases e
  split at e
  · split at e
    · cases e
      intro q hq
      simp only [List.mem_cons, List.not_mem_nil, or_false] at hq
      rcases hq with rfl | rfl
      · exact ⟨hg _ b3 _, hd⟩
      · exact ⟨hd, hg _ b3 _⟩
    split at e
    · cases e
      intro q hq
      obtain ⟨x, hx, rfl⟩ := List.mem_map.1 hq
      exact ⟨hd, hm _ b3 x hx⟩
    · cases e; intro q hq; cases hq
  split at e
  · split at e
    · cases e
      intro q hq
      simp only [List.mem_cons, List.not_mem_nil, or_false] at hq
      rcases hq with rfl | rfl
      · exact ⟨hd, hg _ a3 _⟩
      · exact ⟨hg _ a3 _, hd⟩
    split at e
    · cases e
      intro q hq
      obtain ⟨x, hx, rfl⟩ := List.mem_map.1 hq
      exact ⟨hm _ a3 x hx, hd⟩
    split at e
    · split at e
      · cases e
      · cases e
        intro q hq
        obtain ⟨x, hx, rfl⟩ := List.mem_map.1 hq
        exact ⟨hm _ a3 x hx, hd⟩
    · cases e; intro q hq; cases hq
  split at e
  · cases e
  split at e
  · cases e
    intro q hq
    simp only [List.mem_cons, List.not_mem_nil, or_false] at hq
    rcases hq with rfl | rfl
    · exact ⟨hg _ b3 _, hg _ a3 _⟩
    · exact ⟨hg _ a3 _, hg _ b3 _⟩
  split at e
  · rename_i h4 _ _ _ h8
    unfold recA at e
    split at e
    · rename_i hall
      cases e
      intro q hq
      obtain ⟨e1, he, rfl⟩ := List.mem_map.1 hq
      have h1 := List.all_eq_true.1 hall e1 he
      have h2 : 0 ≤ kidD dyn h e1.1 := by simpa using h1
      unfold kidD at h2
      unfold kidD
      simp only
      split at h2
      · rename_i h4'
        rw [if_pos h4']
        exact ⟨by omega, hm _ b3 _ (List.of_mem_zip he).2⟩
      · rename_i h4'
        rw [if_neg h4']
        exact ⟨hf _ h2 (.inl h8), hm _ b3 _ (List.of_mem_zip he).2⟩
    · cases e
  split at e
  · rename_i h9
    unfold varA at e
    split at e
    · cases e
      intro q hq
      obtain ⟨e1, he, h1⟩ := List.mem_filterMap.1 hq
      split at h1
      · rename_i h2
        cases h1
        exact ⟨hf _ h2 (.inr h9), hm _ b3 _ (List.of_mem_zip he).2⟩
      · cases h1
    · cases e
  · cases e; intro q hq; cases hq
theorem stp_range {L : List Hd} {dyn N : Nat} (hok : OkHeads L) (hN : N = L.length) (hd : dyn < N) {p : PrA} {m : List PrA} (e : stpA L dyn p = some m) : ∀ q ∈ m, q.1 < N ∧ q.2 < N := by
  unfold stpA at e
  split at e
  · rename_i h k h1 h2
    have g1 := hok _ (List.mem_of_getElem? h1)
    have g2 := hok _ (List.mem_of_getElem? h2)
    rw [← hN] at g1 g2
    exact ask_range g1 g2 hd e
  · cases e
end Go.Proofs.YtifilhkkgkihpaaGreatDoor
namespace Go.Proofs.YtifilhkkgkihpaaGreatDoor
open Go.RowKit
def MayPost (w : World) (P : Prop) (e : Ending) (w' : World) : Prop := ∃ b : Bool, e = .returned (.bool b) ∧ (b = true ↔ P) ∧ Below w.heap.size w w'
theorem nil_or_snoc {α : Type} (l : List α) : l = [] ∨ ∃ L x, l = L ++ [x] := by
  rcases List.eq_nil_or_concat l with h | ⟨L, x, h⟩
  · exact .inl h
  · exact .inr ⟨L, x, by rw [h, List.concat_eq_append]⟩
theorem flat_pc (L : List PrA) (x : PrA) (t : Nat) : ((L ++ [x]).flatMap pcA)[L.length * 2 + t]? = (pcA x)[t]? := by
  have hl : (L.flatMap pcA).length = L.length * 2 := by
    induction L with
    | nil => rfl
    | cons y L ih => rw [List.flatMap_cons, List.length_append, ih]; simp [pcA]; omega
  rw [List.flatMap_append, List.getElem?_append_right (by omega), hl]
  simp
/-- behind the row: the loop over what is left. -/
theorem wrk_fin {F : PrA → Option (List PrA)} {root x : PrA} {S L : List PrA} (h : Wrk F root S (L ++ [x]) none) {m : List PrA} (hm : F x = some m) {qs : List PrA} (h1 : ∀ q ∈ qs, q ∈ m) (h2 : ∀ q ∈ m, q ∈ qs) : Wrk F root (qs.foldl askS (S, L)).1 (qs.foldl askS (S, L)).2 none :=
  (Wrk.asks hm qs [] (S, L) h.take h1).fin hm (fun q hq => by simpa using h2 q hq)
set_option maxRecDepth 20000 in
set_option maxHeartbeats 16000000 in
theorem may_ok (w : World) (la : Option Addr) (ln lc : Nat) (A : List Hd) (hA : HeadsIn w la ln A) (ra : Nat) (lb : Option Addr) (lm ld : Nat) (B : List Hd) (hB : HeadsIn w lb lm B) (rb : Nat) (hln : ln ≤ 100) (hlm : lm ≤ 100) (hga : graphB (ra : Int) A = true) (hgb : graphB (rb : Int) B = true) :
    Calls Tryz.prog 52 #[.agg #[.slice la ln lc, .int .i64 (ra : Int)], .agg #[.slice lb lm ld, .int .i64 (rb : Int)]] w (MayPost w (MayA A B ra rb)) := by
  obtain rfl : ln = A.length := hA.1
  obtain rfl : lm = B.length := hB.1
  have okA := (OkHeads.of_graph hga).1
  have okB := (OkHeads.of_graph hgb).1
  have hra : ra < A.length := by have := (OkHeads.of_graph hga).2.2; omega
  have hrb : rb < B.length := by have := (OkHeads.of_graph hgb).2.2; omega
  have HRAB := Lib.hid (And.intro hra hrb)
  have HOA := Lib.hid okA
  have HOB := Lib.hid okB
  have HKB := Lib.hid (fun x (hx : x ∈ B) => (head_kind (okB x hx)).2.2.1)
  have H2 := Lib.hid (two_box w #[.slice la A.length lc, .int .i64 (ra : Int)] #[.slice lb B.length ld, .int .i64 (rb : Int)] 36)
  have HCA := Lib.hid (check_any _ la A.length lc (ra : Int) A (hA.on H2.out.2.2) (by unfold maxLen; omega))
  have HCB : Hid (∀ w', Below w.heap.size w w' → Calls Tryz.prog 38 #[.agg #[.slice lb B.length ld, .int .i64 (rb : Int)]] w' (ErrPost w' (graphB (rb : Int) B))) := Lib.hid (fun w' hb => check_any w' lb B.length ld (rb : Int) B (hB.on hb) (by unfold maxLen; omega))
  rw [hga] at HCA
  rw [hgb] at HCB
  have HAA := Lib.hid hA
  have HBB := Lib.hid hB
  have hmm := @run_makeMap Tryz.prog
  have hra2 : (ra : Int) < A.length := by omega
  have hrb2 : (rb : Int) < B.length := by omega
  clear hA hB hga hgb okA okB
  go_enter Tryz.func52, Tryz.ntmps52
  go_upto_region 1 with (fail)
  obtain ⟨w2, hw2⟩ : ∃ w2, ((w.alloc (.cells #[.slice la A.length lc, .int .i64 (ra : Int)] 36)).alloc (.cells #[.slice lb B.length ld, .int .i64 (rb : Int)] 36)) = w2 := ⟨_, rfl⟩
  rw [hw2] at H2 HCA ⊢
  clear hw2
  have HSZ : Hid (w.heap.size + 1 < w2.heap.size) := Lib.hid (Array.getElem?_eq_some_iff.1 H2.out.2.1).1
  have a0 : w2.cell? ⟨w.heap.size, 0, none⟩ = some (.slice la A.length lc) := (by rw [cell_of_row _ _ 0 _ 36 _ H2.out.1]; rfl)
  have a1 : w2.cell? ⟨w.heap.size, 1, none⟩ = some (.int .i64 (ra : Int)) := (by rw [cell_of_row _ _ 1 _ 36 _ H2.out.1]; rfl)
  go_upto_region 3 with (first | (go_at_call 38; (with_reducible refine HCA.out.mono ?_); rintro e w3 ⟨rfl, hb3⟩; have HB3 := Lib.hid (H2.out.2.2.trans (hb3.mono H2.out.2.2.size)); have HX3 := Lib.hid ((hb3.block _ HSZ.out).trans H2.out.2.1); have HX3a := Lib.hid ((hb3.block _ (Nat.lt_of_succ_lt HSZ.out)).trans H2.out.1); have b0 : w3.cell? ⟨w.heap.size + 1, 0, none⟩ = some (.slice lb B.length ld) := (by rw [cell_of_row _ _ 0 _ 36 _ HX3.out]; rfl); have b1 : w3.cell? ⟨w.heap.size + 1, 1, none⟩ = some (.int .i64 (rb : Int)) := (by rw [cell_of_row _ _ 1 _ 36 _ HX3.out]; rfl); clear hb3) | (go_at_call 38; (with_reducible refine (HCB.out _ HB3.out).mono ?_); rintro e w4 ⟨rfl, hb4⟩; have HB4 := Lib.hid (HB3.out.trans (hb4.mono HB3.out.size)); have HX4 := Lib.hid ((hb4.block _ (Array.getElem?_eq_some_iff.1 HX3.out).1).trans HX3.out); have HX4a := Lib.hid ((hb4.block _ (Array.getElem?_eq_some_iff.1 HX3a.out).1).trans HX3a.out); clear hb4))
  clear a0 a1 b0 b1
  have a0 : w4.cell? ⟨w.heap.size, 0, none⟩ = some (.slice la A.length lc) := (by rw [cell_of_row _ _ 0 _ 36 _ HX4a.out]; rfl)
  have b0 : w4.cell? ⟨w.heap.size + 1, 0, none⟩ = some (.slice lb B.length ld) := (by rw [cell_of_row _ _ 0 _ 36 _ HX4.out]; rfl)
  have HR0 := Lib.hid (RwS.start w4 (A.length + B.length))
  rw [show ((A.length + B.length : Nat) : Int) = (A.length : Int) + (B.length : Int) from by omega] at HR0
  have HSZ4 : Hid (w.heap.size < w4.heap.size ∧ w.heap.size + 1 < w4.heap.size) := Lib.hid ⟨(Array.getElem?_eq_some_iff.1 HX4a.out).1, (Array.getElem?_eq_some_iff.1 HX4.out).1⟩
  have hln2 : (A.length : Int) ≤ 100 := by omega
  have hlm2 : (B.length : Int) ≤ 100 := by omega
  go_upto_region 4 with (fail)
  obtain ⟨w5, hw5⟩ : ∃ w5, ((w4.alloc (.map #[] 0)).alloc (.cells #[.slice none 0 0, .int .i64 ((A.length : Int) + (B.length : Int)), .map (some w4.heap.size), .slice none 0 0] 137)) = w5 := ⟨_, rfl⟩
  rw [hw5] at HR0 ⊢
  clear hw5 hmm a0 b0
  obtain ⟨M, hM⟩ : ∃ M, w4.heap.size = M := ⟨_, rfl⟩
  have HM := Lib.hid hM
  rw [hM] at HR0 ⊢
  obtain ⟨R, hR⟩ : ∃ R, M + 1 = R := ⟨_, rfl⟩
  rw [hR] at HR0 ⊢
  clear hM hR
  obtain ⟨dyn, hdyn⟩ : ∃ dyn, A.length + B.length = dyn := ⟨_, rfl⟩
  rw [hdyn] at HR0
  have HDYN := Lib.hid hdyn
  clear hdyn
  have HBOX : Hid (∀ w', Below w4.heap.size w4 w' → w'.heap[w.heap.size]? = some (.cells #[.slice la A.length lc, .int .i64 (ra : Int)] 36 (0, 0)) ∧ w'.heap[w.heap.size + 1]? = some (.cells #[.slice lb B.length ld, .int .i64 (rb : Int)] 36 (0, 0))) := Lib.hid (fun w' hb => ⟨(hb.block _ HSZ4.out.1).trans HX4a.out, (hb.block _ HSZ4.out.2).trans HX4.out⟩)
  have HA5 := Lib.hid (HBOX.out w5 HR0.out.below)
  have a0 : w5.cell? ⟨w.heap.size, 0, none⟩ = some (.slice la A.length lc) := (by rw [cell_of_row _ _ 0 _ 36 _ HA5.out.1]; rfl)
  have HBW5 : Hid (Below w.heap.size w w5) := Lib.hid (HB4.out.trans (HR0.out.below.mono HB4.out.size))
  have HCL := Lib.hid (clone_84 w5 la A.length lc A (HAA.out.on HBW5.out) (by omega) (by omega))
  go_upto_region 5 with (go_at_call 84; (with_reducible refine HCL.out.mono ?_); rintro e w6 ⟨a6, c6, rfl, ho6, hb6⟩; have HO6 := Lib.hid ho6; have HB6 := Lib.hid hb6; have HX6 := Lib.hid ((hb6.block _ HR0.out.ltR).trans HR0.out.box); have q0 : w6.cell? ⟨R, 0, none⟩ = some (.slice none 0 0) := (by rw [cell_of_row _ _ 0 _ 137 _ HX6.out]; rfl); have p0 : w6.frozen? ⟨R, 0, none⟩ = false := frozen_of_row _ _ 0 _ 137 HX6.out; have o0 : R < w6.heap.size := (Array.getElem?_eq_some_iff.1 HX6.out).1; clear ho6 hb6)
  have HR1 := Lib.hid (HR0.out.cloned HB6.out HO6.out (fun x hx => by
    obtain ⟨i, hi⟩ := List.getElem?_of_mem hx
    exact (HAA.out.on HB4.out).ok hi))
  obtain ⟨w7, hw7⟩ : ∃ w7, w6.setCell ⟨R, 0, none⟩ (.slice a6 A.length c6) = w7 := ⟨_, rfl⟩
  rw [hw7] at HR1 ⊢
  clear hw7 q0 p0 o0 a0
  have HA7 := Lib.hid (HBOX.out w7 HR1.out.below)
  have b0 : w7.cell? ⟨w.heap.size + 1, 0, none⟩ = some (.slice lb B.length ld) := (by rw [cell_of_row _ _ 0 _ 36 _ HA7.out.2]; rfl)
  go_upto_region 6 with (fail)
  clear b0
  go_loopw [37] (fun s37 wr => ∃ (YS : List Hd) (xa : Option Addr) (xc : Nat), s37 = .int .i64 (YS.length : Int) ∧ Hid (YS.length ≤ B.length) ∧ Hid (RwS w4 wr R M dyn xa xc (A ++ YS)) ∧ Hid (∀ (i : Nat) x y, B[i]? = some x → YS[i]? = some y → Moved A.length x y)) (fun s37 _ => B.length - (intOf s37).toNat)
  case atStart => exact ⟨[], a6, c6, rfl, Lib.hid (Nat.zero_le _), Lib.hid (by rw [List.append_nil]; exact HR1.out), Lib.hid (fun i x y _ h => by simp at h)⟩
  case round =>
    clear HR1 HR0 HCL HO6 HB6 HX6
    obtain ⟨YS, xa, xc, rfl, HYL, HG, HMV⟩ := hrel
    obtain ⟨wi, rfl⟩ : ∃ wi : World, wi = wr := ⟨_, rfl⟩
    have hyl : YS.length ≤ B.length := HYL.out
    have hwy : IntKind.i64.wrap ((YS.length : Int) + 1) = (YS.length : Int) + 1 := by rw [IntKind.wrap_i64]; omega
    have HAI := Lib.hid (HBOX.out wi HG.out.below)
    by_cases hk : YS.length < B.length
    · have hk2 : (YS.length : Int) < B.length := by omega
      obtain ⟨x, hx⟩ : ∃ x, B[YS.length]? = some x := ⟨_, List.getElem?_eq_getElem hk⟩
      have HX := Lib.hid hx
      obtain ⟨gq, oq, eq, hgq, hcq⟩ := (HBB.out.on (HB4.out.trans (HG.out.below.mono HB4.out.size))).2.resolve_left (by omega)
      have hin := hcq _ _ hx
      have HIN := Lib.hid hin.ok
      have HXW : Hid (HdOk w4 x) := Lib.hid ((HBB.out.on HB4.out).ok hx)
      have HKX := Lib.hid (HKB.out x (List.mem_of_getElem? hx))
      have b0 : wi.cell? ⟨gq, oq + YS.length * 4, none⟩ = some (.int .i64 x.kd) := hin.c0
      have b1 : wi.cell? ⟨gq, oq + YS.length * 4 + 1, none⟩ = some (.slice x.na x.nn x.nc) := hin.c1
      have b2 : wi.cell? ⟨gq, oq + YS.length * 4 + 2, none⟩ = some (.slice x.ka x.kn x.kc) := hin.c2
      have b3 : wi.cell? ⟨gq, oq + YS.length * 4 + 3, none⟩ = some (.bool x.op) := hin.c3
      clear hin hx hcq hgq
      subst eq
      have HY : Hid ((wi.alloc (.cells #[.int .i64 x.kd, .slice x.na x.nn x.nc, .slice x.ka x.kn x.kc, .bool x.op] 33)).heap[wi.heap.size]? = some (.cells #[.int .i64 x.kd, .slice x.na x.nn x.nc, .slice x.ka x.kn x.kc, .bool x.op] 33 (0, 0))) := Lib.hid (heap_alloc_new wi _)
      have HBY : Hid (Below wi.heap.size wi (wi.alloc (.cells #[.int .i64 x.kd, .slice x.na x.nn x.nc, .slice x.ka x.kn x.kc, .bool x.op] 33))) := Lib.hid ((Below.refl _ _).alloc (Nat.le_refl _) _)
      go_upto_region 8 with (fail)
      clear b0 b1 b2 b3
      obtain ⟨w6, hw6⟩ : ∃ w6, wi.alloc (.cells #[.int .i64 x.kd, .slice x.na x.nn x.nc, .slice x.ka x.kn x.kc, .bool x.op] 33) = w6 := ⟨_, rfl⟩
      rw [hw6] at HY HBY ⊢
      clear hw6
      have HYL2 : Hid (wi.heap.size < w6.heap.size) := Lib.hid (Array.getElem?_eq_some_iff.1 HY.out).1
      have c2 : w6.cell? ⟨wi.heap.size, 2, none⟩ = some (.slice x.ka x.kn x.kc) := (by rw [cell_of_row _ _ 2 _ 33 _ HY.out]; rfl)
      have HCN := Lib.hid (clone_67 w6 x.ka x.kn x.kc x.KS (HIN.out.on HBY.out).kids (by have := HIN.out.knb; omega))
      go_upto_region 9 with (go_at_call 67; (with_reducible refine HCN.out.mono ?_); rintro e w7 ⟨b7, d7, rfl, hk7, hgb7, hb7⟩; have HK7 := Lib.hid hk7; have HGB7 := Lib.hid hgb7; have HB7 := Lib.hid hb7; have HY7 := Lib.hid ((hb7.block _ HYL2.out).trans HY.out); have q0 : w7.cell? ⟨wi.heap.size, 2, none⟩ = some (.slice x.ka x.kn x.kc) := (by rw [cell_of_row _ _ 2 _ 33 _ HY7.out]; rfl); have p0 : w7.frozen? ⟨wi.heap.size, 2, none⟩ = false := frozen_of_row _ _ 2 _ 33 HY7.out; have o0 : wi.heap.size < w7.heap.size := (Array.getElem?_eq_some_iff.1 HY7.out).1; clear hk7 hgb7 hb7)
      clear c2 q0 p0 o0
      have hkn := HIN.out.knb
      have hkn2 : (x.kn : Int) ≤ 1000 := by omega
      have HKN : Hid (x.kn = x.KS.length) := Lib.hid HIN.out.kids.1
      have HBB7 : Hid (Below wi.heap.size wi w7) := Lib.hid (HBY.out.trans (HB7.out.mono HBY.out.size))
      have HB8' : Hid (Below wi.heap.size wi (w7.setCell ⟨wi.heap.size, 2, none⟩ (.slice b7 x.kn d7))) := Lib.hid (HBB7.out.setCell (p := ⟨wi.heap.size, 2, none⟩) (Nat.le_refl _) _)
      have HY8' : Hid ((w7.setCell ⟨wi.heap.size, 2, none⟩ (.slice b7 x.kn d7)).heap[wi.heap.size]? = some (.cells #[.int .i64 x.kd, .slice x.na x.nn x.nc, .slice b7 x.kn d7, .bool x.op] 33 (0, 0))) := Lib.hid (by rw [heap_setCell_same _ _ 2 _ 33 _ HY7.out]; rfl)
      have HK8' : Hid ((w7.setCell ⟨wi.heap.size, 2, none⟩ (.slice b7 x.kn d7)).ownsRow w6.heap.size 3 1 (.slice b7 x.kn d7) x.kn ((shTo A.length x.KS 0).map (Value.int .i64))) := Lib.hid (by
        rw [shTo_zero]
        exact own_move HK7.out (fun g e => ⟨Below.heap_setCell _ _ _ _ (show g ≠ wi.heap.size by have := (HK7.out.lt g e).1; have := HYL2.out; omega), (HK7.out.lt g e).1⟩))
      obtain ⟨w8, hw8⟩ : ∃ w8, w7.setCell ⟨wi.heap.size, 2, none⟩ (.slice b7 x.kn d7) = w8 := ⟨_, rfl⟩
      rw [hw8] at HB8' HY8' HK8' ⊢
      clear hw8
      have e2 : w8.cell? ⟨wi.heap.size, 2, none⟩ = some (.slice b7 x.kn d7) := (by rw [cell_of_row _ _ 2 _ 33 _ HY8'.out]; rfl)
      go_upto_region 10 with (fail)
      clear e2
      go_loopw [48] (fun s48 wr => ∃ j : Nat, s48 = .int .i64 (j : Int) ∧ j ≤ x.kn ∧ Hid (wr.ownsRow w6.heap.size 3 1 (.slice b7 x.kn d7) x.kn ((shTo A.length x.KS j).map (Value.int .i64))) ∧ Hid (w8.grownBy wr (Value.slice b7 x.kn d7).ownBlock)) (fun s48 _ => x.kn - (intOf s48).toNat)
      case atStart => exact ⟨0, rfl, Nat.zero_le _, HK8', Lib.hid (World.grownBy.refl _ _)⟩
      case round =>
        obtain ⟨j, rfl, hj, HKJ, HGJ⟩ := hrel
        obtain ⟨wj, rfl⟩ : ∃ wj : World, wj = wr := ⟨_, rfl⟩
        have hwj : IntKind.i64.wrap ((j : Int) + 1) = (j : Int) + 1 := by rw [IntKind.wrap_i64]; omega
        have HYJ : Hid (wj.heap[wi.heap.size]? = some (.cells #[.int .i64 x.kd, .slice x.na x.nn x.nc, .slice b7 x.kn d7, .bool x.op] 33 (0, 0))) := Lib.hid ((HGJ.out.block _ (Array.getElem?_eq_some_iff.1 HY8'.out).1 (fun e => by have := (HKJ.out.lt _ e.symm).1; have := HYL2.out; omega)).trans HY8'.out)
        have HBQ : Hid (Below wi.heap.size wi wj) := Lib.hid (below_grow HB8'.out HGJ.out HB8'.out.size (fun g e => by have := (HKJ.out.lt g e).1; have := HYL2.out; omega))
        have HAJ := Lib.hid (HBOX.out wj (HG.out.on HBQ.out).below)
        have a0 : wj.cell? ⟨w.heap.size, 0, none⟩ = some (.slice la A.length lc) := (by rw [cell_of_row _ _ 0 _ 36 _ HAJ.out.1]; rfl)
        have e2 : wj.cell? ⟨wi.heap.size, 2, none⟩ = some (.slice b7 x.kn d7) := (by rw [cell_of_row _ _ 2 _ 33 _ HYJ.out]; rfl)
        by_cases hjk : j < x.kn
        · have hjk2 : (j : Int) < x.kn := by omega
          obtain ⟨q, hq⟩ : ∃ q, x.KS[j]? = some q := ⟨_, List.getElem?_eq_getElem (by rw [← HKN.out]; exact hjk)⟩
          have hqr := HKX.out q (List.mem_of_getElem? hq)
          have HSH := Lib.hid (shTo_set A.length x.KS j q hq)
          have HSA := Lib.hid (shTo_at A.length x.KS j q hq)
          obtain ⟨gb, cap, hbe, hgb, hgl⟩ := HKJ.out.form (by omega)
          have hwq : IntKind.i64.wrap (q + (A.length : Int)) = q + (A.length : Int) := by rw [IntKind.wrap_i64]; omega
          rw [hbe] at HKJ e2 HGJ
          have HKD : Hid (wj.drew.ownsRow w6.heap.size 3 1 (.slice (some ⟨gb, 0, none⟩) x.kn cap) x.kn ((shTo A.length x.KS j).map (Value.int .i64))) := Lib.hid (ownsRow_mono HKJ.out (fun g e => rfl))
          have kc : wj.cell? ⟨gb, j, none⟩ = some (.int .i64 q) := by
            rw [HKJ.out.cellAt j (by omega), List.getElem?_map, HSA.out]
            rfl
          have kf : wj.frozen? ⟨gb, j, none⟩ = false := HKJ.out.frozenAt j
          have HST := Lib.hid (HKD.out.stored j (.int .i64 (q + (A.length : Int))))
          rw [← List.map_set, HSH.out] at HST
          have HGD : Hid (w8.grownBy wj.drew (some gb)) := Lib.hid ⟨HGJ.out.os, HGJ.out.tape, HGJ.out.output, HGJ.out.size, HGJ.out.block⟩
          have HGN : Hid (w8.grownBy (wj.drew.setCell ⟨gb, j, none⟩ (.int .i64 (q + (A.length : Int)))) (some gb)) := Lib.hid ⟨HST.out.2.os.trans HGD.out.os, HST.out.2.tape.trans HGD.out.tape, HST.out.2.output.trans HGD.out.output, Nat.le_trans HGD.out.size HST.out.2.size, fun k h1 h2 => (HST.out.2.block k (Nat.lt_of_lt_of_le h1 HGD.out.size) h2).trans (HGD.out.block k h1 h2)⟩
          have HBE := Lib.hid hbe
          clear hq hbe hqr
          go_upto_region 12 with (fail)
          go_still_tail 10, (by kernel_rfl)
          go_wp2
          go_roundw
          case rel => exact ⟨j + 1, by go_num, by omega, Lib.hid (by rw [HBE.out]; exact HST.out.1), Lib.hid (by rw [HBE.out]; exact HGN.out)⟩
          case measure => simp [intOf]; omega
        · have hjk2 : ¬ (j : Int) < x.kn := by omega
          obtain rfl : j = x.kn := by omega
          have HGQ := Lib.hid (HG.out.on HBQ.out)
          have HKF : Hid (wj.ownsRow w6.heap.size 3 1 (.slice b7 x.kn d7) x.kn ((x.KS.map (· + (A.length : Int))).map (Value.int .i64))) := Lib.hid (by have h9 := HKJ.out; rw [HKN.out, shTo_all, ← HKN.out] at h9; exact h9)
          have HKI := Lib.hid (own_ints HKF.out)
          have HNQ : Hid (NamesAt wj x.na x.nn x.NS) := Lib.hid (HIN.out.on HBQ.out).names
          have HYO : Hid (HdOk wj ⟨x.kd, x.na, x.nn, x.nc, x.NS, b7, x.kn, d7, x.KS.map (· + (A.length : Int)), x.op⟩) := Lib.hid ⟨HNQ.out, HKI.out, HIN.out.nnb, HIN.out.knb, HIN.out.small⟩
          have HOWI : Hid (∀ g, (Value.slice xa (A ++ YS).length xc).ownBlock = some g → w4.heap.size ≤ g ∧ g < wi.heap.size) := Lib.hid (fun g e => HG.out.row.lt g e)
          have HRMI : Hid (R < wi.heap.size ∧ M < wi.heap.size ∧ w4.heap.size ≤ R ∧ w4.heap.size ≤ M) := Lib.hid ⟨HG.out.ltR, HG.out.ltM, HG.out.geR, HG.out.geM⟩
          have HYS : Hid (∀ ad, blkOf ⟨x.kd, x.na, x.nn, x.nc, x.NS, b7, x.kn, d7, x.KS.map (· + (A.length : Int)), x.op⟩ ad → ad.block ≠ R ∧ ad.block ≠ M ∧ (Value.slice xa (A ++ YS).length xc).ownBlock ≠ some ad.block ∧ ad.block < wj.drew.heap.size) := Lib.hid (fun ad e => by
            have hyl := HYL2.out
            have hrm := HRMI.out
            have hbq := HBQ.out.size
            rcases e with ⟨e, h0⟩ | ⟨e, h0⟩
            · have h3 := blk_lt HXW.out (.inl ⟨e, h0⟩)
              have hbs := HG.out.below.size
              exact ⟨by omega, by omega, fun e2 => by have := HOWI.out _ e2; omega, by show ad.block < wj.heap.size; omega⟩
            · have h3 := HGB7.out ad e
              refine ⟨by omega, by omega, fun e2 => by have := HOWI.out _ e2; omega, ?_⟩
              rcases HKI.out.2 with r | ⟨g, o, e2, hl, _⟩
              · exact absurd r h0
              · rw [e2] at e; cases e; exact hl)
          have HMV2 : Hid (∀ (i : Nat) u v, B[i]? = some u → (YS ++ [⟨x.kd, x.na, x.nn, x.nc, x.NS, b7, x.kn, d7, x.KS.map (· + (A.length : Int)), x.op⟩])[i]? = some v → Moved A.length u v) := Lib.hid (fun i u v hu hv => by
            by_cases hi : i < YS.length
            · rw [List.getElem?_append_left hi] at hv
              exact HMV.out i u v hu hv
            · obtain rfl : i = YS.length := by have := (List.getElem?_eq_some_iff.1 hv).1; simp at this; omega
              rw [HX.out] at hu
              cases hu
              simp at hv
              subst hv
              exact ⟨rfl, rfl, rfl, rfl⟩)
          have HDR : Hid (Below wj.heap.size wj wj.drew) := Lib.hid (Below.refl _ _).drew
          have HOD : Hid (wj.drew.ownsRow w4.heap.size 33 4 (.slice xa (A ++ YS).length xc) (A ++ YS).length ((A ++ YS).flatMap hcells)) := Lib.hid (ownsRow_mono HGQ.out.row (fun g hg => rfl))
          have hxl : (A ++ YS).length ≤ 200 := by simp; omega
          have HXL := Lib.hid hxl
          have HAP : Hid (A ++ (YS ++ [⟨x.kd, x.na, x.nn, x.nc, x.NS, b7, x.kn, d7, x.KS.map (· + (A.length : Int)), x.op⟩]) = (A ++ YS) ++ [⟨x.kd, x.na, x.nn, x.nc, x.NS, b7, x.kn, d7, x.KS.map (· + (A.length : Int)), x.op⟩]) := Lib.hid (by simp)
          obtain ⟨i0, hi9, hz0, hz1, hz2⟩ := info_parts Tryz.info33
          have HI := Lib.hid hi9
          have HI0 := Lib.hid hz0
          have HI1 := Lib.hid hz1
          have HI2 := Lib.hid hz2
          have HLE : Hid (w4.heap.size ≤ (wj.drew.alloc (.cells #[.int .i64 x.kd, .slice x.na x.nn x.nc, .slice b7 x.kn d7, .bool x.op] 33)).heap.size) := Lib.hid (by have h1 := HGQ.out.below.size; have := HDR.out.size; simp; omega)
          have HYO2 : Hid (HdOk wj.drew ⟨x.kd, x.na, x.nn, x.nc, x.NS, b7, x.kn, d7, x.KS.map (· + (A.length : Int)), x.op⟩) := Lib.hid (HYO.out.on HDR.out)
          obtain ⟨XL, hXL⟩ : ∃ XL, (A ++ YS).length = XL := ⟨_, rfl⟩
          have HXE := Lib.hid hXL
          have HBOXJ := Lib.hid HGQ.out.box
          have q0 : wj.cell? ⟨R, 0, none⟩ = some (.slice xa XL xc) := (by rw [cell_of_row _ _ 0 _ 137 _ HGQ.out.box, hXL]; rfl)
          have q1 : (wj.alloc (.cells #[.int .i64 x.kd, .slice x.na x.nn x.nc, .slice b7 x.kn d7, .bool x.op] 33)).cell? ⟨R, 0, none⟩ = some (.slice xa XL xc) := (by rw [cell_of_row _ _ 0 _ 137 _ ((Below.heap_alloc _ _ _ HGQ.out.ltR).trans HGQ.out.box), hXL]; rfl)
          rw [hXL] at HOD HXL
          clear hXL hxl
          have p0 : wj.cell? ⟨wi.heap.size, 0, none⟩ = some (.int .i64 x.kd) := (by rw [cell_of_row _ _ 0 _ 33 _ HYJ.out]; rfl)
          have p1 : wj.cell? ⟨wi.heap.size, 1, none⟩ = some (.slice x.na x.nn x.nc) := (by rw [cell_of_row _ _ 1 _ 33 _ HYJ.out]; rfl)
          have p3 : wj.cell? ⟨wi.heap.size, 3, none⟩ = some (.bool x.op) := (by rw [cell_of_row _ _ 3 _ 33 _ HYJ.out]; rfl)
          clear hi9 hz0 hz1 hz2 a0
          go_upto_region 14 with (fail)
          go_region_law
            (first
              | (refine step_append_lies (wj.drew.alloc (.cells #[.int .i64 x.kd, .slice x.na x.nn x.nc, .slice b7 x.kn d7, .bool x.op] 33)) rfl _ _ 34 rfl w4.heap.size 33 i0 (.agg #[.int .i64 0, .slice none 0 0, .slice none 0 0, .bool false]) 4 64 Tryz.underlying34 HI.out HI0.out HI1.out HI2.out rfl (by decide) (.slice xa XL xc) XL ((A ++ YS).flatMap hcells) rfl (HOD.out.alloc _) ⟨wj.heap.size, 0, none⟩ 1 1 [.int .i64 x.kd, .slice x.na x.nn x.nc, .slice b7 x.kn d7, .bool x.op] rfl rfl (news_of (heap_alloc_new wj.drew _)) (by simp [Value.oneCell']) (by decide) (by unfold maxLen; have := HXL.out; omega) (by have := HXL.out; omega) HLE.out _ rfl ?_; intro g5 cc5 w6' hown5 hgr5 hat5 hlt5; have HSTEP := Lib.hid (HGQ.out.step (x := ⟨x.kd, x.na, x.nn, x.nc, x.NS, b7, x.kn, d7, x.KS.map (· + (A.length : Int)), x.op⟩) HDR.out HYO2.out HYS.out (by rw [HXE.out]; exact hgr5) (by rw [HXE.out]; exact hown5) (by rw [HXE.out]; exact hat5)); have a5 : w6'.cell? ⟨R, 0, none⟩ = some (.slice xa XL xc) := (by rw [cell_of_row _ _ 0 _ 137 _ HSTEP.out.2, HXE.out]; rfl); have f5 : w6'.frozen? ⟨R, 0, none⟩ = false := frozen_of_row _ _ 0 _ 137 HSTEP.out.2; have o5 : R < w6'.heap.size := (Array.getElem?_eq_some_iff.1 HSTEP.out.2).1; clear hlt5 hown5 hgr5 hat5)
              | fail)
          all_goals
            clear a5 f5 o5 q0 q1 p0 p1 p3 e2
            go_wp2
            go_roundw
            case rel => exact ⟨YS ++ [⟨x.kd, x.na, x.nn, x.nc, x.NS, b7, x.kn, d7, x.KS.map (· + (A.length : Int)), x.op⟩], some ⟨g5, 0, none⟩, cc5, by simp, Lib.hid (by simp; omega), Lib.hid (by rw [HAP.out]; have := HSTEP.out.1; rw [HXE.out] at this; exact this), HMV2⟩
            case measure => simp [intOf]; omega
    · have hk2 : ¬ (YS.length : Int) < B.length := by omega
      have HYE : Hid (YS.length = B.length) := Lib.hid (by omega)
      have hxl : (A ++ YS).length ≤ 200 := by simp; omega
      have HXL := Lib.hid hxl
      have HSM : Hid (SameH ((A ++ YS) ++ [dynH]) (rowA A B)) := Lib.hid (row_same HYE.out HMV.out HOB.out)
      have HXN : Hid (((A ++ YS) ++ [dynH]).length = dyn + 1) := Lib.hid (by have := HDYN.out; have := HYE.out; simp; omega)
      have HOX : Hid (OkHeads ((A ++ YS) ++ [dynH])) := Lib.hid (HSM.out.ok (row_ok HOA.out HOB.out))
      obtain ⟨XL, hXL⟩ : ∃ XL, (A ++ YS).length = XL := ⟨_, rfl⟩
      have HXE := Lib.hid hXL
      have q0 : wi.cell? ⟨R, 0, none⟩ = some (.slice xa XL xc) := (by rw [cell_of_row _ _ 0 _ 137 _ HG.out.box, hXL]; rfl)
      have q1 : (wi.alloc (.cells #[.int .i64 4, .slice none 0 0, .slice none 0 0, .bool false] 33)).cell? ⟨R, 0, none⟩ = some (.slice xa XL xc) := (by rw [cell_of_row _ _ 0 _ 137 _ ((Below.heap_alloc _ _ _ HG.out.ltR).trans HG.out.box), hXL]; rfl)
      have HOD : Hid (wi.ownsRow w4.heap.size 33 4 (.slice xa (A ++ YS).length xc) (A ++ YS).length ((A ++ YS).flatMap hcells)) := Lib.hid HG.out.row
      rw [hXL] at HOD HXL
      have HBR : Hid (Below wi.heap.size wi wi) := Lib.hid (Below.refl _ _)
      have HLE : Hid (w4.heap.size ≤ (wi.alloc (.cells #[.int .i64 4, .slice none 0 0, .slice none 0 0, .bool false] 33)).heap.size) := Lib.hid (by have h1 := HG.out.below.size; simp; omega)
      have HDO : Hid (HdOk wi dynH ∧ ∀ ad, ¬ blkOf dynH ad) := Lib.hid ⟨⟨⟨rfl, .inl rfl⟩, ⟨rfl, .inl rfl⟩, Nat.zero_le _, Nat.zero_le _, fun s h => by cases h⟩, fun ad e => by rcases e with ⟨_, h0⟩ | ⟨_, h0⟩ <;> exact h0 rfl⟩
      obtain ⟨i0, hi9, hz0, hz1, hz2⟩ := info_parts Tryz.info33
      have HI := Lib.hid hi9
      have HI0 := Lib.hid hz0
      have HI1 := Lib.hid hz1
      have HI2 := Lib.hid hz2
      clear hk hyl hwy hi9 hz0 hz1 hz2 hxl hXL
      go_upto_region 17 with (at_builtin; refine wpList_append_lies _ rfl _ _ 34 rfl w4.heap.size 33 i0 (.agg #[.int .i64 0, .slice none 0 0, .slice none 0 0, .bool false]) 4 64 Tryz.underlying34 HI.out HI0.out HI1.out HI2.out rfl (by decide) (.slice xa XL xc) XL ((A ++ YS).flatMap hcells) rfl (HOD.out.alloc _) ⟨wi.heap.size, 0, none⟩ 1 1 [.int .i64 4, .slice none 0 0, .slice none 0 0, .bool false] rfl rfl (news_of (heap_alloc_new wi _)) (by simp [Value.oneCell']) (by decide) (by unfold maxLen; have := HXL.out; omega) (by have := HXL.out; omega) HLE.out _ rfl ?_; intro g5 cc5 w6' hown5 hgr5 hat5 hlt5; have HSTEP := Lib.hid (HG.out.step (x := dynH) HBR.out HDO.out.1 (fun ad e => absurd e (HDO.out.2 ad)) (by rw [HXE.out]; exact hgr5) (by rw [HXE.out]; exact hown5) (by rw [HXE.out]; exact hat5)); have a5 : w6'.cell? ⟨R, 0, none⟩ = some (.slice xa XL xc) := (by rw [cell_of_row _ _ 0 _ 137 _ HSTEP.out.2, HXE.out]; rfl); have f5 : w6'.frozen? ⟨R, 0, none⟩ = false := frozen_of_row _ _ 0 _ 137 HSTEP.out.2; have o5 : R < w6'.heap.size := (Array.getElem?_eq_some_iff.1 HSTEP.out.2).1; clear hlt5 hown5 hgr5 hat5)
      clear a5 f5 o5 q0 q1
      have HRW := Lib.hid HSTEP.out.1
      rw [HXE.out] at HRW
      obtain ⟨w9, hw9⟩ : ∃ w9, w6'.setCell ⟨R, 0, none⟩ (.slice (some ⟨g5, 0, none⟩) (XL + 1) cc5) = w9 := ⟨_, rfl⟩
      rw [hw9] at HRW ⊢
      clear hw9 HSTEP HOD HDO HBR HLE
      generalize (A ++ YS) ++ [dynH] = XS at *
      have HTA := Lib.hid HRW.out.asker
      have HLX := Lib.hid HRW.out.heads_in
      have HA9 := Lib.hid (HBOX.out w9 HRW.out.below)
      have hn300 : XS.length ≤ 300 := by have := HXN.out; have := HDYN.out; omega
      have HN300 := Lib.hid hn300
      have HDL : Hid (dyn < XS.length) := Lib.hid (by have := HXN.out; omega)
      have HQ0 := Lib.hid (askA_any w4 w9 w9 R M (.slice (some ⟨g5, 0, none⟩) XS.length cc5) (.int .i64 (dyn : Int)) ([], []) HTA.out ra (A.length + rb) ⟨by simp only; omega, by simp only; omega⟩)
      rw [show ((A.length + rb : Nat) : Int) = (A.length : Int) + (rb : Int) from by omega] at HQ0
      have a0 : w9.cell? ⟨w.heap.size, 0, none⟩ = some (.slice la A.length lc) := (by rw [cell_of_row _ _ 0 _ 36 _ HA9.out.1]; rfl)
      have a1 : w9.cell? ⟨w.heap.size, 1, none⟩ = some (.int .i64 (ra : Int)) := (by rw [cell_of_row _ _ 1 _ 36 _ HA9.out.1]; rfl)
      have b1 : w9.cell? ⟨w.heap.size + 1, 1, none⟩ = some (.int .i64 (rb : Int)) := (by rw [cell_of_row _ _ 1 _ 36 _ HA9.out.2]; rfl)
      clear hn300
      go_upto_region 18 with (go_at_call 85; (with_reducible refine HQ0.out.mono ?_); rintro e w10 ⟨rfl, ha10, hk10⟩; have HT10 := Lib.hid ha10; clear ha10 hk10)
      clear a0 a1 b1
      have HROOT : Hid (ra < XS.length ∧ A.length + rb < XS.length) := Lib.hid (by have h1 := HXN.out; have h2 := HDYN.out; have h3 := HRAB.out; omega)
      have HMAY : Hid (MayA A B ra rb ↔ Cst (stpA XS dyn) (ra, A.length + rb)) := Lib.hid (by unfold MayA; rw [HDYN.out, HSM.out.step dyn])
      go_loopg [9] (meaS 90000 ([(ra, A.length + rb)], [(ra, A.length + rb)])) (fun gk s9 wr => ∃ (SL : List PrA × List PrA), Hid (AkT akA w4 w9 R M (.slice (some ⟨g5, 0, none⟩) XS.length cc5) (.int .i64 (dyn : Int)) wr SL) ∧ Hid (Wrk (stpA XS dyn) (ra, A.length + rb) SL.1 SL.2 none) ∧ Hid (meaS 90000 SL ≤ gk) ∧ Hid (∀ p ∈ SL.2, p.1 < XS.length ∧ p.2 < XS.length))
      case atStart =>
        refine ⟨([(ra, A.length + rb)], [(ra, A.length + rb)]), Lib.hid (by have := HT10.out; simpa [askS] using this), Lib.hid (Wrk.start _ _), Lib.hid (Nat.le_refl _), Lib.hid (fun p hp => ?_)⟩
        simp only [List.mem_singleton] at hp
        subst hp
        exact HROOT.out
      case round =>
        clear HT10
        obtain ⟨⟨S, Lf⟩, HT, HW, HME, HRG⟩ := hrel
        obtain ⟨wp, rfl⟩ : ∃ wp : World, wp = wr := ⟨_, rfl⟩
        have HW : Hid (Wrk (stpA XS dyn) (ra, A.length + rb) S Lf none) := HW
        have HRG : Hid (∀ p ∈ Lf, p.1 < XS.length ∧ p.2 < XS.length) := HRG
        have hT := HT.out
        obtain ⟨hwn, D, ya, yc, hs⟩ := hT
        rcases nil_or_snoc Lf with rfl | ⟨L, x, rfl⟩
        · have HYES := Lib.hid (HMAY.out.2 HW.out.yes)
          have r3 : wp.cell? ⟨R, 3, none⟩ = some (.slice ya 0 yc) := hs.c3
          have HBF : Hid (Below w.heap.size w wp) := Lib.hid (HB4.out.trans (HT.out.below.mono HB4.out.size))
          clear hs hwn
          go_wp2
          go_ret
          exact ⟨true, rfl, ⟨fun _ => HYES.out, fun _ => rfl⟩, HBF.out⟩
        · obtain ⟨i, j⟩ := x
          have hij := HRG.out (i, j) (by simp)
          simp only at hij
          have e1 : (L ++ [(i, j)]).length = L.length + 1 := by simp
          have hlb : (L ++ [(i, j)]).length ≤ 90000 := hwn.lenL (K := akA)
          rw [e1] at hlb
          have hlb2 : (L.length : Int) ≤ 90000 := by have : L.length + 1 ≤ 90000 := hlb; omega
          have hrow : wp.ownsRow w9.heap.size 141 2 (.slice ya (L ++ [(i, j)]).length yc) (L ++ [(i, j)]).length ((L ++ [(i, j)]).flatMap pcA) := hs.row
          rw [e1] at hrow
          obtain ⟨g, hya, hcap, hmx⟩ : ∃ g, ya = some ⟨g, 0, none⟩ ∧ L.length + 1 ≤ yc ∧ yc ≤ maxLen := by
            rcases hrow.2 with ⟨e, _⟩ | ⟨g, cap, cur, e, _, _, h1, h2, _⟩
            · cases e
            · cases e; exact ⟨g, rfl, h1, h2⟩
          subst hya
          have hcell : ∀ t, t < 2 → wp.cell? ⟨g, L.length * 2 + t, none⟩ = (pcA (i, j))[t]? := fun t ht => by
            rw [hrow.cellAt (L.length * 2 + t) (by omega)]
            exact flat_pc L (i, j) t
          have c0 : wp.cell? ⟨g, L.length * 2, none⟩ = some (.int .i64 (i : Int)) := hcell 0 (by omega)
          have c1 : wp.cell? ⟨g, L.length * 2 + 1, none⟩ = some (.int .i64 (j : Int)) := hcell 1 (by omega)
          have r3 : wp.cell? ⟨R, 3, none⟩ = some (.slice (some ⟨g, 0, none⟩) (L.length + 1) yc) := by have := hs.c3; rw [e1] at this; exact this
          have HS := Lib.hid hs
          have HWN := Lib.hid hwn
          have hcap2 : (L.length : Int) + 1 ≤ (yc : Int) := by omega
          have hcap3 : (L.length : Int) ≤ (yc : Int) := by omega
          have h0 : (0 : Int) < (L.length : Int) + 1 := by omega
          have hwl : IntKind.i64.wrap (L.length : Int) = (L.length : Int) := by rw [IntKind.wrap_i64]; omega
          have hlt1 : (L.length : Int) < (L.length : Int) + 1 := by omega
          have HNEW : Hid (∀ o, (wp.alloc o).heap[wp.heap.size]? = some o ∧ Below wp.heap.size wp (wp.alloc o)) := Lib.hid (fun o => ⟨heap_alloc_new wp o, (Below.refl _ _).alloc (Nat.le_refl _) _⟩)
          have HIJ := Lib.hid hij
          have hmx2 : (yc : Int) ≤ 9223372036854775807 := by unfold maxLen at hmx; omega
          clear hs hwn hlb hrow hcell e1 hcap hij hmx
          go_upto_region 19 with (fail)
          go_cut [9] from 93 to 128 (fun s9 wc => ∃ Bp : Nat, s9 = .pointer (some ⟨Bp, 0, none⟩) ∧ Hid (wc.heap[Bp]? = some (.cells #[.int .i64 (i : Int), .int .i64 (j : Int)] 141 (0, 0))) ∧ Hid (Bp = wp.heap.size) ∧ Hid (Below wp.heap.size wp wc))
          case first =>
            go_region_held3 (fun w' => w'.cell? ⟨R, 3, none⟩ = some (.slice (some ⟨g, 0, none⟩) (L.length + 1) yc) ∧ w'.cell? ⟨g, L.length * 2, none⟩ = some (.int .i64 (i : Int)) ∧ w'.cell? ⟨g, L.length * 2 + 1, none⟩ = some (.int .i64 (j : Int))) (first | exact ⟨r3, c0, c1⟩ | go_keep) ((fail))
            all_goals
              go_wp2
              go_meet
              case rel => exact ⟨wp.heap.size, rfl, Lib.hid (HNEW.out _).1, Lib.hid rfl, Lib.hid (HNEW.out _).2.drew⟩
          case rest =>
            obtain ⟨Bp, rfl, HPX, HPB, HBP⟩ := hcut
            obtain ⟨wq, rfl⟩ : ∃ wq : World, wq = wc := ⟨_, rfl⟩
            clear c0 c1 r3
            have HSQ := Lib.hid (HS.out.on HBP.out)
            have HPOP := Lib.hid ((HS.out.on HBP.out).pop.1.on ((Below.refl _ _).drew))
            have e1 : (L ++ [(i, j)]).length = L.length + 1 := by simp
            have r3 : wq.cell? ⟨R, 3, none⟩ = some (.slice (some ⟨g, 0, none⟩) (L.length + 1) yc) := by have := HSQ.out.c3; rw [e1] at this; exact this
            have f3 : wq.frozen? ⟨R, 3, none⟩ = false := HSQ.out.f3 3
            have o3 : R < wq.heap.size := HSQ.out.ltR
            have HPS : Hid (Bp ≠ R) := Lib.hid (by have h1 := HPB.out; have h2 := HS.out.ltR; omega)
            have HPX2 : Hid ((wq.setCell ⟨R, 3, none⟩ (.slice (some ⟨g, 0, none⟩) L.length yc)).drew.heap[Bp]? = some (.cells #[.int .i64 (i : Int), .int .i64 (j : Int)] 141 (0, 0))) := Lib.hid (by show (wq.setCell ⟨R, 3, none⟩ (.slice (some ⟨g, 0, none⟩) L.length yc)).heap[Bp]? = _; rw [Below.heap_setCell _ _ _ _ HPS.out]; exact HPX.out)
            clear e1
            go_upto_region 20 with (fail)
            go_still_tail 14, (by kernel_rfl)
            go_upto_region 21 with (fail)
            clear r3 f3 o3
            obtain ⟨ws, hws⟩ : ∃ ws, (wq.setCell ⟨R, 3, none⟩ (.slice (some ⟨g, 0, none⟩) L.length yc)).drew = ws := ⟨_, rfl⟩
            rw [hws] at HPX2 HPOP ⊢
            clear hws
            have p0 : ws.cell? ⟨Bp, 0, none⟩ = some (.int .i64 (i : Int)) := (by rw [cell_of_row _ _ 0 _ 141 _ HPX2.out]; rfl)
            have p1 : ws.cell? ⟨Bp, 1, none⟩ = some (.int .i64 (j : Int)) := (by rw [cell_of_row _ _ 1 _ 141 _ HPX2.out]; rfl)
            have hst := step_any w4 w9 ws R M XS.length dyn (some ⟨g5, 0, none⟩) cc5 XS HLX.out (S, L) ⟨HWN.out.take, _, _, _, HPOP.out⟩ HDL.out HN300.out HOX.out i j HIJ.out.1 HIJ.out.2
            cases hF : stpA XS dyn (i, j) with
            | none =>
              have HNO : Hid (¬ MayA A B ra rb) := Lib.hid (fun h => (HW.out.take.no hF) (HMAY.out.1 h))
              rw [hF] at hst
              have HST : Hid (Calls Tryz.prog 86 #[.pointer (some ⟨R, 0, none⟩), .agg #[.int .i64 (i : Int), .int .i64 (j : Int)]] ws fun e w' => e = .returned (.bool false) ∧ Below w4.heap.size w4 w') := Lib.hid (hst.mono (fun e w' h => by
                obtain ⟨h1, qs, h2, _⟩ := h
                exact ⟨h1, h2.below⟩))
              clear hst hF
              go_wp2_with (go_at_call 86; (with_reducible refine HST.out.mono ?_); rintro e w12 ⟨rfl, hb12⟩; have HB12 := Lib.hid hb12; clear hb12)
              go_ret
              exact ⟨false, rfl, ⟨fun h => by (cases h), fun h => absurd h HNO.out⟩, HB4.out.trans (HB12.out.mono HB4.out.size)⟩
            | some m =>
              rw [hF] at hst
              have HST : Hid (Calls Tryz.prog 86 #[.pointer (some ⟨R, 0, none⟩), .agg #[.int .i64 (i : Int), .int .i64 (j : Int)]] ws fun e w' => e = .returned (.bool true) ∧ ∃ SL : List PrA × List PrA, AkT akA w4 w9 R M (.slice (some ⟨g5, 0, none⟩) XS.length cc5) (.int .i64 (dyn : Int)) w' SL ∧ Wrk (stpA XS dyn) (ra, A.length + rb) SL.1 SL.2 none ∧ meaS 90000 SL < gk ∧ ∀ p ∈ SL.2, p.1 < XS.length ∧ p.2 < XS.length) := Lib.hid (hst.mono (fun e w' h => by
                obtain ⟨h1, qs, h2, h3, h4, h5⟩ := h
                obtain ⟨q1, q2⟩ := h5 m rfl
                refine ⟨h1, qs.foldl askS (S, L), h2, wrk_fin HW.out hF q1 q2, ?_, fun p hp => ?_⟩
                · have m1 := meaS_asks (ok := okA) (cap := 90000) (fun SL h => h.lenS (K := akA)) qs (S, L) HWN.out.take h4
                  have m2 : meaS 90000 (S, L ++ [(i, j)]) ≤ gk := HME.out
                  have m3 : meaS 90000 (S, L ++ [(i, j)]) = meaS 90000 (S, L) + 1 := by unfold meaS; simp; omega
                  omega
                · rcases asks_mem qs (S, L) p hp with r | r
                  · exact HRG.out p (by simp [r])
                  · exact stp_range HOX.out rfl HDL.out hF p (q1 p r)))
              clear hst hF
              go_wp2_with (go_at_call 86; (with_reducible refine HST.out.mono ?_); rintro e w12 ⟨rfl, SL2, t1, t2, t3, t4⟩; have T1 := Lib.hid t1; have T2 := Lib.hid t2; have T3 := Lib.hid t3; have T4 := Lib.hid t4; clear t1 t2 t3 t4)
              go_roundg (meaS 90000 SL2)
              case measure => exact T3.out
              case rel => exact ⟨SL2, T1, T2, Lib.hid (Nat.le_refl _), T4⟩
end Go.Proofs.YtifilhkkgkihpaaGreatDoor
