/- Plain: the worlds of ref08.Normal. Walks: ref08.Normal. -/
import Derived.Test.YtifilhkkgkihpaaGreatDoorGr14
import Derived.Test.YtifilhkkgkihpaaGreatDoorGr15
import Derived.Test.YtifilhkkgkihpaaGreatDoorGs02
import Derived.Test.YtifilhkkgkihpaaGreatDoorGr16
import Derived.BigQuiet
import Derived.BigRegion
import Derived.StillTailTactics
import Derived.Deep.RegionHeld3
set_option linter.unusedSimpArgs false
set_option linter.unusedVariables false
set_option linter.unusedSimpArgs false
set_option linter.unusedVariables false
namespace Go.Proofs.YtifilhkkgkihpaaGreatDoor
open Go.RowKit
/-- a box of another type is not the row's block. -/
theorem own_box {w : World} {base : Nat} {e t : TypeId} {size n : Nat} {v : Value} {xs : List Value} {b : Nat} {cs : Array Value} {f : Nat × Nat} (h : w.ownsRow base e size v n xs) (hb : w.heap[b]? = some (.cells cs t f)) (het : e ≠ t) : v.ownBlock ≠ some b := by
  rcases h.2 with ⟨rfl, -⟩ | ⟨g, cap, cur, rfl, e2, e3, -⟩
  · intro e; cases e
  · intro e
    cases e
    rw [hb] at e3
    cases e3
    exact het rfl
/-- a graph as far as it is built: its box at B, its heads in a row of their own. -/
structure HSt (w3 wr : World) (B : Nat) (root : Int) (xa : Option Addr) (xc : Nat) (XS : List Hd) : Prop where
  below : Below w3.heap.size w3 wr
  ge : w3.heap.size ≤ B
  box : wr.heap[B]? = some (.cells #[.slice xa XS.length xc, .int .i64 root] 36 (0, 0))
  out : wr.ownsRow w3.heap.size 33 4 (.slice xa XS.length xc) XS.length (XS.flatMap hcells)
  heads : ∀ y ∈ XS, HdOk wr y
  sep : ∀ y ∈ XS, ∀ ad, blkOf y ad → ad.block ≠ B ∧ ad.block < wr.heap.size ∧ (Value.slice xa XS.length xc).ownBlock ≠ some ad.block
section
variable {w3 wr w' : World} {B : Nat} {root : Int} {xa : Option Addr} {xc : Nat} {XS : List Hd}
theorem HSt.lt (h : HSt w3 wr B root xa xc XS) : B < wr.heap.size := (Array.getElem?_eq_some_iff.1 h.box).1
theorem HSt.far (h : HSt w3 wr B root xa xc XS) {row : Option Nat} (hg : wr.grownBy w' row) (hr : ∀ g, row = some g → w3.heap.size ≤ g ∧ g ≠ B ∧ (Value.slice xa XS.length xc).ownBlock ≠ some g ∧ ∀ y ∈ XS, ∀ ad, blkOf y ad → ad.block ≠ g) : HSt w3 w' B root xa xc XS where
  below := below_grow h.below hg h.below.size (fun g e => (hr g e).1)
  ge := h.ge
  box := (hg.block B h.lt (fun e => (hr B e.symm).2.1 rfl)).trans h.box
  out := h.out.kept hg (by
    cases hs : (Value.slice xa XS.length xc).ownBlock with
    | none => exact .inl rfl
    | some g => exact .inr (fun e => (hr g e.symm).2.2.1 hs))
  heads y hy := hd_kept (h.heads y hy) (fun ad e hl => hg.block _ hl (fun e2 => (hr _ e2.symm).2.2.2 y hy ad e rfl)) hg.size
  sep y hy ad e := by
    obtain ⟨h1, h2, h3⟩ := h.sep y hy ad e
    exact ⟨h1, Nat.lt_of_lt_of_le h2 hg.size, h3⟩
theorem HSt.on (h : HSt w3 wr B root xa xc XS) (hb : Below wr.heap.size wr w') : HSt w3 w' B root xa xc XS := h.far (grown_below hb) (fun g e => by cases e)
theorem HSt.step (h : HSt w3 wr B root xa xc XS) {y : Hd} (hy : HdOk wr y) (hys : ∀ ad, blkOf y ad → ad.block ≠ B ∧ ad.block < wr.heap.size ∧ (Value.slice xa XS.length xc).ownBlock ≠ some ad.block) {wd : World} (hd : Below wr.heap.size wr wd) {o : Obj} {w6 : World} {g6 c6 : Nat}
    (hg : (wd.alloc o).grownBy w6 (Value.slice xa XS.length xc).ownBlock) (hown : w6.ownsRow w3.heap.size 33 4 (.slice (some ⟨g6, 0, none⟩) (XS.length + 1) c6) (XS.length + 1) (XS.flatMap hcells ++ hcells y)) (hw : (Value.slice xa XS.length xc).ownBlock = some g6 ∨ g6 = (wd.alloc o).heap.size) :
    HSt w3 (w6.setCell ⟨B, 0, none⟩ (.slice (some ⟨g6, 0, none⟩) (XS.length + 1) c6)) B root (some ⟨g6, 0, none⟩) c6 (XS ++ [y]) := by
  have hbd : Below wr.heap.size wr (wd.alloc o) := hd.alloc hd.size _
  have hBl := h.lt
  have hob : (Value.slice xa XS.length xc).ownBlock ≠ some B := own_box h.out h.box (by decide)
  have hlo : ∀ b, b < wr.heap.size → (Value.slice xa XS.length xc).ownBlock ≠ some b → w6.heap[b]? = wr.heap[b]? := fun b hb e => by
    rw [hg.block b (by have := hbd.size; omega) (fun e' => e e'.symm)]
    exact hbd.block b hb
  have hB6 : w6.heap[B]? = some (.cells #[.slice xa XS.length xc, .int .i64 root] 36 (0, 0)) := (hlo B hBl hob).trans h.box
  have hsz : wr.heap.size ≤ w6.heap.size := Nat.le_trans hbd.size hg.size
  have hkeep : ∀ b, b < wr.heap.size → b ≠ B → (Value.slice xa XS.length xc).ownBlock ≠ some b → (w6.setCell ⟨B, 0, none⟩ (.slice (some ⟨g6, 0, none⟩) (XS.length + 1) c6)).heap[b]? = wr.heap[b]? := fun b hb h1 h2 => by
    rw [Below.heap_setCell _ _ _ _ h1]
    exact hlo b hb h2
  have hgb : ∀ b, b < wr.heap.size → (Value.slice xa XS.length xc).ownBlock ≠ some b → g6 ≠ b := fun b hb hne e => by
    rcases hw with r | r
    · exact hne (by rw [r, e])
    · have := hbd.size; omega
  have hhd : ∀ z : Hd, HdOk wr z → (∀ ad, blkOf z ad → ad.block ≠ B ∧ ad.block < wr.heap.size ∧ (Value.slice xa XS.length xc).ownBlock ≠ some ad.block) → HdOk (w6.setCell ⟨B, 0, none⟩ (.slice (some ⟨g6, 0, none⟩) (XS.length + 1) c6)) z := fun z hz hs =>
    hd_kept hz (fun ad e _ => by obtain ⟨s1, s2, s3⟩ := hs ad e; exact hkeep _ s2 s1 s3) (by simpa using hsz)
  have hge := h.ge
  have e1 : (XS ++ [y]).length = XS.length + 1 := by simp
  have hbs := h.below.size
  have hB6n : g6 ≠ B := hgb B hBl hob
  exact {
    below := ⟨hg.os.trans (hbd.os.trans h.below.os), hg.tape.trans (hbd.tape.trans h.below.tape), hg.output.trans (hbd.output.trans h.below.output), by simpa using Nat.le_trans hbs hsz, fun b hb => by
      rw [hkeep b (by omega) (by omega) (fun e => by have := (h.out.lt _ e).1; omega)]
      exact h.below.block b hb⟩
    ge := hge
    box := by
      rw [e1, heap_setCell_same _ B 0 _ 36 _ hB6]
      rfl
    out := by
      rw [e1, List.flatMap_append]
      have h8 := hown.kept (Val.grown_set w6 B 0 (.slice (some ⟨g6, 0, none⟩) (XS.length + 1) c6)) (.inr (fun e => hB6n (by cases e; rfl)))
      simpa using h8
    heads := fun z hz => by
      rcases List.mem_append.1 hz with r | r
      · exact hhd z (h.heads z r) (h.sep z r)
      · obtain rfl : z = y := by simpa using r
        exact hhd z hy hys
    sep := fun z hz ad e => by
      have hall : ad.block ≠ B ∧ ad.block < wr.heap.size ∧ (Value.slice xa XS.length xc).ownBlock ≠ some ad.block := by
        rcases List.mem_append.1 hz with r | r
        · exact h.sep z r ad e
        · obtain rfl : z = y := by simpa using r
          exact hys ad e
      obtain ⟨s1, s2, s3⟩ := hall
      exact ⟨s1, by simpa using Nat.lt_of_lt_of_le s2 hsz, fun e2 => hgb _ s2 s3 (by cases e2; rfl)⟩ }
theorem HSt.heads_in (h : HSt w3 wr B root xa xc XS) : HeadsIn wr xa XS.length XS := by
  refine ⟨rfl, ?_⟩
  by_cases h0 : XS.length = 0
  · exact .inl h0
  · obtain ⟨g, cap, e, h2, h3⟩ := h.out.form (by omega)
    injection e with e1 e2 e3
    subst e1
    refine .inr ⟨g, 0, rfl, h3, fun i x hi => ?_⟩
    have hil := (List.getElem?_eq_some_iff.1 hi).1
    have hc : ∀ j, j < 4 → wr.cell? ⟨g, 0 + i * 4 + j, none⟩ = (hcells x)[j]? := fun j hj => by
      rw [Nat.zero_add, h.out.cellAt (i * 4 + j) (by omega)]
      exact flat_at XS i j x hi hj
    exact ⟨hc 0 (by omega), hc 1 (by omega), hc 2 (by omega), hc 3 (by omega), h.heads x (List.mem_of_getElem? hi)⟩
end
/-- and the order, in a row of its own. -/
structure OSt (w3 wr : World) (B : Nat) (xa : Option Addr) (xc : Nat) (OS : List Hd) (ord : List Nat) (go co : Nat) : Prop where
  hs : HSt w3 wr B 0 xa xc OS
  ordr : wr.ownsRow w3.heap.size 3 1 (.slice (some ⟨go, 0, none⟩) ord.length co) ord.length ((natI ord).map (Value.int .i64))
  sepo : ∀ y ∈ OS, ∀ ad, blkOf y ad → ad.block ≠ go
section
variable {w3 wr w' : World} {B : Nat} {xa : Option Addr} {xc : Nat} {OS : List Hd} {ord : List Nat} {go co : Nat}
theorem OSt.goB (h : OSt w3 wr B xa xc OS ord go co) : go ≠ B := fun e => own_box h.ordr h.hs.box (by decide) (by rw [e]; rfl)
theorem OSt.goX (h : OSt w3 wr B xa xc OS ord go co) : (Value.slice xa OS.length xc).ownBlock ≠ some go := by
  rcases own_two h.hs.out h.ordr (by decide) with r | r
  · rw [r]; intro e; cases e
  · intro e; exact r (by rw [e]; rfl)
theorem OSt.far (h : OSt w3 wr B xa xc OS ord go co) {row : Option Nat} (hg : wr.grownBy w' row) (hr : ∀ g, row = some g → w3.heap.size ≤ g ∧ g ≠ B ∧ (Value.slice xa OS.length xc).ownBlock ≠ some g ∧ (∀ y ∈ OS, ∀ ad, blkOf y ad → ad.block ≠ g) ∧ g ≠ go) : OSt w3 w' B xa xc OS ord go co where
  hs := h.hs.far hg (fun g e => by obtain ⟨a, b, c, d, _⟩ := hr g e; exact ⟨a, b, c, d⟩)
  ordr := h.ordr.kept hg (.inr (fun e => (hr go e.symm).2.2.2.2 rfl))
  sepo := h.sepo
theorem OSt.on (h : OSt w3 wr B xa xc OS ord go co) (hb : Below wr.heap.size wr w') : OSt w3 w' B xa xc OS ord go co := h.far (grown_below hb) (fun g e => by cases e)
theorem OSt.app (h : OSt w3 wr B xa xc OS ord go co) (hg : wr.grownBy w' (some go)) {g' co' c : Nat} (hm : w'.ownsRow w3.heap.size 3 1 (.slice (some ⟨g', 0, none⟩) (ord.length + 1) co') (ord.length + 1) ((natI ord).map (Value.int .i64) ++ [.int .i64 (c : Int)])) (hw : some go = some g' ∨ g' = wr.heap.size) : OSt w3 w' B xa xc OS (ord ++ [c]) g' co' where
  hs := h.hs.far hg (fun g e => by cases e; exact ⟨(h.ordr.lt _ rfl).1, h.goB, h.goX, h.sepo⟩)
  ordr := by simpa [natI] using hm
  sepo y hy ad e e2 := by
    rcases hw with r | r
    · cases r; exact h.sepo y hy ad e e2
    · have := (h.hs.sep y hy ad e).2.1; omega
end
theorem OSt.start (w3 : World) (root : Nat) : OSt w3 ((w3.alloc (.cells #[.int .i64 (root : Int)] 3)).alloc (.cells #[.slice none 0 0, .int .i64 0] 36)) (w3.heap.size + 1) none 0 [] [root] w3.heap.size 1 where
  hs := {
    below := ((Below.refl _ _).alloc (Nat.le_refl _) _).alloc (by simp) _
    ge := by omega
    box := by
      have := heap_alloc_new (w3.alloc (.cells #[.int .i64 (root : Int)] 3)) (.cells #[.slice none 0 0, .int .i64 0] 36)
      simpa using this
    out := World.ownsRow_nil _ _ _ _
    heads := fun y hy => by cases hy
    sep := fun y hy => by cases hy }
  ordr := ⟨rfl, .inr ⟨w3.heap.size, 1, #[.int .i64 (root : Int)], rfl, Nat.le_refl _, by rw [Below.heap_alloc _ _ _ (by simp)]; exact heap_alloc_new w3 _, Nat.le_refl _, by unfold maxLen; omega, rfl, rfl⟩⟩
  sepo y hy := by cases hy
/-- in a round: the head's own box, its kids in a row of their own. -/
structure ISt (w3 wr : World) (B : Nat) (xa : Option Addr) (xc : Nat) (OS : List Hd) (ord : List Nat) (go co : Nat) (hb : Nat) (h : Hd) (ka : Option Addr) (kc : Nat) (KK : List Int) : Prop where
  os : OSt w3 wr B xa xc OS ord go co
  hbox : wr.heap[hb]? = some (.cells #[.int .i64 h.kd, .slice h.na h.nn h.nc, .slice ka KK.length kc, .bool h.op] 33 (0, 0))
  hge : w3.heap.size ≤ hb
  hX : (Value.slice xa OS.length xc).ownBlock ≠ some hb
  hsep : ∀ y ∈ OS, ∀ ad, blkOf y ad → ad.block ≠ hb
  kids : wr.ownsRow w3.heap.size 3 1 (.slice ka KK.length kc) KK.length (KK.map (Value.int .i64))
  ksep : ∀ g, (Value.slice ka KK.length kc).ownBlock = some g → g ≠ go ∧ ∀ y ∈ OS, ∀ ad, blkOf y ad → ad.block ≠ g
section
variable {w3 wr w' : World} {B : Nat} {xa : Option Addr} {xc : Nat} {OS : List Hd} {ord : List Nat} {go co hb : Nat} {h : Hd} {ka : Option Addr} {kc : Nat} {KK : List Int}
theorem ISt.lt (k : ISt w3 wr B xa xc OS ord go co hb h ka kc KK) : hb < wr.heap.size := (Array.getElem?_eq_some_iff.1 k.hbox).1
theorem ISt.hbo (k : ISt w3 wr B xa xc OS ord go co hb h ka kc KK) : hb ≠ go := fun e => own_box k.os.ordr k.hbox (by decide) (by rw [e]; rfl)
theorem ISt.hbB (k : ISt w3 wr B xa xc OS ord go co hb h ka kc KK) : hb ≠ B := fun e => by
  have h1 := k.hbox
  rw [e, k.os.hs.box] at h1
  cases h1
theorem ISt.kB (k : ISt w3 wr B xa xc OS ord go co hb h ka kc KK) : ∀ g, (Value.slice ka KK.length kc).ownBlock = some g → g ≠ B ∧ g ≠ hb ∧ (Value.slice xa OS.length xc).ownBlock ≠ some g := fun g e => by
  refine ⟨fun e2 => own_box k.kids k.os.hs.box (by decide) (by rw [e, e2]), fun e2 => own_box k.kids k.hbox (by decide) (by rw [e, e2]), ?_⟩
  rcases own_two k.os.hs.out k.kids (by decide) with r | r
  · rw [r]; intro e; cases e
  · rw [← e]; exact r
theorem ISt.start (k : OSt w3 wr B xa xc OS ord go co) (hb' : Below wr.heap.size wr w') (hY : w'.heap[wr.heap.size]? = some (.cells #[.int .i64 h.kd, .slice h.na h.nn h.nc, .slice none 0 0, .bool h.op] 33 (0, 0))) : ISt w3 w' B xa xc OS ord go co wr.heap.size h none 0 [] where
  os := k.on hb'
  hbox := hY
  hge := k.hs.below.size
  hX e := by have := (k.hs.out.lt _ e).2; omega
  hsep y hy ad e e2 := by have := (k.hs.sep y hy ad e).2.1; omega
  kids := World.ownsRow_nil _ _ _ _
  ksep g e := by cases e
theorem ISt.far (k : ISt w3 wr B xa xc OS ord go co hb h ka kc KK) {row : Option Nat} (hg : wr.grownBy w' row) (hr : ∀ g, row = some g → False) : ISt w3 w' B xa xc OS ord go co hb h ka kc KK where
  os := k.os.far hg (fun g e => (hr g e).elim)
  hbox := (hg.block hb k.lt (fun e => hr hb e.symm)).trans k.hbox
  hge := k.hge
  hX := k.hX
  hsep := k.hsep
  kids := k.kids.kept hg (by
    cases hs : (Value.slice ka KK.length kc).ownBlock with
    | none => exact .inl rfl
    | some g => exact .inr (fun e => hr g e.symm))
  ksep := k.ksep
theorem ISt.on (k : ISt w3 wr B xa xc OS ord go co hb h ka kc KK) (hb' : Below wr.heap.size wr w') : ISt w3 w' B xa xc OS ord go co hb h ka kc KK := k.far (grown_below hb') (fun g e => by cases e)
theorem ISt.app (k : ISt w3 wr B xa xc OS ord go co hb h ka kc KK) (hg : wr.grownBy w' (some go)) {g' co' c : Nat} (hm : w'.ownsRow w3.heap.size 3 1 (.slice (some ⟨g', 0, none⟩) (ord.length + 1) co') (ord.length + 1) ((natI ord).map (Value.int .i64) ++ [.int .i64 (c : Int)])) (hw : some go = some g' ∨ g' = wr.heap.size) : ISt w3 w' B xa xc OS (ord ++ [c]) g' co' hb h ka kc KK where
  os := k.os.app hg hm hw
  hbox := (hg.block hb k.lt (fun e => k.hbo (by cases e; rfl))).trans k.hbox
  hge := k.hge
  hX := k.hX
  hsep := k.hsep
  kids := k.kids.kept hg (by
    cases hs : (Value.slice ka KK.length kc).ownBlock with
    | none => exact .inl rfl
    | some g => exact .inr (fun e => (k.ksep g hs).1 (by cases e; rfl)))
  ksep g e := by
    refine ⟨fun e2 => ?_, (k.ksep g e).2⟩
    rcases hw with r | r
    · cases r; exact (k.ksep g e).1 e2
    · have := (k.kids.lt g e).2; omega
theorem ISt.kid (k : ISt w3 wr B xa xc OS ord go co hb h ka kc KK) {o : Obj} (hg : (wr.alloc o).grownBy w' (Value.slice ka KK.length kc).ownBlock) {g' c' : Nat} {z : Int} (hm : w'.ownsRow w3.heap.size 3 1 (.slice (some ⟨g', 0, none⟩) (KK.length + 1) c') (KK.length + 1) (KK.map (Value.int .i64) ++ [.int .i64 z])) (hw : (Value.slice ka KK.length kc).ownBlock = some g' ∨ g' = (wr.alloc o).heap.size) :
    w'.heap[hb]? = some (.cells #[.int .i64 h.kd, .slice h.na h.nn h.nc, .slice ka KK.length kc, .bool h.op] 33 (0, 0)) ∧ ISt w3 (w'.setCell ⟨hb, 2, none⟩ (.slice (some ⟨g', 0, none⟩) (KK.length + 1) c')) B xa xc OS ord go co hb h (some ⟨g', 0, none⟩) c' (KK ++ [z]) := by
  have k1 := k.on ((Below.refl _ _).alloc (Nat.le_refl _) o)
  have hkb := k1.kB
  have hos : OSt w3 w' B xa xc OS ord go co := k1.os.far hg (fun g e => ⟨(k1.kids.lt g e).1, (hkb g e).1, (hkb g e).2.2, (k1.ksep g e).2, (k1.ksep g e).1⟩)
  have hbx : w'.heap[hb]? = some (.cells #[.int .i64 h.kd, .slice h.na h.nn h.nc, .slice ka KK.length kc, .bool h.op] 33 (0, 0)) := (hg.block hb k1.lt (fun e => (hkb hb e.symm).2.1 rfl)).trans k1.hbox
  have hg'b : g' ≠ hb := by
    rcases hw with r | r
    · exact (hkb g' r).2.1
    · have := k1.lt; omega
  have e1 : (KK ++ [z]).length = KK.length + 1 := by simp
  refine ⟨hbx, ?_⟩
  exact {
    os := hos.far (Val.grown_set w' hb 2 _) (fun g e => by cases e; exact ⟨k.hge, k.hbB, k.hX, k.hsep, k.hbo⟩)
    hbox := by
      rw [e1, heap_setCell_same _ hb 2 _ 33 _ hbx]
      rfl
    hge := k.hge
    hX := k.hX
    hsep := k.hsep
    kids := by
      rw [e1, List.map_append]
      exact hm.kept (Val.grown_set w' hb 2 _) (.inr (fun e => hg'b (by cases e; rfl)))
    ksep := fun g e => by
      cases e
      rcases hw with r | r
      · exact k1.ksep g' r
      · refine ⟨fun e2 => ?_, fun y hy ad e2 e3 => ?_⟩
        · have := (k1.os.ordr.lt go rfl).2
          simp only at e2
          omega
        · have := (k1.os.hs.sep y hy ad e2).2.1
          simp only at e3
          omega }
/-- the end of a round: the head is put into the row of heads. -/
theorem ISt.close (k : ISt w3 wr B xa xc OS ord go co hb h ka kc KK) (hn : NamesAt wr h.na h.nn h.NS) (hnl : ∀ ad, h.na = some ad → h.nn ≠ 0 → ad.block < w3.heap.size) (h1 : h.nn ≤ 100000) (h2 : KK.length ≤ 1000) (h3 : ∀ s ∈ h.NS, s.size ≤ 100000) {o : Obj} {w6 : World} {g6 c6 : Nat}
    (hg : (wr.alloc o).grownBy w6 (Value.slice xa OS.length xc).ownBlock) (hown : w6.ownsRow w3.heap.size 33 4 (.slice (some ⟨g6, 0, none⟩) (OS.length + 1) c6) (OS.length + 1) (OS.flatMap hcells ++ hcells ⟨h.kd, h.na, h.nn, h.nc, h.NS, ka, KK.length, kc, KK, h.op⟩)) (hw : (Value.slice xa OS.length xc).ownBlock = some g6 ∨ g6 = (wr.alloc o).heap.size) :
    OSt w3 (w6.setCell ⟨B, 0, none⟩ (.slice (some ⟨g6, 0, none⟩) (OS.length + 1) c6)) B (some ⟨g6, 0, none⟩) c6 (OS ++ [⟨h.kd, h.na, h.nn, h.nc, h.NS, ka, KK.length, kc, KK, h.op⟩]) ord go co := by
  have hkb := k.kB
  have hki := own_ints k.kids
  have hgo : ∀ ad, blkOf (⟨h.kd, h.na, h.nn, h.nc, h.NS, ka, KK.length, kc, KK, h.op⟩ : Hd) ad → (ad.block ≠ B ∧ ad.block < wr.heap.size ∧ (Value.slice xa OS.length xc).ownBlock ≠ some ad.block) ∧ ad.block ≠ go := fun ad e => by
    rcases e with ⟨e, h0⟩ | ⟨e, h0⟩
    · have h9 := hnl ad e h0
      have hge := k.os.hs.ge
      have hsz := k.os.hs.below.size
      exact ⟨⟨by omega, by omega, fun e2 => by have := (k.os.hs.out.lt _ e2).1; omega⟩, fun e2 => by have := (k.os.ordr.lt go rfl).1; omega⟩
    · have e9 : (Value.slice ka KK.length kc).ownBlock = some ad.block := by simp only at e; rw [e]; rfl
      exact ⟨⟨(hkb _ e9).1, (k.kids.lt _ e9).2, (hkb _ e9).2.2⟩, (k.ksep _ e9).1⟩
  have hgg : go ≠ B := k.os.goB
  have hgx := k.os.goX
  have hgl := (k.os.ordr.lt go rfl).2
  have hB := Below.refl wr.heap.size wr
  refine ⟨k.os.hs.step (y := ⟨h.kd, h.na, h.nn, h.nc, h.NS, ka, KK.length, kc, KK, h.op⟩) ⟨hn, hki, h1, h2, h3⟩ (fun ad e => (hgo ad e).1) hB hg hown hw, ?_, fun y hy ad e => ?_⟩
  · have a1 := k.os.ordr.kept (grown_below (hB.alloc (Nat.le_refl _) o)) (.inr (by simp [Value.ownBlock]))
    have a2 := a1.kept hg (.inr (fun e => hgx e.symm))
    exact a2.kept (Val.grown_set w6 B 0 _) (.inr (fun e => hgg (by cases e; rfl)))
  · rcases List.mem_append.1 hy with r | r
    · exact k.os.sepo y r ad e
    · obtain rfl : y = _ := by simpa using r
      exact (hgo ad e).2
end
end Go.Proofs.YtifilhkkgkihpaaGreatDoor
set_option linter.unusedSimpArgs false
set_option linter.unusedVariables false
namespace Go.Proofs.YtifilhkkgkihpaaGreatDoor
open Go.RowKit
def clO (cl : List Nat) (ord : List Nat) : List Nat := ord.map (fun i => cl.getD i 0)
/-- the number found so far, among the first j. -/
def nbTo (o : Option Nat) (j : Nat) : Int := match o with
  | some q => if q < j then (q : Int) else -1
  | none => -1
theorem nbTo_zero (o : Option Nat) : nbTo o 0 = -1 := by
  unfold nbTo
  cases o <;> simp
theorem nbTo_hit (l : List Nat) (hn : l.Nodup) (c j : Nat) (h : l[j]? = some c) : nbTo (idxN l c) (j + 1) = (j : Int) := by
  have hs : ∃ q, idxN l c = some q := by
    cases hi : idxN l c with
    | none => exact absurd (List.mem_of_getElem? h) (idxN_none l c hi)
    | some q => exact ⟨q, rfl⟩
  obtain ⟨q, hq⟩ := hs
  have hq2 := idxN_some l c q hq
  have e : q = j := (List.getElem?_inj (List.getElem?_eq_some_iff.1 hq2).1 hn).1 (hq2.trans h.symm)
  unfold nbTo
  rw [hq]
  simp [e]
theorem nbTo_miss (l : List Nat) (c d j : Nat) (h : l[j]? = some d) (hd : d ≠ c) : nbTo (idxN l c) (j + 1) = nbTo (idxN l c) j := by
  unfold nbTo
  cases hi : idxN l c with
  | none => rfl
  | some q =>
    have hq2 := idxN_some l c q hi
    have hne : q ≠ j := fun e => by rw [e, h] at hq2; cases hq2; exact hd rfl
    simp only
    by_cases h1 : q < j
    · rw [if_pos (by omega), if_pos h1]
    · rw [if_neg (by omega), if_neg h1]
theorem nbTo_all (l : List Nat) (c : Nat) : nbTo (idxN l c) l.length = match idxN l c with | some q => (q : Int) | none => -1 := by
  unfold nbTo
  cases hi : idxN l c with
  | none => rfl
  | some q =>
    have hq2 := idxN_some l c q hi
    simp only
    rw [if_pos (List.getElem?_eq_some_iff.1 hq2).1]
def NormRPost (w : World) (HS : List Hd) (root : Nat) (e : Ending) (w' : World) : Prop := ∃ (g c : Nat) (OS : List Hd), e = .returned (.agg #[.slice (some ⟨g, 0, none⟩) OS.length c, .int .i64 0]) ∧ NormF HS root OS ∧ HeadsIn w' (some ⟨g, 0, none⟩) OS.length OS ∧ 0 < OS.length ∧ OS.length ≤ 100 ∧ w.heap.size ≤ g ∧ Below w.heap.size w w'
set_option maxRecDepth 20000 in
set_option maxHeartbeats 16000000 in
theorem normalR_ok (w : World) (ga : Option Addr) (gn gc root : Nat) (HS : List Hd) (hH : HeadsIn w ga gn HS) (h1 : root < gn) (h100 : gn ≤ 100) (hok : OkHeads HS) (hf : HS.all fewH = true) :
    Calls Tryz.prog 42 #[.agg #[.slice ga gn gc, .int .i64 (root : Int)]] w (NormRPost w HS root) := by
  obtain ⟨cl, hcl⟩ : ∃ cl, cl = clL HS := ⟨_, rfl⟩
  have HCA : Hid (cl.length = HS.length ∧ (∀ i, i < HS.length → cl.getD i 0 < HS.length) ∧ Stands HS cl ∧ Coarse HS cl) := Lib.hid (by rw [hcl]; exact clL_all hok)
  have HOK := Lib.hid hok
  have HL := Lib.hid hH.1
  have HF := Lib.hid hf
  have hb0 : Below w.heap.size w (w.alloc (.cells #[.slice ga gn gc, .int .i64 (root : Int)] 36)) := (Below.refl _ _).alloc (Nat.le_refl _) _
  have HB0 : Hid (Below w.heap.size w ((w.alloc (.cells #[.slice ga gn gc, .int .i64 (root : Int)] 36)).alloc (.cells #[.slice none 0 0, .int .i64 0] 36))) := Lib.hid (hb0.alloc hb0.size _)
  have HX1 : Hid (((w.alloc (.cells #[.slice ga gn gc, .int .i64 (root : Int)] 36)).alloc (.cells #[.slice none 0 0, .int .i64 0] 36)).heap[w.heap.size]? = some (.cells #[.slice ga gn gc, .int .i64 (root : Int)] 36 (0, 0))) := Lib.hid (by rw [Below.heap_alloc _ _ _ (by simp)]; exact heap_alloc_new w _)
  have HX2 : Hid (((w.alloc (.cells #[.slice ga gn gc, .int .i64 (root : Int)] 36)).alloc (.cells #[.slice none 0 0, .int .i64 0] 36)).heap[w.heap.size + 1]? = some (.cells #[.slice none 0 0, .int .i64 0] 36 (0, 0))) := Lib.hid (by
    have := heap_alloc_new (w.alloc (.cells #[.slice ga gn gc, .int .i64 (root : Int)] 36)) (.cells #[.slice none 0 0, .int .i64 0] 36)
    simpa using this)
  have HG := Lib.hid hH
  have h1i : (root : Int) < gn := by omega
  obtain ⟨i3, p3, q31, q32, q33⟩ := info_parts Tryz.info3
  have P3 := Lib.hid p3
  have Q31 := Lib.hid q31
  have Q32 := Lib.hid q32
  have Q33 := Lib.hid q33
  obtain ⟨i0, hi9, hz0, hz1, hz2⟩ := info_parts Tryz.info33
  have HIF := Lib.hid hi9
  have HIF0 := Lib.hid hz0
  have HIF1 := Lib.hid hz1
  have HIF2 := Lib.hid hz2
  clear hb0 hH hok hf hcl p3 q31 q32 q33 hi9 hz0 hz1 hz2
  go_enter Tryz.func42, Tryz.ntmps42
  go_upto_region 1 with (fail)
  generalize ((w.alloc (.cells #[.slice ga gn gc, .int .i64 (root : Int)] 36)).alloc (.cells #[.slice none 0 0, .int .i64 0] 36)) = w1 at *
  have HL1 : Hid (w.heap.size + 1 < w1.heap.size) := Lib.hid (Array.getElem?_eq_some_iff.1 HX2.out).1
  have a0 : w1.cell? ⟨w.heap.size, 0, none⟩ = some (.slice ga gn gc) := (by rw [cell_of_row _ _ 0 _ 36 _ HX1.out]; rfl)
  have HAK := Lib.hid (alike_bis w1 ga gn gc HS (HG.out.on HB0.out) ga gn gc HS (HG.out.on HB0.out) (fun x hx k hk => by obtain ⟨i, hi⟩ := List.getElem?_of_mem hx; exact ok_kids HOK.out hi k hk) (fun x hx k hk => by obtain ⟨i, hi⟩ := List.getElem?_of_mem hx; exact ok_kids HOK.out hi k hk) h100 h100 (by omega) (by omega))
  go_upto_region 2 with (go_at_call 72; (with_reducible refine HAK.out.mono ?_); rintro e w3 ⟨gm, cm, rows, rfl, hrl, hmat, hbis⟩; have HRL := Lib.hid hrl; have HMAT := Lib.hid hmat; have HBIS := Lib.hid hbis; clear hrl hmat hbis)
  clear a0
  have HB3 : Hid (Below w1.heap.size w1 w3) := Lib.hid HMAT.out.below
  have HX13 := Lib.hid ((HB3.out.block _ (Nat.lt_of_succ_lt HL1.out)).trans HX1.out)
  have HX23 := Lib.hid ((HB3.out.block _ HL1.out).trans HX2.out)
  have HG3 := Lib.hid (HG.out.on (HB0.out.trans (HB3.out.mono HB0.out.size)))
  have HBW3 : Hid (Below w.heap.size w w3) := Lib.hid (HB0.out.trans (HB3.out.mono HB0.out.size))
  have a0 : w3.cell? ⟨w.heap.size, 0, none⟩ = some (.slice ga gn gc) := (by rw [cell_of_row _ _ 0 _ 36 _ HX13.out]; rfl)
  have a1 : w3.cell? ⟨w.heap.size, 1, none⟩ = some (.int .i64 (root : Int)) := (by rw [cell_of_row _ _ 1 _ 36 _ HX13.out]; rfl)
  go_upto_region 5 with (fail)
  clear a0 a1
  have HST0 : Hid (OSt w3 ((w3.alloc (.cells #[.int .i64 (root : Int)] 3)).alloc (.cells #[.slice none 0 0, .int .i64 0] 36)) (w3.heap.size + 1) none 0 [] [root] w3.heap.size 1) := Lib.hid (OSt.start w3 root)
  generalize ((w3.alloc (.cells #[.int .i64 (root : Int)] 3)).alloc (.cells #[.slice none 0 0, .int .i64 0] 36)) = w4 at *
  obtain ⟨g0, hg0⟩ : ∃ g0, w3.heap.size = g0 := ⟨_, rfl⟩
  obtain ⟨B5, hB5⟩ : ∃ B5, w3.heap.size + 1 = B5 := ⟨_, rfl⟩
  have HBR : Hid (w.heap.size + 1 < w3.heap.size) := Lib.hid (Array.getElem?_eq_some_iff.1 HX23.out).1
  rw [hB5, hg0] at HST0
  rw [hB5, hg0]
  clear hg0 hB5
  have hroot : root < HS.length := by have := HL.out; omega
  have HPL0 : Hid (NPl HS cl root (clO cl [root]) [] []) := Lib.hid ⟨Nat.zero_le _, fun k x hx => by simp at hx, rfl, by simp [clO], fun c hc => by rw [List.mem_singleton.1 hc]; have h9 := HCA.out.2.1 root hroot; have := HL.out; show cl.getD root 0 < 100; omega, rfl, fun c hc => ⟨root, hroot, (List.mem_singleton.1 hc).symm⟩, fun k hk => by simp at hk⟩
  have HRG : Hid (∀ i ∈ [root], i < HS.length) := Lib.hid (fun i hi => by rw [List.mem_singleton.1 hi]; exact hroot)
  obtain ⟨gb, ob, hga, hgl, hgc⟩ := HG3.out.2.resolve_left (by omega)
  have HGL := Lib.hid hgl
  have HGC := Lib.hid hgc
  subst hga
  clear hgl hgc
  go_loopw [6, 4] (fun s6 s4 wr => ∃ (OS : List Hd) (ord : List Nat) (go co : Nat) (xa : Option Addr) (xc : Nat), s6 = .int .i64 (OS.length : Int) ∧ s4 = .slice (some ⟨go, 0, none⟩) ord.length co ∧ Hid (OSt w3 wr B5 xa xc OS ord go co) ∧ Hid (NPl HS cl root (clO cl ord) OS []) ∧ Hid (∀ i ∈ ord, i < HS.length) ∧ Hid (∀ y ∈ OS, ∀ ad, blkOf y ad → ad.block ≠ w.heap.size + 1)) (fun s6 _ _ => 100 - (intOf s6).toNat)
  case atStart => exact ⟨[], [root], g0, 1, none, 0, rfl, rfl, HST0, HPL0, HRG, Lib.hid (fun y hy => by cases hy)⟩
  case round =>
    clear HST0 HPL0 HRG
    obtain ⟨OS, ord, go, co, xa, xc, rfl, rfl, HS2, HP2, HR2, HAV⟩ := hrel
    obtain ⟨wi, rfl⟩ : ∃ wi : World, wi = wr := ⟨_, rfl⟩
    have hole : ord.length ≤ 100 := by
      have h9 := nodup_len 100 (clO cl ord) HP2.out.nodup HP2.out.lt
      simpa [clO] using h9
    have hosl : OS.length ≤ ord.length := by
      have h9 := HP2.out.le
      simpa [clO] using h9
    have hwo : IntKind.i64.wrap ((OS.length : Int) + 1) = (OS.length : Int) + 1 := by rw [IntKind.wrap_i64]; omega
    by_cases hat : OS.length < ord.length
    · have hat2 : (OS.length : Int) < ord.length := by omega
      have HNOW := Lib.hid (HP2.out.now (by simpa [clO] using hat))
      obtain ⟨r, hr⟩ : ∃ r, ord[OS.length]? = some r := ⟨_, List.getElem?_eq_getElem hat⟩
      have hrl := HR2.out r (List.mem_of_getElem? hr)
      have hrl2 : (r : Int) < gn := by have := HL.out; omega
      have hrl3 : r < gn := by have := HL.out; omega
      obtain ⟨h, hh⟩ : ∃ h, HS[r]? = some h := ⟨_, List.getElem?_eq_getElem hrl⟩
      have HH := Lib.hid hh
      have HORD := Lib.hid hr
      have oc : wi.cell? ⟨go, OS.length, none⟩ = some (.int .i64 (r : Int)) := by
        rw [HS2.out.ordr.cellAt OS.length (by omega)]
        simp [natI, hr]
      have hin := HGC.out r h hh
      have HIN := Lib.hid hin.ok
      have HBI : Hid (Below w3.heap.size w3 wi) := Lib.hid HS2.out.hs.below
      have b0 : wi.cell? ⟨gb, ob + r * 4, none⟩ = some (.int .i64 h.kd) := keepB HBI.out HGL.out hin.c0
      have b1 : wi.cell? ⟨gb, ob + r * 4 + 1, none⟩ = some (.slice h.na h.nn h.nc) := keepB HBI.out HGL.out hin.c1
      have b2 : wi.cell? ⟨gb, ob + r * 4 + 2, none⟩ = some (.slice h.ka h.kn h.kc) := keepB HBI.out HGL.out hin.c2
      have b3 : wi.cell? ⟨gb, ob + r * 4 + 3, none⟩ = some (.bool h.op) := keepB HBI.out HGL.out hin.c3
      have e0 : wi.cell? ⟨w.heap.size, 0, none⟩ = some (.slice (some ⟨gb, ob, none⟩) gn gc) := keepB HBI.out (Nat.lt_of_succ_lt HBR.out) (by rw [cell_of_row _ _ 0 _ 36 _ HX13.out]; rfl)
      have hfh := few_head HF.out (List.mem_of_getElem? hh)
      have HFH := Lib.hid hfh
      clear hin hh hr hfh
      have l1 : gb < wi.heap.size := Nat.lt_of_lt_of_le HGL.out HBI.out.size
      have l2 : go < wi.heap.size := (HS2.out.ordr.lt go rfl).2
      have l3 : w.heap.size < wi.heap.size := Nat.lt_of_lt_of_le (Nat.lt_of_succ_lt HBR.out) HBI.out.size
      go_upto_region 7 with (fail)
      go_region_held3 (fun w' => w'.cell? ⟨w.heap.size, 0, none⟩ = some (.slice (some ⟨gb, ob, none⟩) gn gc) ∧ w'.cell? ⟨go, OS.length, none⟩ = some (.int .i64 (r : Int)) ∧ w'.cell? ⟨gb, ob + r * 4, none⟩ = some (.int .i64 h.kd) ∧ w'.cell? ⟨gb, ob + r * 4 + 1, none⟩ = some (.slice h.na h.nn h.nc) ∧ w'.cell? ⟨gb, ob + r * 4 + 3, none⟩ = some (.bool h.op)) (first | go_keep | exact ⟨e0, oc, b0, b1, b3⟩) ((fail))
      go_upto_region 8 with (fail)
      clear l1 l2 l3
      have HY6 : Hid (((wi.alloc (.cells #[.int .i64 h.kd, .slice h.na h.nn h.nc, .slice none 0 0, .bool h.op] 33)).drew).heap[wi.heap.size]? = some (.cells #[.int .i64 h.kd, .slice h.na h.nn h.nc, .slice none 0 0, .bool h.op] 33 (0, 0))) := Lib.hid (heap_alloc_new wi _)
      have HB6 : Hid (Below wi.heap.size wi ((wi.alloc (.cells #[.int .i64 h.kd, .slice h.na h.nn h.nc, .slice none 0 0, .bool h.op] 33)).drew)) := Lib.hid (((Below.refl _ _).alloc (Nat.le_refl _) _).drew)
      generalize ((wi.alloc (.cells #[.int .i64 h.kd, .slice h.na h.nn h.nc, .slice none 0 0, .bool h.op] 33)).drew) = w6 at *
      have e0' : w6.cell? ⟨w.heap.size, 0, none⟩ = some (.slice (some ⟨gb, ob, none⟩) gn gc) := keepB HB6.out (Nat.lt_of_lt_of_le (Nat.lt_of_succ_lt HBR.out) HBI.out.size) e0
      have oc' : w6.cell? ⟨go, OS.length, none⟩ = some (.int .i64 (r : Int)) := keepB HB6.out (HS2.out.ordr.lt go rfl).2 oc
      have b2' : w6.cell? ⟨gb, ob + r * 4 + 2, none⟩ = some (.slice h.ka h.kn h.kc) := keepB HB6.out (Nat.lt_of_lt_of_le HGL.out HBI.out.size) b2
      clear e0 oc b0 b1 b2 b3
      go_quiet (fail)
      have HB7 : Hid (Below w6.heap.size w6 (w6.drewN nq)) := Lib.hid (below_drewN (Below.refl _ _))
      have HI7 : Hid (ISt w3 (w6.drewN nq) B5 xa xc OS ord go co wi.heap.size h none 0 []) := Lib.hid (ISt.start HS2.out (HB6.out.trans (HB7.out.mono HB6.out.size)) ((HB7.out.block _ (Array.getElem?_eq_some_iff.1 HY6.out).1).trans HY6.out))
      go_upto_region 9 with (fail)
      clear e0' oc' b2'
      generalize (w6.drewN nq) = w7 at *
      obtain ⟨hb, hhb⟩ : ∃ hb, wi.heap.size = hb := ⟨_, rfl⟩
      rw [hhb] at HI7 ⊢
      clear hhb
      have hkn := HFH.out.1
      have hkn2 : (h.kn : Int) ≤ 20 := by omega
      have HKN : Hid (h.kn = h.KS.length) := Lib.hid HIN.out.kids.1
      have HKD0 : Hid (KdI cl (clO cl ord) h 0 []) := Lib.hid ⟨rfl, fun k hk => by simp at hk⟩
      have HATL := Lib.hid hat
      have HKR := Lib.hid (ok_kids HOK.out HH.out)
      go_loopw [66, 4] (fun s66 s4 wr => ∃ (p : Nat) (ord : List Nat) (go co : Nat) (ka : Option Addr) (kc : Nat) (KK : List Int), s66 = .int .i64 (p : Int) ∧ s4 = .slice (some ⟨go, 0, none⟩) ord.length co ∧ p ≤ h.kn ∧ Hid (KK.length = p) ∧ Hid (ISt w3 wr B5 xa xc OS ord go co hb h ka kc KK) ∧ Hid (NPl HS cl root (clO cl ord) OS KK) ∧ Hid (∀ i ∈ ord, i < HS.length) ∧ Hid (KdI cl (clO cl ord) h p KK) ∧ Hid (ord[OS.length]? = some r) ∧ Hid (OS.length < ord.length)) (fun s66 _ _ => h.kn - (intOf s66).toNat)
      case atStart => exact ⟨0, ord, go, co, none, 0, [], rfl, rfl, Nat.zero_le _, Lib.hid rfl, HI7, HP2, HR2, HKD0, HORD, HATL⟩
      case round =>
        clear HS2 HP2 HR2 HKD0 HORD HATL HI7 hat hat2 hole hosl hwo
        obtain ⟨p, ord, go, co, ka, kc, KK, rfl, rfl, hp, HKKL, HI, HP, HR, HKD, HORD, HATL⟩ := hrel
        obtain ⟨wj, rfl⟩ : ∃ wj : World, wj = wr := ⟨_, rfl⟩
        have hwp : IntKind.i64.wrap ((p : Int) + 1) = (p : Int) + 1 := by rw [IntKind.wrap_i64]; omega
        have hole : ord.length ≤ 100 := by
          have h9 := nodup_len 100 (clO cl ord) HP.out.nodup HP.out.lt
          simpa [clO] using h9
        have hkkb : KK.length ≤ 20 := by have := HKKL.out; omega
        by_cases hpk : p < h.kn
        · have hpk2 : (p : Int) < h.kn := by omega
          obtain ⟨x, hx⟩ : ∃ x, h.KS[p]? = some x := ⟨_, List.getElem?_eq_getElem (by rw [← HKN.out]; exact hpk)⟩
          obtain ⟨gi, oi, hka, hgi, hci⟩ := HIN.out.kids.2.resolve_left (by omega)
          have HBJ : Hid (Below w3.heap.size w3 wj) := Lib.hid HI.out.os.hs.below
          have kc0 : wj.cell? ⟨gi, oi + p, none⟩ = some (.int .i64 x) := keepB HBJ.out hgi (hci p x hx)
          have hxr := HKR.out x (List.mem_of_getElem? hx)
          obtain ⟨q0, rfl⟩ : ∃ q : Nat, x = (q : Int) := ⟨x.toNat, by omega⟩
          have hql : q0 < HS.length := by omega
          obtain ⟨⟨gw, cw, L⟩, hrow⟩ : ∃ rw, rows[q0]? = some rw := ⟨_, List.getElem?_eq_getElem (by rw [HRL.out]; exact hql)⟩
          have HROW := Lib.hid hrow
          have HMJ := Lib.hid (HMAT.out.on HBJ.out)
          have hqr : (q0 : Int) < rows.length := by rw [HRL.out]; omega
          have HKST : Hid (∀ (od : List Nat) (KK : List Int) (q : Nat), KdI cl od h p KK → idxN od (cl.getD q0 0) = some q → KdI cl od h (p + 1) (KK ++ [(q : Int)])) := Lib.hid (fun od KK q h1 h2 => h1.step hx (by simpa using h2))
          have HQL := Lib.hid hql
          rw [hka]
          clear hx hci hxr hrow hka hgi
          go_upto_region 13 with (fail)
          clear kc0
          go_loop [72, 10] (fun s72 s10 => ∃ j : Nat, s72 = .int .i64 (j : Int) ∧ s10 = .int .i64 (nbTo (idxN (clO cl ord) (cl.getD q0 0)) j) ∧ j ≤ ord.length) (fun s72 _ => ord.length - (intOf s72).toNat)
          case atStart => exact ⟨0, rfl, by rw [nbTo_zero], Nat.zero_le _⟩
          case round =>
            obtain ⟨j, rfl, rfl, hj⟩ := hrel
            have hwj : IntKind.i64.wrap ((j : Int) + 1) = (j : Int) + 1 := by rw [IntKind.wrap_i64]; omega
            by_cases hjo : j < ord.length
            · have hjo2 : (j : Int) < ord.length := by omega
              obtain ⟨y, hy⟩ : ∃ y, ord[j]? = some y := ⟨_, List.getElem?_eq_getElem hjo⟩
              have hyl := HR.out y (List.mem_of_getElem? hy)
              have hyl2 : (y : Int) < HS.length := by omega
              have oc : wj.cell? ⟨go, j, none⟩ = some (.int .i64 (y : Int)) := by
                rw [HI.out.os.ordr.cellAt j (by omega)]
                simp [natI, hy]
              have hLl := (HMJ.out.each _ (List.mem_of_getElem? HROW.out)).1
              obtain ⟨b, hb'⟩ : ∃ b, L[y]? = some b := ⟨_, List.getElem?_eq_getElem (by simp only at hLl; omega)⟩
              obtain ⟨m1, m2, m3, m4⟩ := HMJ.out.cells HROW.out hb'
              have hbc : b = true ↔ cl.getD q0 0 = cl.getD y 0 := by
                rw [cl_bis HOK.out HCA.out.2.2.1 HCA.out.2.2.2 HQL.out hyl, ← HBIS.out q0 y HQL.out hyl]
                constructor
                · intro e; exact ⟨_, HROW.out, by rw [hb', e]⟩
                · rintro ⟨rr, h1, h2⟩
                  rw [HROW.out] at h1
                  cases h1
                  rw [hb'] at h2
                  cases h2
                  rfl
              have hcy : (clO cl ord)[j]? = some (cl.getD y 0) := by simp [clO, hy]
              have HNB : Hid (nbTo (idxN (clO cl ord) (cl.getD q0 0)) (j + 1) = if b = true then (j : Int) else nbTo (idxN (clO cl ord) (cl.getD q0 0)) j) := Lib.hid (by
                by_cases hb2 : b = true
                · rw [if_pos hb2]
                  exact nbTo_hit _ HP.out.nodup _ _ (by rw [hcy, hbc.1 hb2])
                · rw [if_neg hb2]
                  exact nbTo_miss _ _ _ _ hcy (fun e => hb2 (hbc.2 e.symm)))
              clear hy hyl hLl hb' m3 m4 hbc hcy
              cases b with
              | true =>
                go_wp2
                go_round
                case rel => exact ⟨j + 1, by go_num, by rw [HNB.out]; rfl, by omega⟩
                case measure => simp [intOf]; omega
              | false =>
                go_wp2
                go_round
                case rel => exact ⟨j + 1, by go_num, by rw [HNB.out]; rfl, by omega⟩
                case measure => simp [intOf]; omega
            · have hjo2 : ¬ (j : Int) < ord.length := by omega
              obtain rfl : j = ord.length := by omega
              have HNA := nbTo_all (clO cl ord) (cl.getD q0 0)
              have hlc : (clO cl ord).length = ord.length := by simp [clO]
              rw [hlc] at HNA
              rw [HNA]
              clear HNA hlc
              cases hix : idxN (clO cl ord) (cl.getD q0 0) with
              | some q =>
                simp only
                have HPN := Lib.hid (HP.out.known hix)
                have HKN2 := Lib.hid (HKST.out (clO cl ord) KK q HKD.out hix)
                have hq0 : ¬ (q : Int) < 0 := by omega
                have HBA : Hid (Below wj.heap.size wj (wj.alloc (.cells #[.int .i64 (q : Int)] 3))) := Lib.hid ((Below.refl _ _).alloc (Nat.le_refl _) _)
                have HHX : Hid (∀ w' : World, (wj.alloc (.cells #[.int .i64 (q : Int)] 3)).grownBy w' (Value.slice ka KK.length kc).ownBlock → w'.heap[hb]? = some (.cells #[.int .i64 h.kd, .slice h.na h.nn h.nc, .slice ka KK.length kc, .bool h.op] 33 (0, 0))) := Lib.hid (fun w' hg => by
                  have k1 := HI.out.on HBA.out
                  exact (hg.block hb k1.lt (fun e => (k1.kB hb e.symm).2.1 rfl)).trans k1.hbox)
                have k2 : wj.cell? ⟨hb, 2, none⟩ = some (.slice ka KK.length kc) := (by rw [cell_of_row _ _ 2 _ 33 _ HI.out.hbox]; rfl)
                clear hix
                go_wp2_with (at_builtin; refine wpList_append_lies _ rfl _ _ 31 rfl w3.heap.size 3 i3 (.int .i64 0) 1 8 Tryz.underlying31 P3.out Q31.out Q32.out Q33.out rfl (by decide) (.slice ka KK.length kc) KK.length (KK.map (Value.int .i64)) rfl (HI.out.kids.kept (grown_below HBA.out) (by cases hs : (Value.slice ka KK.length kc).ownBlock; exact .inl rfl; exact .inr (by simp))) ⟨wj.heap.size, 0, none⟩ 1 1 [.int .i64 ((q : Nat) : Int)] rfl rfl (World.news_of_block (cs := #[.int .i64 ((q : Nat) : Int)]) (heap_alloc_new wj _)) (by simp [Value.oneCell']) (by omega) (by unfold maxLen; omega) (by omega) (Nat.le_trans HBJ.out.size HBA.out.size) _ rfl ?_; intro g5 p5 w5' hown5 hgr5 hwh5 hlt5; have HE5 := Lib.hid (HI.out.kid hgr5 hown5 hwh5); have k5 : w5'.cell? ⟨hb, 2, none⟩ = some (.slice ka KK.length kc) := (by rw [cell_of_row _ _ 2 _ 33 _ HE5.out.1]; rfl); have f5 : w5'.frozen? ⟨hb, 2, none⟩ = false := frozen_of_row _ _ _ _ _ HE5.out.1; clear hown5 hgr5 hwh5 hlt5)
                go_roundw
                case rel => exact ⟨p + 1, ord, go, co, some ⟨g5, 0, none⟩, p5, KK ++ [(q : Int)], by go_num, rfl, by omega, Lib.hid (by simp [HKKL.out]), Lib.hid (by simpa using HE5.out.2), HPN, HR, HKN2, HORD, HATL⟩
                case measure => simp [intOf]; omega
              | none =>
                simp only
                have hcq : cl.getD q0 0 < 100 := by have h9 := HCA.out.2.1 q0 HQL.out; have := HL.out; omega
                have HCO : Hid (clO cl (ord ++ [q0]) = clO cl ord ++ [cl.getD q0 0]) := Lib.hid (by simp [clO])
                have hlc : (clO cl ord).length = ord.length := by simp [clO]
                have HPN : Hid (NPl HS cl root (clO cl (ord ++ [q0])) OS (KK ++ [(ord.length : Int)])) := Lib.hid (by
                  rw [HCO.out, ← hlc]
                  exact HP.out.fresh hix hcq ⟨q0, HQL.out, rfl⟩)
                have HKN2 : Hid (KdI cl (clO cl (ord ++ [q0])) h (p + 1) (KK ++ [(ord.length : Int)])) := Lib.hid (by
                  rw [HCO.out]
                  exact HKST.out _ KK ord.length (HKD.out.app _) (by rw [idxN_new _ _ _ hix, if_pos rfl, hlc]))
                have HRN : Hid (∀ i ∈ ord ++ [q0], i < HS.length) := Lib.hid (fun i hi => by
                  rcases List.mem_append.1 hi with h9 | h9
                  · exact HR.out i h9
                  · rw [List.mem_singleton.1 h9]; exact HQL.out)
                have HORN : Hid ((ord ++ [q0])[OS.length]? = some r) := Lib.hid (by rw [List.getElem?_append_left HATL.out]; exact HORD.out)
                have HATN : Hid (OS.length < (ord ++ [q0]).length) := Lib.hid (by rw [List.length_append]; exact Nat.lt_of_lt_of_le HATL.out (Nat.le_add_right _ _))
                clear hix hcq hlc
                have HB10 : Hid (Below wj.heap.size wj (wj.alloc (.cells #[.int .i64 (q0 : Int)] 3))) := Lib.hid ((Below.refl _ _).alloc (Nat.le_refl _) _)
                go_upto_region 21 with (at_builtin; refine wpList_append_lies _ rfl _ _ 31 rfl w3.heap.size 3 i3 (.int .i64 0) 1 8 Tryz.underlying31 P3.out Q31.out Q32.out Q33.out rfl (by decide) _ ord.length ((natI ord).map (Value.int .i64)) rfl (HI.out.os.ordr.kept (grown_below HB10.out) (.inr (by simp [Value.ownBlock]))) ⟨wj.heap.size, 0, none⟩ 1 1 [.int .i64 (q0 : Int)] rfl rfl (World.news_of_block (cs := #[.int .i64 (q0 : Int)]) (heap_alloc_new wj _)) (by simp [Value.oneCell']) (by omega) (by unfold maxLen; omega) (by omega) (Nat.le_trans HBJ.out.size HB10.out.size) _ rfl ?_; intro g4 p4 w11 hown4 hgr4 hwh4 hlt4; have HI1 := Lib.hid ((HI.out.on HB10.out).app hgr4 hown4 hwh4); clear hown4 hgr4 hwh4 hlt4)
                have HB11 : Hid (Below w3.heap.size w3 w11) := Lib.hid HI1.out.os.hs.below
                have HBA : Hid (Below w11.heap.size w11 (w11.alloc (.cells #[.int .i64 (ord.length : Int)] 3))) := Lib.hid ((Below.refl _ _).alloc (Nat.le_refl _) _)
                have k2 : w11.cell? ⟨hb, 2, none⟩ = some (.slice ka KK.length kc) := (by rw [cell_of_row _ _ 2 _ 33 _ HI1.out.hbox]; rfl)
                go_wp2_with (at_builtin; refine wpList_append_lies _ rfl _ _ 31 rfl w3.heap.size 3 i3 (.int .i64 0) 1 8 Tryz.underlying31 P3.out Q31.out Q32.out Q33.out rfl (by decide) (.slice ka KK.length kc) KK.length (KK.map (Value.int .i64)) rfl (HI1.out.kids.kept (grown_below HBA.out) (by cases hs : (Value.slice ka KK.length kc).ownBlock; exact .inl rfl; exact .inr (by simp))) ⟨w11.heap.size, 0, none⟩ 1 1 [.int .i64 ((ord.length : Nat) : Int)] rfl rfl (World.news_of_block (cs := #[.int .i64 ((ord.length : Nat) : Int)]) (heap_alloc_new w11 _)) (by simp [Value.oneCell']) (by omega) (by unfold maxLen; omega) (by omega) (Nat.le_trans HB11.out.size HBA.out.size) _ rfl ?_; intro g5 p5 w5' hown5 hgr5 hwh5 hlt5; have HE5 := Lib.hid (HI1.out.kid hgr5 hown5 hwh5); have k5 : w5'.cell? ⟨hb, 2, none⟩ = some (.slice ka KK.length kc) := (by rw [cell_of_row _ _ 2 _ 33 _ HE5.out.1]; rfl); have f5 : w5'.frozen? ⟨hb, 2, none⟩ = false := frozen_of_row _ _ _ _ _ HE5.out.1; clear hown5 hgr5 hwh5 hlt5)
                go_roundw
                case rel => exact ⟨p + 1, ord ++ [q0], g4, p4, some ⟨g5, 0, none⟩, p5, KK ++ [(ord.length : Int)], by go_num, by simp, by omega, Lib.hid (by simp [HKKL.out]), Lib.hid (by simpa using HE5.out.2), HPN, HRN, HKN2, HORN, HATN⟩
                case measure => simp [intOf]; omega
        · have hpk2 : ¬ (p : Int) < h.kn := by omega
          obtain rfl : p = h.kn := by omega
          have HBJ : Hid (Below w3.heap.size w3 wj) := Lib.hid HI.out.os.hs.below
          have HBA : Hid (Below wj.heap.size wj (wj.alloc (.cells #[.int .i64 h.kd, .slice h.na h.nn h.nc, .slice ka KK.length kc, .bool h.op] 33))) := Lib.hid ((Below.refl _ _).alloc (Nat.le_refl _) _)
          have hosb : OS.length ≤ 100 := by have := HATL.out; omega
          have hosb2 : OS.length < ord.length := HATL.out
          have hwo : IntKind.i64.wrap ((OS.length : Int) + 1) = (OS.length : Int) + 1 := by rw [IntKind.wrap_i64]; omega
          have x0 : wj.cell? ⟨hb, 0, none⟩ = some (.int .i64 h.kd) := (by rw [cell_of_row _ _ 0 _ 33 _ HI.out.hbox]; rfl)
          have x1 : wj.cell? ⟨hb, 1, none⟩ = some (.slice h.na h.nn h.nc) := (by rw [cell_of_row _ _ 1 _ 33 _ HI.out.hbox]; rfl)
          have x2 : wj.cell? ⟨hb, 2, none⟩ = some (.slice ka KK.length kc) := (by rw [cell_of_row _ _ 2 _ 33 _ HI.out.hbox]; rfl)
          have x3 : wj.cell? ⟨hb, 3, none⟩ = some (.bool h.op) := (by rw [cell_of_row _ _ 3 _ 33 _ HI.out.hbox]; rfl)
          have y0 : wj.cell? ⟨B5, 0, none⟩ = some (.slice xa OS.length xc) := (by rw [cell_of_row _ _ 0 _ 36 _ HI.out.os.hs.box]; rfl)
          have HBO : Hid (∀ w5' : World, (wj.alloc (.cells #[.int .i64 h.kd, .slice h.na h.nn h.nc, .slice ka KK.length kc, .bool h.op] 33)).grownBy w5' (Value.slice xa OS.length xc).ownBlock → w5'.heap[B5]? = some (.cells #[.slice xa OS.length xc, .int .i64 0] 36 (0, 0))) := Lib.hid (fun w5' hg => by
            have k1 := HI.out.os.hs.on HBA.out
            exact (hg.block B5 k1.lt (fun e => own_box k1.out k1.box (by decide) e.symm)).trans k1.box)
          have HONE : Hid (∀ u ∈ ([.int .i64 h.kd, .slice h.na h.nn h.nc, .slice ka KK.length kc, .bool h.op] : List Value), u.oneCell' = true) := Lib.hid (by
            intro u hu
            simp only [List.mem_cons, List.not_mem_nil, or_false] at hu
            rcases hu with rfl | rfl | rfl | rfl <;> rfl)
          have HNN : Hid (NamesAt wj h.na h.nn h.NS) := Lib.hid (HIN.out.names.on HBJ.out)
          have HNL : Hid (∀ ad, h.na = some ad → h.nn ≠ 0 → ad.block < w3.heap.size) := Lib.hid (fun ad e h0 => by
            rcases HIN.out.names.2 with r9 | ⟨g9, o9, e9, hl9, _⟩
            · exact absurd r9 h0
            · rw [e9] at e; cases e; exact hl9)
          have HNH : Hid (NHead HS cl (clO cl ord) ((clO cl ord).getD OS.length 0) (⟨h.kd, h.na, h.nn, h.nc, h.NS, ka, KK.length, kc, KK, h.op⟩ : Hd)) := Lib.hid ⟨⟨r, h, HH.out, by rw [List.getD_eq_getElem?_getD]; simp [clO, HORD.out], rfl, rfl, rfl, by
            have := HKD.out.1
            rw [List.take_of_length_le (by rw [← HKN.out]; exact Nat.le_refl _)] at this
            exact this, fun k hk => HKD.out.2 k (by rw [List.take_of_length_le (by rw [← HKN.out]; exact Nat.le_refl _)]; exact hk)⟩⟩
          have HPC : Hid (NPl HS cl root (clO cl ord) (OS ++ [(⟨h.kd, h.na, h.nn, h.nc, h.NS, ka, KK.length, kc, KK, h.op⟩ : Hd)]) []) := Lib.hid (HP.out.close HNOW.out (by simpa [clO] using HATL.out) HNH.out rfl)
          have HAVN : Hid (∀ y ∈ OS ++ [(⟨h.kd, h.na, h.nn, h.nc, h.NS, ka, KK.length, kc, KK, h.op⟩ : Hd)], ∀ ad, blkOf y ad → ad.block ≠ w.heap.size + 1) := Lib.hid (fun y hy ad e => by
            rcases List.mem_append.1 hy with h9 | h9
            · exact HAV.out y h9 ad e
            · obtain rfl : y = _ := List.mem_singleton.1 h9
              rcases e with ⟨e, he0⟩ | ⟨e, he0⟩
              · obtain ⟨g9, o9, e9, hl9, hc9⟩ := HG.out.2.resolve_left (by omega)
                rcases (hc9 r h HH.out).ok.names.2 with r8 | ⟨g8, o8, e8, hl8, _⟩
                · exact absurd r8 he0
                · simp only at e
                  rw [e8] at e; cases e; simp only; omega
              · have h8 := (HI.out.kids.lt ad.block (by simp only at e; rw [e]; rfl)).1
                have := HBR.out
                omega)
          have HSOW : Hid ((wj.alloc (.cells #[.int .i64 h.kd, .slice h.na h.nn h.nc, .slice ka KK.length kc, .bool h.op] 33)).ownsRow w3.heap.size 33 4 (.slice xa OS.length xc) OS.length (OS.flatMap hcells)) := Lib.hid (HI.out.os.hs.on HBA.out).out
          go_wp2_with (at_builtin; refine wpList_append_lies _ rfl _ _ 34 rfl w3.heap.size 33 i0 (.agg #[.int .i64 0, .slice none 0 0, .slice none 0 0, .bool false]) 4 64 Tryz.underlying34 HIF.out HIF0.out HIF1.out HIF2.out rfl (by decide) (.slice xa OS.length xc) OS.length (OS.flatMap hcells) rfl HSOW.out ⟨wj.heap.size, 0, none⟩ 1 1 [.int .i64 h.kd, .slice h.na h.nn h.nc, .slice ka KK.length kc, .bool h.op] rfl rfl (news_of (heap_alloc_new wj _)) HONE.out (by decide) (by unfold maxLen; omega) (by omega) (Nat.le_trans HBJ.out.size HBA.out.size) _ rfl ?_; intro g6 c6 w6' hown6 hgr6 hat6 hlt6; have hA5 := HBO.out w6' hgr6; have a5 : w6'.cell? ⟨B5, 0, none⟩ = some (.slice xa OS.length xc) := (by rw [cell_of_row _ _ 0 _ 36 _ hA5]; rfl); have f5 : w6'.frozen? ⟨B5, 0, none⟩ = false := frozen_of_row _ _ 0 _ 36 hA5; clear hA5 hlt6; have HOE := Lib.hid (HI.out.close HNN.out HNL.out HIN.out.nnb (by omega) HIN.out.small hgr6 hown6 hat6); clear hown6 hgr6 hat6)
          go_roundw
          case rel => exact ⟨OS ++ [(⟨h.kd, h.na, h.nn, h.nc, h.NS, ka, KK.length, kc, KK, h.op⟩ : Hd)], ord, go, co, some ⟨g6, 0, none⟩, c6, by simp, rfl, Lib.hid (by simpa using HOE.out), HPC, HR, HAVN⟩
          case measure => simp [intOf]; omega
    · have hat2 : ¬ (OS.length : Int) < ord.length := by omega
      have hll : OS.length = ord.length := by omega
      have h0 : 0 < OS.length := by
        have h9 := (List.getElem?_eq_some_iff.1 HP2.out.first).1
        simp [clO] at h9
        omega
      obtain ⟨gS, cS, hxe, hgS, hgl⟩ := HS2.out.hs.out.form h0
      injection hxe with e1 e2 e3
      subst e1
      subst e3
      have HLL := Lib.hid hll
      have H0 := Lib.hid h0
      have HX2W : Hid (wi.heap[w.heap.size + 1]? = some (.cells #[.slice none 0 0, .int .i64 0] 36 (0, 0))) := Lib.hid ((HS2.out.hs.below.block _ HBR.out).trans HX23.out)
      have y0 : wi.cell? ⟨B5, 0, none⟩ = some (.slice (some ⟨gS, 0, none⟩) OS.length xc) := (by rw [cell_of_row _ _ 0 _ 36 _ HS2.out.hs.box]; rfl)
      have y1 : wi.cell? ⟨B5, 1, none⟩ = some (.int .i64 0) := (by rw [cell_of_row _ _ 1 _ 36 _ HS2.out.hs.box]; rfl)
      have HFIN : Hid (∀ cs, HeadsIn (wi.setRow (w.heap.size + 1) cs) (some ⟨gS, 0, none⟩) OS.length OS ∧ Below w.heap.size w (wi.setRow (w.heap.size + 1) cs)) := Lib.hid (fun cs => by
        have hbw : Below w.heap.size w wi := HBW3.out.trans (HS2.out.hs.below.mono HBW3.out.size)
        have hge := HS2.out.hs.ge
        have hbr := HBR.out
        refine ⟨?_, below_row hbw (by omega)⟩
        exact (HS2.out.hs.heads_in).row (w.heap.size + 1) cs (by omega) HAV.out)
      have HGS : Hid (w.heap.size ≤ gS) := Lib.hid (by have := HBW3.out.size; omega)
      clear hll h0 hgS hgl
      go_wp2_with (refine wpList_store_row rfl 36 _ _ rfl (w.heap.size + 1) _ rfl rfl 36 _ HX2W.out (by kernel_rfl) rfl (by simp [Value.oneCell']) ?_)
      (try simp only [Exit.inBlock, Exit.then])
      exact bodyPost_ret (v := .agg #[.slice (some ⟨gS, 0, none⟩) OS.length xc, .int .i64 0]) (results_cell_row (P := Tryz.prog) rfl _ _ (w.heap.size + 1) 36 _ (0, 0) _ rfl (setRow_heap _ _ _ _ _ _ HX2W.out) Tryz.underlying36 rfl (by kernel_rfl)) rfl
        ⟨gS, xc, OS, rfl, ⟨cl, clO cl ord, HCA.out.2.2.1, HCA.out.2.2.2, HP2.out, by rw [HLL.out]; simp [clO]⟩, (HFIN.out _).1, H0.out, by rw [HLL.out]; exact hole, HGS.out, (HFIN.out _).2⟩
end Go.Proofs.YtifilhkkgkihpaaGreatDoor
