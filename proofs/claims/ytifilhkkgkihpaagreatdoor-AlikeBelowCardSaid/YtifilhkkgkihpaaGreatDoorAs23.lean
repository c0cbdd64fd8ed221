/- Plain and walks: the parser's reader as it lies; now, next. Walks: the reader's is, enter, leave, kind at the end; basic. Plain and walks: a type more in the builder; tree.Builder.Type. Walks: tree.Builder.Type. Walks: the reader's next at any token, kind, basic, putType, simple at a word. Walks: the reader's putType, simple at a word. Walks: the reader's typ over words and arrows. -/
import Derived.Test.YtifilhkkgkihpaaGreatDoorAs22
import Derived.BigRegion
import Derived.StillTailTactics
import Derived.Defers
import Derived.Recover
set_option linter.unusedSimpArgs false
set_option linter.unusedVariables false
set_option linter.unusedSimpArgs false
set_option linter.unusedVariables false
namespace Go.Proofs.YtifilhkkgkihpaaGreatDoor
open Go.RowKit
/-- a type, and where it stands. -/
abbrev Nd := Hd × Int
def ncells (x : Nd) : List Value := [.int .i64 x.1.kd, .int .i64 x.2, .string ⟨#[]⟩, .slice x.1.na x.1.nn x.1.nc, .slice x.1.ka x.1.kn x.1.kc, .bool x.1.op]
/-- the reader in its box at R: its tokens, where it is, how many rules are open, its builder at Bb with the types so far. -/
structure RdS (w0 w : World) (R Bb gt ct : Nat) (TS : List Tk) (at_ op : Nat) (xa : Option Addr) (xc : Nat) (PT : List Nd) : Prop where
  below : Below w0.heap.size w0 w
  rbox : w.heap[R]? = some (.cells #[.slice (some ⟨gt, 0, none⟩) TS.length ct, .int .i64 (at_ : Int), .int .i64 (op : Int), .pointer (some ⟨Bb, 0, none⟩)] 199 (0, 0))
  toks : w.ownsRow w0.heap.size 201 3 (.slice (some ⟨gt, 0, none⟩) TS.length ct) TS.length (TS.flatMap tcells)
  bbox : w.heap[Bb]? = some (.cells #[.slice none 0 0, .slice xa PT.length xc, .slice none 0 0] 235 (0, 0))
  typs : w.ownsRow w0.heap.size 152 6 (.slice xa PT.length xc) PT.length (PT.flatMap ncells)
  nds : ∀ x ∈ PT, HdOk w x.1 ∧ (x.1.na = none → x.1.nc = 0) ∧ (x.1.ka = none → x.1.kc = 0)
  sep : ∀ x ∈ PT, ∀ ad, blkOf x.1 ad → ad.block ≠ R ∧ ad.block ≠ Bb ∧ ad.block < w.heap.size ∧ (Value.slice xa PT.length xc).ownBlock ≠ some ad.block
  geR : w0.heap.size ≤ R
  geB : w0.heap.size ≤ Bb
/-- what an act of the reader leaves alone. -/
structure RdA (w w' : World) (R Bb : Nat) (own : Option Nat) : Prop where
  os : w'.os = w.os
  tape : w'.tape = w.tape
  output : w'.output = w.output
  size : w.heap.size ≤ w'.heap.size
  block : ∀ b, b < w.heap.size → b ≠ R → b ≠ Bb → own ≠ some b → w'.heap[b]? = w.heap[b]?
theorem RdA.of_below {w w' : World} {R Bb : Nat} {own : Option Nat} (h : Below w.heap.size w w') : RdA w w' R Bb own := ⟨h.os, h.tape, h.output, h.size, fun b hb _ _ _ => h.block b hb⟩
theorem RdA.trans {w w' w2 : World} {R Bb : Nat} {own own' : Option Nat} (h : RdA w w' R Bb own) (k : RdA w' w2 R Bb own') (ho : ∀ g, own' = some g → own = some g ∨ w.heap.size ≤ g) : RdA w w2 R Bb own :=
  ⟨k.os.trans h.os, k.tape.trans h.tape, k.output.trans h.output, Nat.le_trans h.size k.size, fun b hb h1 h2 h3 =>
    (k.block b (Nat.lt_of_lt_of_le hb h.size) h1 h2 (fun e => by rcases ho b e with r | r; exact h3 r; omega)).trans (h.block b hb h1 h2 h3)⟩
theorem RdA.set {w : World} {R Bb : Nat} {own : Option Nat} (j : Nat) (v : Value) : RdA w (w.setCell ⟨R, j, none⟩ v) R Bb own := ⟨rfl, rfl, rfl, by simp, fun b _ h1 _ _ => Below.heap_setCell _ _ _ _ h1⟩
section
variable {w0 w w' : World} {R Bb gt ct : Nat} {TS : List Tk} {at_ op : Nat} {xa : Option Addr} {xc : Nat} {PT : List Nd}
theorem RdS.ltR (h : RdS w0 w R Bb gt ct TS at_ op xa xc PT) : R < w.heap.size := (Array.getElem?_eq_some_iff.1 h.rbox).1
theorem RdS.ltB (h : RdS w0 w R Bb gt ct TS at_ op xa xc PT) : Bb < w.heap.size := (Array.getElem?_eq_some_iff.1 h.bbox).1
theorem RdS.RB (h : RdS w0 w R Bb gt ct TS at_ op xa xc PT) : R ≠ Bb := fun e => by
  have h1 := h.rbox
  rw [e, h.bbox] at h1
  cases h1
theorem RdS.tR (h : RdS w0 w R Bb gt ct TS at_ op xa xc PT) : gt ≠ R ∧ gt ≠ Bb ∧ (Value.slice xa PT.length xc).ownBlock ≠ some R ∧ (Value.slice xa PT.length xc).ownBlock ≠ some Bb ∧ (Value.slice xa PT.length xc).ownBlock ≠ some gt := by
  refine ⟨fun e => own_boxP h.toks h.rbox (by decide) (by rw [← e]; rfl), fun e => own_boxP h.toks h.bbox (by decide) (by rw [← e]; rfl), own_boxP h.typs h.rbox (by decide), own_boxP h.typs h.bbox (by decide), ?_⟩
  rcases own_two h.typs h.toks (by decide) with r | r
  · rw [r]; intro e; cases e
  · exact r
theorem RdS.on (h : RdS w0 w R Bb gt ct TS at_ op xa xc PT) (hb : Below w.heap.size w w') : RdS w0 w' R Bb gt ct TS at_ op xa xc PT where
  below := h.below.trans (hb.mono h.below.size)
  rbox := (hb.block R h.ltR).trans h.rbox
  toks := ownsRow_mono h.toks (fun g hg => hb.block g (h.toks.lt g hg).2)
  bbox := (hb.block Bb h.ltB).trans h.bbox
  typs := ownsRow_mono h.typs (fun g hg => hb.block g (h.typs.lt g hg).2)
  nds x hx := ⟨(h.nds x hx).1.on hb, (h.nds x hx).2⟩
  sep x hx ad e := by
    obtain ⟨h1, h2, h3, h4⟩ := h.sep x hx ad e
    exact ⟨h1, h2, Nat.lt_of_lt_of_le h3 hb.size, h4⟩
  geR := h.geR
  geB := h.geB
theorem RdS.set (h : RdS w0 w R Bb gt ct TS at_ op xa xc PT) (j : Nat) (v : Value) {at2 op2 : Nat} (hv : (#[.slice (some ⟨gt, 0, none⟩) TS.length ct, .int .i64 (at_ : Int), .int .i64 (op : Int), .pointer (some ⟨Bb, 0, none⟩)] : Array Value).setIfInBounds j v = #[.slice (some ⟨gt, 0, none⟩) TS.length ct, .int .i64 (at2 : Int), .int .i64 (op2 : Int), .pointer (some ⟨Bb, 0, none⟩)]) : RdS w0 (w.setCell ⟨R, j, none⟩ v) R Bb gt ct TS at2 op2 xa xc PT where
  below := h.below.setCell (p := ⟨R, j, none⟩) h.geR _
  rbox := by rw [heap_setCell_same _ R j _ 199 _ h.rbox, hv]
  toks := ownsRow_mono h.toks (fun g hg => Below.heap_setCell _ _ _ _ (fun e => by cases hg; exact h.tR.1 e))
  bbox := (Below.heap_setCell _ _ _ _ (Ne.symm h.RB)).trans h.bbox
  typs := ownsRow_mono h.typs (fun g hg => Below.heap_setCell _ _ _ _ (fun e => h.tR.2.2.1 (by rw [hg, e])))
  nds x hx := ⟨hd_kept (h.nds x hx).1 (fun ad e _ => Below.heap_setCell _ _ _ _ (h.sep x hx ad e).1) (by simp), (h.nds x hx).2⟩
  sep x hx ad e := by
    obtain ⟨h1, h2, h3, h4⟩ := h.sep x hx ad e
    exact ⟨h1, h2, by simpa using h3, h4⟩
  geR := h.geR
  geB := h.geB
theorem grown_setRow (w : World) (B : Nat) (cs : Array Value) : w.grownBy (w.setRow B cs) (some B) := ⟨rfl, rfl, rfl, by rw [setRow_size]; exact Nat.le_refl _, fun j hj hne => setRow_other _ _ _ _ (fun e => hne (by rw [e]))⟩
/-- a block that is newer than the reader is turned. -/
theorem RdS.new {wo : World} {ato opo : Nat} (h : RdS w0 w R Bb gt ct TS at_ op xa xc PT) (ho : RdS w0 wo R Bb gt ct TS ato opo xa xc PT) {g : Nat} (hg : w.grownBy w' (some g)) (hn : wo.heap.size ≤ g) : RdS w0 w' R Bb gt ct TS at_ op xa xc PT where
  below := below_grow h.below hg h.below.size (fun k e => by cases e; exact Nat.le_trans ho.below.size hn)
  rbox := (hg.block R h.ltR (fun e => by cases e; have := ho.ltR; omega)).trans h.rbox
  toks := h.toks.kept hg (.inr (fun e => by cases e; have := (ho.toks.lt _ rfl).2; omega))
  bbox := (hg.block Bb h.ltB (fun e => by cases e; have := ho.ltB; omega)).trans h.bbox
  typs := h.typs.kept hg (by
    cases hs : (Value.slice xa PT.length xc).ownBlock with
    | none => exact .inl rfl
    | some k => exact .inr (fun e => by cases e; have := (ho.typs.lt _ hs).2; omega))
  nds x hx := ⟨hd_kept (h.nds x hx).1 (fun ad e hl => hg.block _ hl (fun e2 => by cases e2; have := (ho.sep x hx ad e).2.2.1; omega)) hg.size, (h.nds x hx).2⟩
  sep x hx ad e := by
    obtain ⟨h1, h2, h3, h4⟩ := h.sep x hx ad e
    exact ⟨h1, h2, Nat.lt_of_lt_of_le h3 hg.size, h4⟩
  geR := h.geR
  geB := h.geB
theorem RdA.new {wo : World} {own : Option Nat} (h : RdA wo w R Bb own) {g : Nat} (hg : w.grownBy w' (some g)) (hn : wo.heap.size ≤ g) : RdA wo w' R Bb own :=
  ⟨hg.os.trans h.os, hg.tape.trans h.tape, hg.output.trans h.output, Nat.le_trans h.size hg.size, fun b hb h1 h2 h3 => (hg.block b (Nat.lt_of_lt_of_le hb h.size) (fun e => by cases e; omega)).trans (h.block b hb h1 h2 h3)⟩
theorem tflat_at : ∀ (L : List Tk) (i j : Nat) (t : Tk), L[i]? = some t → j < 3 → (L.flatMap tcells)[i * 3 + j]? = (tcells t)[j]?
  | [], i, j, t, h, _ => by simp at h
  | z :: r, 0, j, t, h, hj => by
    obtain rfl : z = t := by simpa using h
    rw [List.flatMap_cons, List.getElem?_append_left (by simp [tcells]; omega)]
    simp
  | z :: r, i + 1, j, t, h, hj => by
    rw [List.flatMap_cons, List.getElem?_append_right (by simp [tcells]; omega)]
    have e : (i + 1) * 3 + j - (tcells z).length = i * 3 + j := by simp [tcells]; omega
    rw [e]
    exact tflat_at r i j t (by simpa using h) hj
theorem RdS.tok (h : RdS w0 w R Bb gt ct TS at_ op xa xc PT) {t : Tk} (ht : TS[at_]? = some t) : w.cell? ⟨gt, at_ * 3, none⟩ = some (.int .i64 t.kd) ∧ w.cell? ⟨gt, at_ * 3 + 1, none⟩ = some (.string t.tx) ∧ w.cell? ⟨gt, at_ * 3 + 2, none⟩ = some (.int .i64 (t.ps : Int)) ∧ gt < w.heap.size := by
  have hl := (List.getElem?_eq_some_iff.1 ht).1
  have hc : ∀ j, j < 3 → w.cell? ⟨gt, at_ * 3 + j, none⟩ = (tcells t)[j]? := fun j hj => by
    rw [h.toks.cellAt (at_ * 3 + j) (by omega)]
    exact tflat_at TS at_ j t ht hj
  exact ⟨hc 0 (by omega), hc 1 (by omega), hc 2 (by omega), (h.toks.lt gt rfl).2⟩
end
def NowPost (w : World) (t : Tk) (e : Ending) (w' : World) : Prop := e = .returned (.agg #[.int .i64 t.kd, .string t.tx, .int .i64 (t.ps : Int)]) ∧ Below w.heap.size w w'
theorem results_201c {fn : Func} {p : Tmp} (h : fn.results = #[.cell p 201]) (tmps : Array Value) (w : World) (g : Nat) (cs : Array Value) (hp : tmps.getD p undef = .pointer (some ⟨g, 0, none⟩)) (hg : w.heap[g]? = some (.cells cs 201 (0, 0))) (hs : cs.size = 3) :
    (results fn tmps).run Tryz.prog w = .ok (.agg cs) w :=
  results_cell_row (P := Tryz.prog) h tmps w g 201 cs (0, 0) _ hp hg Tryz.underlying201 rfl (by rw [hs]; kernel_rfl)
set_option maxRecDepth 20000 in
set_option maxHeartbeats 4000000 in
theorem now_any (w0 w : World) (R Bb gt ct : Nat) (TS : List Tk) (at_ op : Nat) (xa : Option Addr) (xc : Nat) (PT : List Nd) (hR : RdS w0 w R Bb gt ct TS at_ op xa xc PT) (t : Tk) (ht : TS[at_]? = some t) (hl : TS.length ≤ 100000) :
    Calls Tryz.prog 163 #[.pointer (some ⟨R, 0, none⟩)] w (NowPost w t) := by
  have HX : Hid ((w.alloc (.cells #[.int .i64 0, .string ⟨#[]⟩, .int .i64 0] 201)).heap[w.heap.size]? = some (.cells #[.int .i64 0, .string ⟨#[]⟩, .int .i64 0] 201 (0, 0))) := Lib.hid (heap_alloc_new w _)
  have HB : Hid (Below w.heap.size w (w.alloc (.cells #[.int .i64 0, .string ⟨#[]⟩, .int .i64 0] 201))) := Lib.hid ((Below.refl _ _).alloc (Nat.le_refl _) _)
  have HR := Lib.hid (hR.on HB.out)
  have hat := (List.getElem?_eq_some_iff.1 ht).1
  have HT := Lib.hid ht
  have hat2 : (at_ : Int) < TS.length := by omega
  clear hR ht
  go_enter Tryz.func163, Tryz.ntmps163
  go_upto_region 1 with (fail)
  generalize (w.alloc (.cells #[.int .i64 0, .string ⟨#[]⟩, .int .i64 0] 201)) = w1 at *
  have r0 : w1.cell? ⟨R, 0, none⟩ = some (.slice (some ⟨gt, 0, none⟩) TS.length ct) := (by rw [cell_of_row _ _ 0 _ 199 _ HR.out.rbox]; rfl)
  have r1 : w1.cell? ⟨R, 1, none⟩ = some (.int .i64 (at_ : Int)) := (by rw [cell_of_row _ _ 1 _ 199 _ HR.out.rbox]; rfl)
  obtain ⟨t0, t1, t2, t3⟩ := HR.out.tok HT.out
  have HXD : Hid (w1.drew.heap[w.heap.size]? = some (.cells #[.int .i64 0, .string ⟨#[]⟩, .int .i64 0] 201 (0, 0))) := Lib.hid HX.out
  go_wp2_with fail
  go_still_tail 10, (by kernel_rfl)
  refine wpList_store_row rfl 201 _ _ rfl w.heap.size _ rfl rfl 201 _ HXD.out (by kernel_rfl) rfl (by simp [Value.oneCell']) ?_
  go_wp2
  (try simp only [Exit.inBlock, Exit.then])
  exact bodyPost_ret (v := .agg #[.int .i64 t.kd, .string t.tx, .int .i64 (t.ps : Int)]) (results_201c (fn := Tryz.f163) (p := 2) rfl _ _ w.heap.size _ rfl (setRow_heap _ _ _ _ _ _ HXD.out) rfl) rfl
    ⟨rfl, below_rowP HB.out.drew (Nat.le_refl _)⟩
def NextPost (w0 w : World) (R Bb gt ct : Nat) (TS : List Tk) (at_ op : Nat) (xa : Option Addr) (xc : Nat) (PT : List Nd) (t : Tk) (e : Ending) (w' : World) : Prop := e = .returned (.agg #[.int .i64 t.kd, .string t.tx, .int .i64 (t.ps : Int)]) ∧ RdS w0 w' R Bb gt ct TS (if t.kd = 0 then at_ else at_ + 1) op xa xc PT ∧ RdA w w' R Bb (Value.slice xa PT.length xc).ownBlock
set_option maxRecDepth 20000 in
set_option maxHeartbeats 4000000 in
theorem next_any (w0 w : World) (R Bb gt ct : Nat) (TS : List Tk) (at_ op : Nat) (xa : Option Addr) (xc : Nat) (PT : List Nd) (hR : RdS w0 w R Bb gt ct TS at_ op xa xc PT) (t : Tk) (ht : TS[at_]? = some t) (hl : TS.length ≤ 100000) (hk : t.kd ≠ 0) :
    Calls Tryz.prog 132 #[.pointer (some ⟨R, 0, none⟩)] w (NextPost w0 w R Bb gt ct TS at_ op xa xc PT t) := by
  have HX : Hid ((w.alloc (.cells #[.int .i64 0, .string ⟨#[]⟩, .int .i64 0] 201)).heap[w.heap.size]? = some (.cells #[.int .i64 0, .string ⟨#[]⟩, .int .i64 0] 201 (0, 0))) := Lib.hid (heap_alloc_new w _)
  have HB : Hid (Below w.heap.size w (w.alloc (.cells #[.int .i64 0, .string ⟨#[]⟩, .int .i64 0] 201))) := Lib.hid ((Below.refl _ _).alloc (Nat.le_refl _) _)
  have HR0 := Lib.hid hR
  have HR := Lib.hid (hR.on HB.out)
  have hat := (List.getElem?_eq_some_iff.1 ht).1
  have HT := Lib.hid ht
  have hk2 : (t.kd != 0) = true := by simpa using hk
  have HK := Lib.hid hk
  have hwa : IntKind.i64.wrap ((at_ : Int) + 1) = ((at_ + 1 : Nat) : Int) := by rw [IntKind.wrap_i64]; omega
  clear hR ht hk
  go_enter Tryz.func132, Tryz.ntmps132
  go_upto_region 1 with (fail)
  generalize (w.alloc (.cells #[.int .i64 0, .string ⟨#[]⟩, .int .i64 0] 201)) = w1 at *
  have HL1 : Hid (w.heap.size < w1.heap.size) := Lib.hid (Array.getElem?_eq_some_iff.1 HX.out).1
  have HNO := Lib.hid (now_any w0 w1 R Bb gt ct TS at_ op xa xc PT HR.out t HT.out hl)
  go_upto_region 2 with (go_at_call 163; (with_reducible refine HNO.out.mono ?_); rintro e w2 ⟨rfl, hb2⟩; have HB2 := Lib.hid hb2; clear hb2)
  have HR2 := Lib.hid (HR.out.on HB2.out)
  have HY : Hid ((w2.alloc (.cells #[.int .i64 t.kd, .string t.tx, .int .i64 (t.ps : Int)] 201)).heap[w2.heap.size]? = some (.cells #[.int .i64 t.kd, .string t.tx, .int .i64 (t.ps : Int)] 201 (0, 0))) := Lib.hid (heap_alloc_new w2 _)
  have HB3 : Hid (Below w2.heap.size w2 (w2.alloc (.cells #[.int .i64 t.kd, .string t.tx, .int .i64 (t.ps : Int)] 201))) := Lib.hid ((Below.refl _ _).alloc (Nat.le_refl _) _)
  have HR3 := Lib.hid (HR2.out.on HB3.out)
  have HX3 := Lib.hid ((HB3.out.block _ (Nat.lt_of_lt_of_le HL1.out HB2.out.size)).trans ((HB2.out.block _ HL1.out).trans HX.out))
  have HBW : Hid (Below w.heap.size w (w2.alloc (.cells #[.int .i64 t.kd, .string t.tx, .int .i64 (t.ps : Int)] 201))) := Lib.hid (HB.out.trans ((HB2.out.trans (HB3.out.mono HB2.out.size)).mono HB.out.size))
  have HS2 : Hid (w.heap.size < w2.heap.size) := Lib.hid (Nat.lt_of_lt_of_le HL1.out HB2.out.size)
  generalize (w2.alloc (.cells #[.int .i64 t.kd, .string t.tx, .int .i64 (t.ps : Int)] 201)) = w3 at *
  have y0 : w3.cell? ⟨w2.heap.size, 0, none⟩ = some (.int .i64 t.kd) := (by rw [cell_of_row _ _ 0 _ 201 _ HY.out]; rfl)
  have r1 : w3.cell? ⟨R, 1, none⟩ = some (.int .i64 (at_ : Int)) := (by rw [cell_of_row _ _ 1 _ 199 _ HR3.out.rbox]; rfl)
  have rf : w3.frozen? ⟨R, 1, none⟩ = false := frozen_of_row _ _ 1 _ 199 HR3.out.rbox
  go_upto_region 4 with (fail)
  clear y0 r1 rf
  obtain ⟨w4, hw4⟩ : ∃ w4, w3.setCell ⟨R, 1, none⟩ (.int .i64 ((at_ : Int) + 1)) = w4 := ⟨_, rfl⟩
  have HR4 : Hid (RdS w0 w4 R Bb gt ct TS (at_ + 1) op xa xc PT) := Lib.hid (by rw [← hw4]; exact HR3.out.set 1 _ (by simp))
  have HRR : Hid (R ≠ w.heap.size ∧ R ≠ w2.heap.size) := Lib.hid ⟨(fun e => by have h1 := HR0.out.ltR; omega), (fun e => by have h1 := HR0.out.ltR; have := HS2.out; omega)⟩
  have HX4 : Hid (w4.heap[w.heap.size]? = some (.cells #[.int .i64 0, .string ⟨#[]⟩, .int .i64 0] 201 (0, 0))) := Lib.hid (by rw [← hw4, Below.heap_setCell _ _ _ _ (Ne.symm HRR.out.1)]; exact HX3.out)
  have HY4 : Hid (w4.heap[w2.heap.size]? = some (.cells #[.int .i64 t.kd, .string t.tx, .int .i64 (t.ps : Int)] 201 (0, 0))) := Lib.hid (by rw [← hw4, Below.heap_setCell _ _ _ _ (Ne.symm HRR.out.2)]; exact HY.out)
  have HA4 : Hid (RdA w w4 R Bb (Value.slice xa PT.length xc).ownBlock) := Lib.hid (by rw [← hw4]; exact (RdA.of_below HBW.out).trans (RdA.set 1 _) (fun g e => .inl e))
  rw [hw4]
  clear hw4
  have y0 : w4.cell? ⟨w2.heap.size, 0, none⟩ = some (.int .i64 t.kd) := (by rw [cell_of_row _ _ 0 _ 201 _ HY4.out]; rfl)
  have y1 : w4.cell? ⟨w2.heap.size, 1, none⟩ = some (.string t.tx) := (by rw [cell_of_row _ _ 1 _ 201 _ HY4.out]; rfl)
  have y2 : w4.cell? ⟨w2.heap.size, 2, none⟩ = some (.int .i64 (t.ps : Int)) := (by rw [cell_of_row _ _ 2 _ 201 _ HY4.out]; rfl)
  go_wp2_with (refine wpList_store_row rfl 201 _ _ rfl w.heap.size _ rfl rfl 201 _ HX4.out (by kernel_rfl) rfl (by simp [Value.oneCell']) ?_)
  (try simp only [Exit.inBlock, Exit.then])
  refine bodyPost_ret (v := .agg #[.int .i64 t.kd, .string t.tx, .int .i64 (t.ps : Int)]) (results_201c (fn := Tryz.f132) (p := 2) rfl _ _ w.heap.size _ rfl (setRow_heap _ _ _ _ _ _ HX4.out) rfl) rfl ⟨rfl, ?_, ?_⟩
  · rw [if_neg HK.out]
    exact HR4.out.new HR0.out (grown_setRow _ _ _) (Nat.le_refl _)
  · exact HA4.out.new (grown_setRow _ _ _) (Nat.le_refl _)
end Go.Proofs.YtifilhkkgkihpaaGreatDoor
set_option linter.unusedSimpArgs false
set_option linter.unusedVariables false
namespace Go.Proofs.YtifilhkkgkihpaaGreatDoor
open Go.RowKit
def isB (t : Tk) (S : List ByteArray) : Bool := (t.kd == 7 || t.kd == 8) && memB S t.tx
set_option maxRecDepth 20000 in
set_option maxHeartbeats 4000000 in
theorem is_any (w0 w : World) (R Bb gt ct : Nat) (TS : List Tk) (at_ op : Nat) (xa : Option Addr) (xc : Nat) (PT : List Nd) (hR : RdS w0 w R Bb gt ct TS at_ op xa xc PT) (t : Tk) (ht : TS[at_]? = some t) (hl : TS.length ≤ 100000) (gs n c : Nat) (S : List ByteArray) (hS : S.length = n) (hn : n ≤ 100000) (hgs : gs < w.heap.size) (hc : ∀ k s, S[k]? = some s → w.cell? ⟨gs, 0 + k, none⟩ = some (.string s)) :
    Calls Tryz.prog 131 #[.pointer (some ⟨R, 0, none⟩), .slice (some ⟨gs, 0, none⟩) n c] w (BoolPost w (isB t S)) := by
  have HNO := Lib.hid (now_any w0 w R Bb gt ct TS at_ op xa xc PT hR t ht hl)
  have HC := Lib.hid hc
  have HGS := Lib.hid hgs
  have HCT : Hid (∀ W', Below w.heap.size w W' → Calls Tryz.prog 171 #[.slice (some ⟨gs, 0, none⟩) n c, .string t.tx] W' fun e w' => e = .returned (.bool (memB S t.tx)) ∧ W' = w') := Lib.hid (fun W' hb => contains_any W' gs 0 n c S t.tx hS hn (Lib.hid (fun k s h => keepB hb hgs (hc k s h))))
  have HKD : Hid (isB t S = ((t.kd == 7 || t.kd == 8) && memB S t.tx)) := Lib.hid rfl
  generalize isB t S = q at *
  clear hR ht hc hgs
  by_cases h7 : t.kd = 7
  · have e7 : (t.kd == 7) = true := by simpa using h7
    have HQ : Hid (q = memB S t.tx) := Lib.hid (by rw [HKD.out, e7]; rfl)
    clear h7
    go_enter Tryz.func131, Tryz.ntmps131
    go_upto_region 2 with (go_at_call 163; (with_reducible refine HNO.out.mono ?_); rintro e w2 ⟨rfl, hb2⟩; have HB2 := Lib.hid hb2; clear hb2)
    have HY : Hid ((w2.alloc (.cells #[.int .i64 t.kd, .string t.tx, .int .i64 (t.ps : Int)] 201)).heap[w2.heap.size]? = some (.cells #[.int .i64 t.kd, .string t.tx, .int .i64 (t.ps : Int)] 201 (0, 0))) := Lib.hid (heap_alloc_new w2 _)
    have HBW : Hid (Below w.heap.size w (w2.alloc (.cells #[.int .i64 t.kd, .string t.tx, .int .i64 (t.ps : Int)] 201))) := Lib.hid (HB2.out.alloc HB2.out.size _)
    generalize (w2.alloc (.cells #[.int .i64 t.kd, .string t.tx, .int .i64 (t.ps : Int)] 201)) = w3 at *
    have y0 : w3.cell? ⟨w2.heap.size, 0, none⟩ = some (.int .i64 t.kd) := (by rw [cell_of_row _ _ 0 _ 201 _ HY.out]; rfl)
    have y1 : w3.cell? ⟨w2.heap.size, 1, none⟩ = some (.string t.tx) := (by rw [cell_of_row _ _ 1 _ 201 _ HY.out]; rfl)
    go_wp2_with (go_at_call 171; (with_reducible refine (HCT.out _ HBW.out).mono ?_); rintro e w3 ⟨rfl, rfl⟩)
    go_ret
    exact ⟨by rw [HQ.out]; rfl, HBW.out⟩
  · have e7 : (t.kd == 7) = false := by simpa using h7
    by_cases h8 : t.kd = 8
    · have e8 : (t.kd == 8) = true := by simpa using h8
      have HQ : Hid (q = memB S t.tx) := Lib.hid (by rw [HKD.out, e7, e8]; rfl)
      clear h7 h8
      go_enter Tryz.func131, Tryz.ntmps131
      go_upto_region 2 with (go_at_call 163; (with_reducible refine HNO.out.mono ?_); rintro e w2 ⟨rfl, hb2⟩; have HB2 := Lib.hid hb2; clear hb2)
      have HY : Hid ((w2.alloc (.cells #[.int .i64 t.kd, .string t.tx, .int .i64 (t.ps : Int)] 201)).heap[w2.heap.size]? = some (.cells #[.int .i64 t.kd, .string t.tx, .int .i64 (t.ps : Int)] 201 (0, 0))) := Lib.hid (heap_alloc_new w2 _)
      have HBW : Hid (Below w.heap.size w (w2.alloc (.cells #[.int .i64 t.kd, .string t.tx, .int .i64 (t.ps : Int)] 201))) := Lib.hid (HB2.out.alloc HB2.out.size _)
      generalize (w2.alloc (.cells #[.int .i64 t.kd, .string t.tx, .int .i64 (t.ps : Int)] 201)) = w3 at *
      have y0 : w3.cell? ⟨w2.heap.size, 0, none⟩ = some (.int .i64 t.kd) := (by rw [cell_of_row _ _ 0 _ 201 _ HY.out]; rfl)
      have y1 : w3.cell? ⟨w2.heap.size, 1, none⟩ = some (.string t.tx) := (by rw [cell_of_row _ _ 1 _ 201 _ HY.out]; rfl)
      go_wp2_with (go_at_call 171; (with_reducible refine (HCT.out _ HBW.out).mono ?_); rintro e w3 ⟨rfl, rfl⟩)
      go_ret
      exact ⟨by rw [HQ.out]; rfl, HBW.out⟩
    · have e8 : (t.kd == 8) = false := by simpa using h8
      have HQ : Hid (q = false) := Lib.hid (by rw [HKD.out, e7, e8]; rfl)
      clear h7 h8
      go_enter Tryz.func131, Tryz.ntmps131
      go_upto_region 2 with (go_at_call 163; (with_reducible refine HNO.out.mono ?_); rintro e w2 ⟨rfl, hb2⟩; have HB2 := Lib.hid hb2; clear hb2)
      have HY : Hid ((w2.alloc (.cells #[.int .i64 t.kd, .string t.tx, .int .i64 (t.ps : Int)] 201)).heap[w2.heap.size]? = some (.cells #[.int .i64 t.kd, .string t.tx, .int .i64 (t.ps : Int)] 201 (0, 0))) := Lib.hid (heap_alloc_new w2 _)
      have HBW : Hid (Below w.heap.size w (w2.alloc (.cells #[.int .i64 t.kd, .string t.tx, .int .i64 (t.ps : Int)] 201))) := Lib.hid (HB2.out.alloc HB2.out.size _)
      generalize (w2.alloc (.cells #[.int .i64 t.kd, .string t.tx, .int .i64 (t.ps : Int)] 201)) = w3 at *
      have y0 : w3.cell? ⟨w2.heap.size, 0, none⟩ = some (.int .i64 t.kd) := (by rw [cell_of_row _ _ 0 _ 201 _ HY.out]; rfl)
      go_wp2
      go_ret
      exact ⟨by rw [HQ.out]; rfl, HBW.out⟩
/-- an act that hands nothing back. -/
def ActPost (w0 w : World) (R Bb gt ct : Nat) (TS : List Tk) (at_ op : Nat) (xa : Option Addr) (xc : Nat) (PT : List Nd) (e : Ending) (w' : World) : Prop := e = .returned (.tuple #[]) ∧ RdS w0 w' R Bb gt ct TS at_ op xa xc PT ∧ RdA w w' R Bb (Value.slice xa PT.length xc).ownBlock
set_option maxRecDepth 20000 in
theorem enter_any (w0 w : World) (R Bb gt ct : Nat) (TS : List Tk) (at_ op : Nat) (xa : Option Addr) (xc : Nat) (PT : List Nd) (hR : RdS w0 w R Bb gt ct TS at_ op xa xc PT) (ho : op < 256) :
    Calls Tryz.prog 128 #[.pointer (some ⟨R, 0, none⟩)] w (ActPost w0 w R Bb gt ct TS at_ (op + 1) xa xc PT) := by
  have HR := Lib.hid hR
  have HR2 : Hid (RdS w0 (w.setCell ⟨R, 2, none⟩ (.int .i64 ((op : Int) + 1))) R Bb gt ct TS at_ (op + 1) xa xc PT) := Lib.hid (hR.set 2 _ (by simp))
  have r2 : w.cell? ⟨R, 2, none⟩ = some (.int .i64 (op : Int)) := (by rw [cell_of_row _ _ 2 _ 199 _ hR.rbox]; rfl)
  have rf : w.frozen? ⟨R, 2, none⟩ = false := frozen_of_row _ _ 2 _ 199 hR.rbox
  have rl : R < w.heap.size := hR.ltR
  have hno : ¬ (256 : Int) < (op : Int) + 1 := by omega
  clear hR
  go_enter Tryz.func128, Tryz.ntmps128
  go_wp2
  go_end0
  first | exact ⟨rfl, HR2.out, RdA.set 2 _⟩ | exact ⟨HR2.out, RdA.set 2 _⟩
set_option maxRecDepth 20000 in
theorem leave_d (w0 w : World) (u : FrameMode) (R Bb gt ct : Nat) (TS : List Tk) (at_ op : Nat) (xa : Option Addr) (xc : Nat) (PT : List Nd) (hR : RdS w0 w R Bb gt ct TS at_ (op + 1) xa xc PT) (ho : op < 256) :
    CallsD Tryz.prog 129 #[.pointer (some ⟨R, 0, none⟩)] u w fun e u' w' => u' = u ∧ ActPost w0 w R Bb gt ct TS at_ op xa xc PT e w' := by
  have HR2 : Hid (RdS w0 (w.setCell ⟨R, 2, none⟩ (.int .i64 (op : Int))) R Bb gt ct TS at_ op xa xc PT) := Lib.hid (hR.set 2 _ (by simp))
  have r2 : w.cell? ⟨R, 2, none⟩ = some (.int .i64 ((op : Int) + 1)) := (by rw [cell_of_row _ _ 2 _ 199 _ hR.rbox]; rfl)
  have rf : w.frozen? ⟨R, 2, none⟩ = false := frozen_of_row _ _ 2 _ 199 hR.rbox
  have rl : R < w.heap.size := hR.ltR
  have ho1 : (op : Int) ≤ 256 := by omega
  clear hR
  go_enter_d Tryz.func129, Tryz.ntmps129
  go_wp2
  go_end0
  first | exact ⟨rfl, rfl, HR2.out, RdA.set 2 _⟩ | exact ⟨rfl, HR2.out, RdA.set 2 _⟩ | exact ⟨HR2.out, RdA.set 2 _⟩
end Go.Proofs.YtifilhkkgkihpaaGreatDoor
set_option linter.unusedSimpArgs false
set_option linter.unusedVariables false
namespace Go.Proofs.YtifilhkkgkihpaaGreatDoor
open Go.RowKit
section
variable {w0 w w' : World} {R Bb gt ct : Nat} {TS : List Tk} {at_ op : Nat} {xa : Option Addr} {xc : Nat} {PT : List Nd}
theorem RdS.step (h : RdS w0 w R Bb gt ct TS at_ op xa xc PT) {x : Hd} {ps : Int} {wd : World} (hd : Below w.heap.size w wd) {o : Obj} {w6 : World} {g6 c6 : Nat}
    (hx : HdOk wd x) (hxn : (x.na = none → x.nc = 0) ∧ (x.ka = none → x.kc = 0)) (hxs : ∀ ad, blkOf x ad → w.heap.size ≤ ad.block ∧ ad.block < wd.heap.size)
    (hg : (wd.alloc o).grownBy w6 (Value.slice xa PT.length xc).ownBlock) (hown : w6.ownsRow w0.heap.size 152 6 (.slice (some ⟨g6, 0, none⟩) (PT.length + 1) c6) (PT.length + 1) (PT.flatMap ncells ++ ncells (x, ps))) (hw : (Value.slice xa PT.length xc).ownBlock = some g6 ∨ g6 = (wd.alloc o).heap.size) :
    RdS w0 (w6.setCell ⟨Bb, 1, none⟩ (.slice (some ⟨g6, 0, none⟩) (PT.length + 1) c6)) R Bb gt ct TS at_ op (some ⟨g6, 0, none⟩) c6 (PT ++ [(x, ps)]) ∧
    RdA w (w6.setCell ⟨Bb, 1, none⟩ (.slice (some ⟨g6, 0, none⟩) (PT.length + 1) c6)) R Bb (Value.slice xa PT.length xc).ownBlock ∧
    ((Value.slice xa PT.length xc).ownBlock = some g6 ∨ w.heap.size ≤ g6) := by
  have hbd : Below w.heap.size w (wd.alloc o) := hd.alloc hd.size _
  have hsd : (wd.alloc o).heap.size = wd.heap.size + 1 := by simp
  have hds := hd.size
  have hBl := h.ltB
  have hRl := h.ltR
  have hlo : ∀ b, b < w.heap.size → (Value.slice xa PT.length xc).ownBlock ≠ some b → w6.heap[b]? = w.heap[b]? := fun b hb e => by
    rw [hg.block b (by omega) (fun e' => e e'.symm)]
    exact hbd.block b hb
  have htR := h.tR
  have hB6 : w6.heap[Bb]? = some (.cells #[.slice none 0 0, .slice xa PT.length xc, .slice none 0 0] 235 (0, 0)) := (hlo Bb hBl htR.2.2.2.1).trans h.bbox
  have hsz : w.heap.size ≤ w6.heap.size := Nat.le_trans hbd.size hg.size
  have hgs := hg.size
  have hkeep : ∀ b, b < w.heap.size → b ≠ Bb → (Value.slice xa PT.length xc).ownBlock ≠ some b → (w6.setCell ⟨Bb, 1, none⟩ (.slice (some ⟨g6, 0, none⟩) (PT.length + 1) c6)).heap[b]? = w.heap[b]? := fun b hb h1 h2 => by
    rw [Below.heap_setCell _ _ _ _ h1]
    exact hlo b hb h2
  have hgb : ∀ b, b < w.heap.size → (Value.slice xa PT.length xc).ownBlock ≠ some b → g6 ≠ b := fun b hb hne e => by
    rcases hw with r | r
    · exact hne (by rw [r, e])
    · omega
  have howl : ∀ g, (Value.slice xa PT.length xc).ownBlock = some g → w0.heap.size ≤ g ∧ g < w.heap.size := fun g e => h.typs.lt g e
  have hbs := h.below.size
  have e1 : (PT ++ [(x, ps)]).length = PT.length + 1 := by simp
  refine ⟨?_, ⟨hg.os.trans hbd.os, hg.tape.trans hbd.tape, hg.output.trans hbd.output, by simpa using hsz, fun b hb h1 h2 h3 => hkeep b hb h2 h3⟩, ?_⟩
  · exact {
      below := ⟨hg.os.trans (hbd.os.trans h.below.os), hg.tape.trans (hbd.tape.trans h.below.tape), hg.output.trans (hbd.output.trans h.below.output), by simpa using Nat.le_trans hbs hsz, fun b hb => by
        rw [hkeep b (by omega) (fun e => by have := h.geB; omega) (fun e => by have := howl _ e; omega)]
        exact h.below.block b hb⟩
      rbox := (hkeep R hRl h.RB htR.2.2.1).trans h.rbox
      toks := ownsRow_mono h.toks (fun g e => by
        cases e
        exact hkeep gt (h.toks.lt _ rfl).2 htR.2.1 htR.2.2.2.2)
      bbox := by
        rw [e1, heap_setCell_same _ Bb 1 _ 235 _ hB6]
        rfl
      typs := by
        rw [e1, List.flatMap_append]
        have := ownsRow_mono (w' := w6.setCell ⟨Bb, 1, none⟩ (.slice (some ⟨g6, 0, none⟩) (PT.length + 1) c6)) hown (fun g e => by
          cases e
          exact Below.heap_setCell _ _ _ _ (hgb Bb hBl htR.2.2.2.1))
        simpa using this
      nds := fun z hz => by
        rcases List.mem_append.1 hz with r | r
        · exact ⟨hd_kept (h.nds z r).1 (fun ad e _ => by obtain ⟨s1, s2, s3, s4⟩ := h.sep z r ad e; exact hkeep _ s3 s2 s4) (by simpa using hsz), (h.nds z r).2⟩
        · obtain rfl : z = (x, ps) := by simpa using r
          refine ⟨hd_kept hx (fun ad e hl => ?_) (by simp; omega), hxn⟩
          obtain ⟨s1, s2⟩ := hxs ad e
          rw [Below.heap_setCell _ _ _ _ (by simp; omega), hg.block _ (by omega) (fun e2 => by have := howl _ e2.symm; omega), Below.heap_alloc _ _ _ s2]
      sep := fun z hz ad e => by
        rcases List.mem_append.1 hz with r | r
        · obtain ⟨s1, s2, s3, s4⟩ := h.sep z r ad e
          exact ⟨s1, s2, by simp; omega, fun e2 => hgb _ s3 s4 (by simpa [Value.ownBlock] using e2)⟩
        · obtain rfl : z = (x, ps) := by simpa using r
          obtain ⟨s1, s2⟩ := hxs ad e
          refine ⟨by omega, by omega, by simp; omega, fun e2 => ?_⟩
          have e3 : g6 = ad.block := by simpa [Value.ownBlock] using e2
          rcases hw with q | q
          · have := howl _ q; omega
          · omega
      geR := h.geR
      geB := h.geB }
  · rcases hw with q | q
    · exact .inl q
    · exact .inr (by omega)
end
/-- a type more: what is handed back is told by rv. -/
def TyPost (w0 w : World) (R Bb gt ct : Nat) (TS : List Tk) (at_ op : Nat) (xa : Option Addr) (xc : Nat) (PT : List Nd) (kd ps : Int) (NS : List ByteArray) (KS : List Int) (o : Bool) (rv : Value) (e : Ending) (w' : World) : Prop :=
  ∃ (y : Hd) (xa' : Option Addr) (xc' : Nat), e = .returned rv ∧ y.kd = kd ∧ y.NS = NS ∧ y.KS = KS ∧ y.op = o ∧ RdS w0 w' R Bb gt ct TS at_ op xa' xc' (PT ++ [(y, ps)]) ∧ RdA w w' R Bb (Value.slice xa PT.length xc).ownBlock ∧ (∀ g, (Value.slice xa' (PT.length + 1) xc').ownBlock = some g → (Value.slice xa PT.length xc).ownBlock = some g ∨ w.heap.size ≤ g)
theorem Tryz.infoTn : (Tryz.prog.info? 152).map (fun i => (i.zero, i.size, i.bytes)) = some (some (.agg #[.int .i64 0, .int .i64 0, .string ⟨#[]⟩, .slice none 0 0, .slice none 0 0, .bool false]), 6, 88) := by kernel_rfl
end Go.Proofs.YtifilhkkgkihpaaGreatDoor
set_option linter.unusedSimpArgs false
set_option linter.unusedVariables false
namespace Go.Proofs.YtifilhkkgkihpaaGreatDoor
open Go.RowKit
set_option maxRecDepth 20000 in
set_option maxHeartbeats 8000000 in
theorem type_any (w0 w : World) (R Bb gt ct : Nat) (TS : List Tk) (at_ op : Nat) (xa : Option Addr) (xc : Nat) (PT : List Nd) (hR : RdS w0 w R Bb gt ct TS at_ op xa xc PT) (hp : PT.length ≤ 1000) (kd ps : Int) (na : Option Addr) (nn nc : Nat) (NS : List ByteArray) (ka : Option Addr) (kn kc : Nat) (KS : List Int) (o : Bool) (hN : NamesAt w na nn NS) (hK : IntsAt w ka kn KS) (hn : nn ≤ 100000) (hk : kn ≤ 1000) (hnc : na = none → nc = 0) (hkc : ka = none → kc = 0) (hsm : ∀ s ∈ NS, s.size ≤ 100000) :
    Calls Tryz.prog 172 #[.pointer (some ⟨Bb, 0, none⟩), .agg #[.int .i64 kd, .int .i64 ps, .string ⟨#[]⟩, .slice na nn nc, .slice ka kn kc, .bool o]] w (TyPost w0 w R Bb gt ct TS at_ op xa xc PT kd ps NS KS o (.tuple #[.int .i64 (PT.length : Int), .int .i64 0])) := by
  have HN := Lib.hid hN
  have HK := Lib.hid hK
  have HR := Lib.hid hR
  have HSM := Lib.hid hsm
  have HNC := Lib.hid hnc
  have HKC := Lib.hid hkc
  have hp2 : (PT.length : Int) < 65536 := by omega
  have hp3 : ¬ (65536 : Int) ≤ PT.length := by omega
  have hwp : IntKind.i64.wrap (((PT.length + 1 : Nat) : Int) - 1) = (PT.length : Int) := by rw [IntKind.wrap_i64]; omega
  have HP := Lib.hid hp
  clear hp
  have HC : Hid (∀ w', Below w.heap.size w w' → Calls Tryz.prog 220 #[.agg #[.int .i64 kd, .int .i64 ps, .string ⟨#[]⟩, .slice na nn nc, .slice ka kn kc, .bool o]] w' (ClonePostT w' kd ps ⟨#[]⟩ nn NS kn KS o)) := Lib.hid (fun w' hb => clone_type w' kd ps ⟨#[]⟩ na nn nc NS ka kn kc KS o (HN.out.on hb) (HK.out.on hb) hn (by omega) hnc hkc)
  obtain ⟨i0, hi9, hz0, hz1, hz2⟩ := info_parts Tryz.infoTn
  have HIF := Lib.hid hi9
  have HIF0 := Lib.hid hz0
  have HIF1 := Lib.hid hz1
  have HIF2 := Lib.hid hz2
  have HX : Hid ((w.alloc (.cells #[.int .i64 kd, .int .i64 ps, .string ⟨#[]⟩, .slice na nn nc, .slice ka kn kc, .bool o] 152)).heap[w.heap.size]? = some (.cells #[.int .i64 kd, .int .i64 ps, .string ⟨#[]⟩, .slice na nn nc, .slice ka kn kc, .bool o] 152 (0, 0))) := Lib.hid (heap_alloc_new w _)
  have HB : Hid (Below w.heap.size w (w.alloc (.cells #[.int .i64 kd, .int .i64 ps, .string ⟨#[]⟩, .slice na nn nc, .slice ka kn kc, .bool o] 152))) := Lib.hid ((Below.refl _ _).alloc (Nat.le_refl _) _)
  have HW0 : Hid (w0.heap.size ≤ w.heap.size) := Lib.hid hR.below.size
  clear hN hK hR hsm hnc hkc hi9 hz0 hz1 hz2
  go_enter Tryz.func172, Tryz.ntmps172
  go_upto_region 1 with (fail)
  generalize (w.alloc (.cells #[.int .i64 kd, .int .i64 ps, .string ⟨#[]⟩, .slice na nn nc, .slice ka kn kc, .bool o] 152)) = w1 at *
  have HR1 := Lib.hid (HR.out.on HB.out)
  have b1 : w1.cell? ⟨Bb, 1, none⟩ = some (.slice xa PT.length xc) := (by rw [cell_of_row _ _ 1 _ 235 _ HR1.out.bbox]; rfl)
  go_upto_region 3 with (fail)
  go_upto_region 5 with (fail)
  have c0 : w1.cell? ⟨w.heap.size, 0, none⟩ = some (.int .i64 kd) := (by rw [cell_of_row _ _ 0 _ 152 _ HX.out]; rfl)
  have c1 : w1.cell? ⟨w.heap.size, 1, none⟩ = some (.int .i64 ps) := (by rw [cell_of_row _ _ 1 _ 152 _ HX.out]; rfl)
  have c2 : w1.cell? ⟨w.heap.size, 2, none⟩ = some (.string ⟨#[]⟩) := (by rw [cell_of_row _ _ 2 _ 152 _ HX.out]; rfl)
  have c3 : w1.cell? ⟨w.heap.size, 3, none⟩ = some (.slice na nn nc) := (by rw [cell_of_row _ _ 3 _ 152 _ HX.out]; rfl)
  have c4 : w1.cell? ⟨w.heap.size, 4, none⟩ = some (.slice ka kn kc) := (by rw [cell_of_row _ _ 4 _ 152 _ HX.out]; rfl)
  have c5 : w1.cell? ⟨w.heap.size, 5, none⟩ = some (.bool o) := (by rw [cell_of_row _ _ 5 _ 152 _ HX.out]; rfl)
  go_region_law
    (first
      | (go_simp; go_at_call 220; (with_reducible refine (HC.out _ (by exact HB.out.drew)).mono ?_); rintro e w5 ⟨a5, cc5, b5, d5, rfl, hn5, hk5, hsp5, hza5, hzb5, hla5, hlb5, hb5⟩; have HBD : Hid (Below w1.heap.size w1 w5) := Lib.hid ((Below.refl _ _).drew.trans hb5); have HB5 : Hid (Below w.heap.size w w5) := Lib.hid (HB.out.trans (HBD.out.mono HB.out.size)); have HX5 : Hid (HdOk w5 ⟨kd, a5, nn, cc5, NS, b5, kn, d5, KS, o⟩) := Lib.hid ⟨hn5, own_ints hk5, hn, hk, HSM.out⟩; have HXN5 : Hid ((a5 = none → cc5 = 0) ∧ (b5 = none → d5 = 0)) := Lib.hid ⟨hza5, hzb5⟩; have HR5 := Lib.hid (HR1.out.on HBD.out); have HL5 := Lib.hid hla5; have HLB5 := Lib.hid hlb5; have HNK := Lib.hid hn5; have HKK := Lib.hid hk5; have b5x : w5.cell? ⟨Bb, 1, none⟩ = some (.slice xa PT.length xc) := (by rw [cell_of_row _ _ 1 _ 235 _ HR5.out.bbox]; rfl); have b5y : (w5.alloc (.cells #[.int .i64 kd, .int .i64 ps, .string ⟨#[]⟩, .slice a5 nn cc5, .slice b5 kn d5, .bool o] 152)).cell? ⟨Bb, 1, none⟩ = some (.slice xa PT.length xc) := (by rw [cell_of_row _ _ 1 _ 235 _ ((Below.heap_alloc _ _ _ HR5.out.ltB).trans HR5.out.bbox)]; rfl); have HO5 : Hid ((w5.alloc (.cells #[.int .i64 kd, .int .i64 ps, .string ⟨#[]⟩, .slice a5 nn cc5, .slice b5 kn d5, .bool o] 152)).ownsRow w0.heap.size 152 6 (.slice xa PT.length xc) PT.length (PT.flatMap ncells)) := Lib.hid (HR5.out.typs.alloc _); clear hn5 hk5 hsp5 hza5 hzb5 hla5 hlb5 hb5)
      | (refine step_append_lies (w5.alloc (.cells #[.int .i64 kd, .int .i64 ps, .string ⟨#[]⟩, .slice a5 nn cc5, .slice b5 kn d5, .bool o] 152)) rfl _ _ 105 rfl w0.heap.size 152 i0 (.agg #[.int .i64 0, .int .i64 0, .string ⟨#[]⟩, .slice none 0 0, .slice none 0 0, .bool false]) 6 88 Tryz.underlying105 HIF.out HIF0.out HIF1.out HIF2.out rfl (by decide) (.slice xa PT.length xc) PT.length (PT.flatMap ncells) rfl HO5.out ⟨w5.heap.size, 0, none⟩ 1 1 [.int .i64 kd, .int .i64 ps, .string ⟨#[]⟩, .slice a5 nn cc5, .slice b5 kn d5, .bool o] rfl rfl (news_of (heap_alloc_new w5 _)) (by simp [Value.oneCell']) (by decide) (by unfold maxLen; have := HP.out; omega) (by have := HP.out; omega) (by have h1 := HW0.out; have h2 := HB5.out.size; simp; omega) _ rfl ?_; intro g6 cc6 w6 hown6 hgr6 hat6 hlt6; have HOW6 := Lib.hid hown6; have HGR6 := Lib.hid hgr6; have HAT6 := Lib.hid hat6; have HBB : Hid (w6.heap[Bb]? = some (.cells #[.slice none 0 0, .slice xa PT.length xc, .slice none 0 0] 235 (0, 0))) := Lib.hid (by rw [hgr6.block Bb (by have := HR5.out.ltB; simp; omega) (fun e => HR5.out.tR.2.2.2.1 e.symm), Below.heap_alloc _ _ _ HR5.out.ltB]; exact HR5.out.bbox); have b6x : w6.cell? ⟨Bb, 1, none⟩ = some (.slice xa PT.length xc) := (by rw [cell_of_row _ _ 1 _ 235 _ HBB.out]; rfl); have f6x : w6.frozen? ⟨Bb, 1, none⟩ = false := frozen_of_row _ _ 1 _ 235 HBB.out; have l6x : Bb < w6.heap.size := (Array.getElem?_eq_some_iff.1 HBB.out).1; clear hown6 hgr6 hat6 hlt6)
      | fail)
  all_goals
    have HST := Lib.hid (HR.out.step HB5.out (x := ⟨kd, a5, nn, cc5, NS, b5, kn, d5, KS, o⟩) (ps := ps) HX5.out HXN5.out (fun ad e => by
      rcases e with ⟨e1, e2⟩ | ⟨e1, e2⟩
      · refine ⟨Nat.le_trans HB.out.size (HL5.out ad e1), ?_⟩
        rcases HNK.out.2 with h9 | ⟨g, oo, e3, hl, _⟩
        · exact absurd h9 e2
        · simp only at e1
          rw [e3] at e1; cases e1; exact hl
      · refine ⟨Nat.le_trans HB.out.size (HLB5.out ad e1), ?_⟩
        simp only at e1
        subst e1
        exact (HKK.out.lt _ rfl).2) HGR6.out HOW6.out HAT6.out)
    obtain ⟨w7, hw7⟩ : ∃ w7, w6.setCell ⟨Bb, 1, none⟩ (.slice (some ⟨g6, 0, none⟩) (PT.length + 1) cc6) = w7 := ⟨_, rfl⟩
    have HST7 := HST
    rw [hw7] at HST7
    clear HST b6x f6x l6x b5x b5y b1
    rw [hw7]
    clear hw7
    have b7 : w7.cell? ⟨Bb, 1, none⟩ = some (.slice (some ⟨g6, 0, none⟩) (PT.length + 1) cc6) := (by rw [cell_of_row _ _ 1 _ 235 _ HST7.out.1.bbox]; simp)
    go_wp2
    go_ret2
    exact ⟨_, _, _, rfl, rfl, rfl, rfl, rfl, HST7.out.1, HST7.out.2.1, fun g e => by
      have e3 : g6 = g := by simpa [Value.ownBlock] using e
      rw [← e3]
      exact HST7.out.2.2⟩
end Go.Proofs.YtifilhkkgkihpaaGreatDoor
set_option linter.unusedSimpArgs false
set_option linter.unusedVariables false
namespace Go.Proofs.YtifilhkkgkihpaaGreatDoor
open Go.RowKit
set_option maxRecDepth 20000 in
set_option maxHeartbeats 4000000 in
theorem next_end (w0 w : World) (R Bb gt ct : Nat) (TS : List Tk) (at_ op : Nat) (xa : Option Addr) (xc : Nat) (PT : List Nd) (hR : RdS w0 w R Bb gt ct TS at_ op xa xc PT) (t : Tk) (ht : TS[at_]? = some t) (hl : TS.length ≤ 100000) (hk : t.kd = 0) :
    Calls Tryz.prog 132 #[.pointer (some ⟨R, 0, none⟩)] w (NextPost w0 w R Bb gt ct TS at_ op xa xc PT t) := by
  have HX : Hid ((w.alloc (.cells #[.int .i64 0, .string ⟨#[]⟩, .int .i64 0] 201)).heap[w.heap.size]? = some (.cells #[.int .i64 0, .string ⟨#[]⟩, .int .i64 0] 201 (0, 0))) := Lib.hid (heap_alloc_new w _)
  have HB : Hid (Below w.heap.size w (w.alloc (.cells #[.int .i64 0, .string ⟨#[]⟩, .int .i64 0] 201))) := Lib.hid ((Below.refl _ _).alloc (Nat.le_refl _) _)
  have HR0 := Lib.hid hR
  have HR := Lib.hid (hR.on HB.out)
  have hat := (List.getElem?_eq_some_iff.1 ht).1
  have HT := Lib.hid ht
  have hk2 : (t.kd != 0) = false := by simpa using hk
  have HK := Lib.hid hk
  clear hR ht hk
  go_enter Tryz.func132, Tryz.ntmps132
  go_upto_region 1 with (fail)
  generalize (w.alloc (.cells #[.int .i64 0, .string ⟨#[]⟩, .int .i64 0] 201)) = w1 at *
  have HL1 : Hid (w.heap.size < w1.heap.size) := Lib.hid (Array.getElem?_eq_some_iff.1 HX.out).1
  have HNO := Lib.hid (now_any w0 w1 R Bb gt ct TS at_ op xa xc PT HR.out t HT.out hl)
  go_upto_region 2 with (go_at_call 163; (with_reducible refine HNO.out.mono ?_); rintro e w2 ⟨rfl, hb2⟩; have HB2 := Lib.hid hb2; clear hb2)
  have HR2 := Lib.hid (HR.out.on HB2.out)
  have HY : Hid ((w2.alloc (.cells #[.int .i64 t.kd, .string t.tx, .int .i64 (t.ps : Int)] 201)).heap[w2.heap.size]? = some (.cells #[.int .i64 t.kd, .string t.tx, .int .i64 (t.ps : Int)] 201 (0, 0))) := Lib.hid (heap_alloc_new w2 _)
  have HB3 : Hid (Below w2.heap.size w2 (w2.alloc (.cells #[.int .i64 t.kd, .string t.tx, .int .i64 (t.ps : Int)] 201))) := Lib.hid ((Below.refl _ _).alloc (Nat.le_refl _) _)
  have HR3 := Lib.hid (HR2.out.on HB3.out)
  have HX3 := Lib.hid ((HB3.out.block _ (Nat.lt_of_lt_of_le HL1.out HB2.out.size)).trans ((HB2.out.block _ HL1.out).trans HX.out))
  have HBW : Hid (Below w.heap.size w (w2.alloc (.cells #[.int .i64 t.kd, .string t.tx, .int .i64 (t.ps : Int)] 201))) := Lib.hid (HB.out.trans ((HB2.out.trans (HB3.out.mono HB2.out.size)).mono HB.out.size))
  have HS2 : Hid (w.heap.size < w2.heap.size) := Lib.hid (Nat.lt_of_lt_of_le HL1.out HB2.out.size)
  generalize (w2.alloc (.cells #[.int .i64 t.kd, .string t.tx, .int .i64 (t.ps : Int)] 201)) = w3 at *
  have y0 : w3.cell? ⟨w2.heap.size, 0, none⟩ = some (.int .i64 t.kd) := (by rw [cell_of_row _ _ 0 _ 201 _ HY.out]; rfl)
  clear y0
  obtain ⟨w4, rfl⟩ : ∃ w4, w4 = w3 := ⟨_, rfl⟩
  have y0 : w4.cell? ⟨w2.heap.size, 0, none⟩ = some (.int .i64 t.kd) := (by rw [cell_of_row _ _ 0 _ 201 _ HY.out]; rfl)
  have y1 : w4.cell? ⟨w2.heap.size, 1, none⟩ = some (.string t.tx) := (by rw [cell_of_row _ _ 1 _ 201 _ HY.out]; rfl)
  have y2 : w4.cell? ⟨w2.heap.size, 2, none⟩ = some (.int .i64 (t.ps : Int)) := (by rw [cell_of_row _ _ 2 _ 201 _ HY.out]; rfl)
  go_wp2_with (refine wpList_store_row rfl 201 _ _ rfl w.heap.size _ rfl rfl 201 _ HX3.out (by kernel_rfl) rfl (by simp [Value.oneCell']) ?_)
  (try simp only [Exit.inBlock, Exit.then])
  refine bodyPost_ret (v := .agg #[.int .i64 t.kd, .string t.tx, .int .i64 (t.ps : Int)]) (results_201c (fn := Tryz.f132) (p := 2) rfl _ _ w.heap.size _ rfl (setRow_heap _ _ _ _ _ _ HX3.out) rfl) rfl ⟨rfl, ?_, ?_⟩
  · rw [if_pos HK.out]
    exact HR3.out.new HR0.out (grown_setRow _ _ _) (Nat.le_refl _)
  · exact (RdA.of_below HBW.out).new (grown_setRow _ _ _) (Nat.le_refl _)
theorem field_201 (w : World) (a b c : Value) (n : Nat) (v : Value) (hn : n < 3) (hv : #[a, b, c][n]? = some v) : (Instr.field 201 (.agg #[a, b, c]) n).run Tryz.prog w = .ok v w := by
  match n, hn with
  | 0, _ => simp [Instr.field, part, isAgg, asAgg, run_underlying Tryz.underlying201, run_underlying Tryz.underlying3, run_underlying Tryz.underlying9] at hv ⊢; exact hv
  | 1, _ => simp [Instr.field, part, isAgg, asAgg, run_underlying Tryz.underlying201, run_underlying Tryz.underlying3, run_underlying Tryz.underlying9] at hv ⊢; exact hv
  | 2, _ => simp [Instr.field, part, isAgg, asAgg, run_underlying Tryz.underlying201, run_underlying Tryz.underlying3, run_underlying Tryz.underlying9] at hv ⊢; exact hv
theorem field_201_0 (w : World) (a b c : Value) : (Instr.field 201 (.agg #[a, b, c]) 0).run Tryz.prog w = .ok a w := field_201 w a b c 0 a (by omega) rfl
theorem field_201_2 (w : World) (a b c : Value) : (Instr.field 201 (.agg #[a, b, c]) 2).run Tryz.prog w = .ok c w := field_201 w a b c 2 c (by omega) rfl
theorem next_all (w0 w : World) (R Bb gt ct : Nat) (TS : List Tk) (at_ op : Nat) (xa : Option Addr) (xc : Nat) (PT : List Nd) (hR : RdS w0 w R Bb gt ct TS at_ op xa xc PT) (t : Tk) (ht : TS[at_]? = some t) (hl : TS.length ≤ 100000) :
    Calls Tryz.prog 132 #[.pointer (some ⟨R, 0, none⟩)] w (NextPost w0 w R Bb gt ct TS at_ op xa xc PT t) := by
  by_cases hk : t.kd = 0
  · exact next_end w0 w R Bb gt ct TS at_ op xa xc PT hR t ht hl hk
  · exact next_any w0 w R Bb gt ct TS at_ op xa xc PT hR t ht hl hk
set_option maxRecDepth 20000 in
set_option maxHeartbeats 4000000 in
theorem kind_ok (w0 w : World) (R Bb gt ct : Nat) (TS : List Tk) (at_ op : Nat) (xa : Option Addr) (xc : Nat) (PT : List Nd) (hR : RdS w0 w R Bb gt ct TS at_ op xa xc PT) (t : Tk) (ht : TS[at_]? = some t) (hl : TS.length ≤ 100000) :
    Calls Tryz.prog 126 #[.pointer (some ⟨R, 0, none⟩), .int .i64 t.kd] w (NextPost w0 w R Bb gt ct TS at_ op xa xc PT t) := by
  have HX : Hid ((w.alloc (.cells #[.int .i64 0, .string ⟨#[]⟩, .int .i64 0] 201)).heap[w.heap.size]? = some (.cells #[.int .i64 0, .string ⟨#[]⟩, .int .i64 0] 201 (0, 0))) := Lib.hid (heap_alloc_new w _)
  have HB : Hid (Below w.heap.size w (w.alloc (.cells #[.int .i64 0, .string ⟨#[]⟩, .int .i64 0] 201))) := Lib.hid ((Below.refl _ _).alloc (Nat.le_refl _) _)
  have HR0 := Lib.hid hR
  have HR := Lib.hid (hR.on HB.out)
  have HT := Lib.hid ht
  have hk2 : (t.kd != t.kd) = false := by simp
  have hfd := field_201_0
  clear hR ht
  go_enter Tryz.func126, Tryz.ntmps126
  go_upto_region 1 with (fail)
  generalize (w.alloc (.cells #[.int .i64 0, .string ⟨#[]⟩, .int .i64 0] 201)) = w1 at *
  have HL1 : Hid (w.heap.size < w1.heap.size) := Lib.hid (Array.getElem?_eq_some_iff.1 HX.out).1
  have HNO := Lib.hid (now_any w0 w1 R Bb gt ct TS at_ op xa xc PT HR.out t HT.out hl)
  go_upto_region 3 with (go_at_call 163; (with_reducible refine HNO.out.mono ?_); rintro e w2 ⟨rfl, hb2⟩; have HB2 := Lib.hid hb2; clear hb2)
  have HR2 := Lib.hid (HR.out.on HB2.out)
  have HX2 := Lib.hid ((HB2.out.block _ HL1.out).trans HX.out)
  have HNX := Lib.hid (next_all w0 w2 R Bb gt ct TS at_ op xa xc PT HR2.out t HT.out hl)
  have HA2 : Hid (RdA w w2 R Bb (Value.slice xa PT.length xc).ownBlock) := Lib.hid (RdA.of_below (HB.out.trans (HB2.out.mono HB.out.size)))
  have HS2 : Hid (w.heap.size < w2.heap.size) := Lib.hid (Nat.lt_of_lt_of_le HL1.out HB2.out.size)
  go_wp2_with (first
    | (go_at_call 132; (with_reducible refine HNX.out.mono ?_); rintro e w4 ⟨rfl, hr4, ha4⟩; have HR4 := Lib.hid hr4; have HA4 := Lib.hid ha4; have HX4 := Lib.hid ((ha4.block w.heap.size HS2.out (fun e => (by have := HR0.out.ltR; omega)) (fun e => (by have := HR0.out.ltB; omega)) (fun e => (by have := (HR0.out.typs.lt _ e).2; omega))).trans HX2.out); clear hr4 ha4)
    | (refine wpList_store_row rfl 201 _ _ rfl w.heap.size _ rfl rfl 201 _ HX4.out (by kernel_rfl) rfl (by simp [Value.oneCell']) ?_))
  (try simp only [Exit.inBlock, Exit.then])
  exact bodyPost_ret (v := .agg #[.int .i64 t.kd, .string t.tx, .int .i64 (t.ps : Int)]) (results_201c (fn := Tryz.f126) (p := 4) rfl _ _ w.heap.size _ rfl (setRow_heap _ _ _ _ _ _ HX4.out) rfl) rfl ⟨rfl, HR4.out.new HR0.out (grown_setRow _ _ _) (Nat.le_refl _), (HA2.out.trans HA4.out (fun g e => .inl e)).new (grown_setRow _ _ _) (Nat.le_refl _)⟩
def basics : List ByteArray := [⟨#[105, 110, 116]⟩, ⟨#[98, 111, 111, 108]⟩, ⟨#[115, 116, 114]⟩, ⟨#[102, 108, 111, 97, 116]⟩, ⟨#[100, 121, 110]⟩, ⟨#[97, 110, 121]⟩, ⟨#[110, 111, 110, 101]⟩]
theorem basics_first : ∀ (p : Nat) (x : ByteArray), basics[p]? = some x → ∀ (k : Nat) (s : ByteArray), k < p → basics[k]? = some s → s ≠ x := by
  have h : ∀ p < 7, ∀ k < p, (basics[k]?.map (·.data)) ≠ (basics[p]?.map (·.data)) := by decide
  intro p x hp k s hk hs e
  have hp7 : p < 7 := (List.getElem?_eq_some_iff.1 hp).1
  exact h p hp7 k hk (by rw [hp, hs, e])
set_option maxRecDepth 20000 in
set_option maxHeartbeats 4000000 in
theorem basic_ok (w : World) (p : Nat) (x : ByteArray) (hp : basics[p]? = some x) :
    Calls Tryz.prog 166 #[.string x] w fun e w' => e = .returned (.tuple #[.int .i64 (p : Int), .bool true]) ∧ Below w.heap.size w w' := by
  have HN : Hid ((w.alloc (.cells #[.string ⟨#[105, 110, 116]⟩, .string ⟨#[98, 111, 111, 108]⟩, .string ⟨#[115, 116, 114]⟩, .string ⟨#[102, 108, 111, 97, 116]⟩, .string ⟨#[100, 121, 110]⟩, .string ⟨#[97, 110, 121]⟩, .string ⟨#[110, 111, 110, 101]⟩] 9)).heap[w.heap.size]? = some (.cells #[.string ⟨#[105, 110, 116]⟩, .string ⟨#[98, 111, 111, 108]⟩, .string ⟨#[115, 116, 114]⟩, .string ⟨#[102, 108, 111, 97, 116]⟩, .string ⟨#[100, 121, 110]⟩, .string ⟨#[97, 110, 121]⟩, .string ⟨#[110, 111, 110, 101]⟩] 9 (0, 0))) := Lib.hid (heap_alloc_new w _)
  have HB : Hid (Below w.heap.size w (w.alloc (.cells #[.string ⟨#[105, 110, 116]⟩, .string ⟨#[98, 111, 111, 108]⟩, .string ⟨#[115, 116, 114]⟩, .string ⟨#[102, 108, 111, 97, 116]⟩, .string ⟨#[100, 121, 110]⟩, .string ⟨#[97, 110, 121]⟩, .string ⟨#[110, 111, 110, 101]⟩] 9))) := Lib.hid ((Below.refl _ _).alloc (Nat.le_refl _) _)
  have HI := Lib.hid (idx_some (w.alloc (.cells #[.string ⟨#[105, 110, 116]⟩, .string ⟨#[98, 111, 111, 108]⟩, .string ⟨#[115, 116, 114]⟩, .string ⟨#[102, 108, 111, 97, 116]⟩, .string ⟨#[100, 121, 110]⟩, .string ⟨#[97, 110, 121]⟩, .string ⟨#[110, 111, 110, 101]⟩] 9)) w.heap.size 0 7 7 p basics x rfl (by decide) (Lib.hid (fun k s hs => by
    rw [cell_of_row _ _ _ _ 9 _ HN.out]
    have : (#[.string ⟨#[105, 110, 116]⟩, .string ⟨#[98, 111, 111, 108]⟩, .string ⟨#[115, 116, 114]⟩, .string ⟨#[102, 108, 111, 97, 116]⟩, .string ⟨#[100, 121, 110]⟩, .string ⟨#[97, 110, 121]⟩, .string ⟨#[110, 111, 110, 101]⟩] : Array Value) = (basics.map Value.string).toArray := rfl
    rw [this]
    simp [hs])) hp (Lib.hid (basics_first p x hp)))
  have h0 : (0 : Int) ≤ (p : Int) := by omega
  clear hp
  go_enter Tryz.func166, Tryz.ntmps166
  go_wp2_with (go_at_call 221; (with_reducible refine HI.out.mono ?_); rintro e w2 ⟨rfl, rfl⟩)
  go_ret2
  exact ⟨rfl, HB.out⟩
end Go.Proofs.YtifilhkkgkihpaaGreatDoor
set_option linter.unusedSimpArgs false
set_option linter.unusedVariables false
namespace Go.Proofs.YtifilhkkgkihpaaGreatDoor
open Go.RowKit
theorem TyPost.from {w0 w w2 : World} {R Bb gt ct : Nat} {TS : List Tk} {at_ op : Nat} {xa : Option Addr} {xc : Nat} {PT : List Nd} {kd ps : Int} {NS : List ByteArray} {KS : List Int} {o : Bool} {rv : Value} {e : Ending} {w' : World} (h : TyPost w0 w2 R Bb gt ct TS at_ op xa xc PT kd ps NS KS o rv e w') (ha : RdA w w2 R Bb (Value.slice xa PT.length xc).ownBlock) : TyPost w0 w R Bb gt ct TS at_ op xa xc PT kd ps NS KS o rv e w' := by
  obtain ⟨y, xa', xc', h1, h2, h3, h4, h5, h6, h7, h8⟩ := h
  refine ⟨y, xa', xc', h1, h2, h3, h4, h5, h6, ha.trans h7 (fun g e => .inl e), fun g e => ?_⟩
  rcases h8 g e with r | r
  · exact .inl r
  · exact .inr (Nat.le_trans ha.size r)
set_option maxRecDepth 20000 in
set_option maxHeartbeats 8000000 in
theorem putType_any (w0 w : World) (R Bb gt ct : Nat) (TS : List Tk) (at_ op : Nat) (xa : Option Addr) (xc : Nat) (PT : List Nd) (hR : RdS w0 w R Bb gt ct TS at_ op xa xc PT) (hp : PT.length ≤ 1000) (kd ps : Int) (na : Option Addr) (nn nc : Nat) (NS : List ByteArray) (ka : Option Addr) (kn kc : Nat) (KS : List Int) (o : Bool) (hN : NamesAt w na nn NS) (hK : IntsAt w ka kn KS) (hn : nn ≤ 100000) (hk : kn ≤ 1000) (hnc : na = none → nc = 0) (hkc : ka = none → kc = 0) (hsm : ∀ s ∈ NS, s.size ≤ 100000) :
    Calls Tryz.prog 133 #[.pointer (some ⟨R, 0, none⟩), .agg #[.int .i64 kd, .int .i64 ps, .string ⟨#[]⟩, .slice na nn nc, .slice ka kn kc, .bool o]] w (TyPost w0 w R Bb gt ct TS at_ op xa xc PT kd ps NS KS o (.int .i64 (PT.length : Int))) := by
  have HR := Lib.hid hR
  have HC : Hid (∀ w', Below w.heap.size w w' → Calls Tryz.prog 172 #[.pointer (some ⟨Bb, 0, none⟩), .agg #[.int .i64 kd, .int .i64 ps, .string ⟨#[]⟩, .slice na nn nc, .slice ka kn kc, .bool o]] w' (TyPost w0 w' R Bb gt ct TS at_ op xa xc PT kd ps NS KS o (.tuple #[.int .i64 (PT.length : Int), .int .i64 0]))) := Lib.hid (fun w' hb => type_any w0 w' R Bb gt ct TS at_ op xa xc PT (hR.on hb) hp kd ps na nn nc NS ka kn kc KS o (hN.on hb) (hK.on hb) hn hk hnc hkc hsm)
  have HX : Hid ((w.alloc (.cells #[.int .i64 kd, .int .i64 ps, .string ⟨#[]⟩, .slice na nn nc, .slice ka kn kc, .bool o] 152)).heap[w.heap.size]? = some (.cells #[.int .i64 kd, .int .i64 ps, .string ⟨#[]⟩, .slice na nn nc, .slice ka kn kc, .bool o] 152 (0, 0))) := Lib.hid (heap_alloc_new w _)
  have HB : Hid (Below w.heap.size w (w.alloc (.cells #[.int .i64 kd, .int .i64 ps, .string ⟨#[]⟩, .slice na nn nc, .slice ka kn kc, .bool o] 152))) := Lib.hid ((Below.refl _ _).alloc (Nat.le_refl _) _)
  clear hN hK hR hsm hnc hkc hp
  go_enter Tryz.func133, Tryz.ntmps133
  go_upto_region 1 with (fail)
  generalize (w.alloc (.cells #[.int .i64 kd, .int .i64 ps, .string ⟨#[]⟩, .slice na nn nc, .slice ka kn kc, .bool o] 152)) = w1 at *
  have HR1 := Lib.hid (HR.out.on HB.out)
  have b1 : w1.cell? ⟨R, 3, none⟩ = some (.pointer (some ⟨Bb, 0, none⟩)) := (by rw [cell_of_row _ _ 3 _ 199 _ HR1.out.rbox]; rfl)
  have c0 : w1.cell? ⟨w.heap.size, 0, none⟩ = some (.int .i64 kd) := (by rw [cell_of_row _ _ 0 _ 152 _ HX.out]; rfl)
  have c1 : w1.cell? ⟨w.heap.size, 1, none⟩ = some (.int .i64 ps) := (by rw [cell_of_row _ _ 1 _ 152 _ HX.out]; rfl)
  have c2 : w1.cell? ⟨w.heap.size, 2, none⟩ = some (.string ⟨#[]⟩) := (by rw [cell_of_row _ _ 2 _ 152 _ HX.out]; rfl)
  have c3 : w1.cell? ⟨w.heap.size, 3, none⟩ = some (.slice na nn nc) := (by rw [cell_of_row _ _ 3 _ 152 _ HX.out]; rfl)
  have c4 : w1.cell? ⟨w.heap.size, 4, none⟩ = some (.slice ka kn kc) := (by rw [cell_of_row _ _ 4 _ 152 _ HX.out]; rfl)
  have c5 : w1.cell? ⟨w.heap.size, 5, none⟩ = some (.bool o) := (by rw [cell_of_row _ _ 5 _ 152 _ HX.out]; rfl)
  go_region_law
    (first
      | (go_simp; go_at_call 172; (with_reducible refine (HC.out _ (by exact HB.out.drew)).mono ?_); rintro e w5 ⟨y5, xa5, xc5, rfl, hy1, hy2, hy3, hy4, hy5, hy6, hy7⟩; have HY1 := Lib.hid hy1; have HY2 := Lib.hid hy2; have HY3 := Lib.hid hy3; have HY4 := Lib.hid hy4; have HY5 := Lib.hid hy5; have HY6 := Lib.hid hy6; have HY7 := Lib.hid hy7; clear hy1 hy2 hy3 hy4 hy5 hy6 hy7)
      | fail)
  all_goals
    clear b1 c0 c1 c2 c3 c4 c5
    go_wp2
    go_ret
    exact (show TyPost w0 _ R Bb gt ct TS at_ op xa xc PT kd ps NS KS o _ _ _ from ⟨y5, xa5, xc5, rfl, HY1.out, HY2.out, HY3.out, HY4.out, HY5.out, HY6.out, HY7.out⟩).from (RdA.of_below HB.out.drew)
set_option maxRecDepth 20000 in
set_option maxHeartbeats 8000000 in
theorem simple_word (w0 w : World) (R Bb gt ct : Nat) (TS : List Tk) (at_ op : Nat) (xa : Option Addr) (xc : Nat) (PT : List Nd) (hR : RdS w0 w R Bb gt ct TS at_ op xa xc PT) (hp : PT.length ≤ 1000) (t : Tk) (ht : TS[at_]? = some t) (hl : TS.length ≤ 100000) (h7 : t.kd = 7) (p : Nat) (hb : basics[p]? = some t.tx) :
    Calls Tryz.prog 130 #[.pointer (some ⟨R, 0, none⟩)] w (TyPost w0 w R Bb gt ct TS (at_ + 1) op xa xc PT (p : Int) (t.ps : Int) [] [] false (.int .i64 (PT.length : Int))) := by
  have HR0 := Lib.hid hR
  have HT := Lib.hid ht
  have HBX := Lib.hid (fun W => basic_ok W p t.tx hb)
  have H7 := Lib.hid h7
  have HP := Lib.hid hp
  obtain ⟨kd, tx, pos⟩ := t
  simp only at h7
  subst h7
  have HX : Hid ((w.alloc (.cells #[.pointer (some ⟨R, 0, none⟩)] 159)).heap[w.heap.size]? = some (.cells #[.pointer (some ⟨R, 0, none⟩)] 159 (0, 0))) := Lib.hid (heap_alloc_new w _)
  have HB : Hid (Below w.heap.size w (w.alloc (.cells #[.pointer (some ⟨R, 0, none⟩)] 159))) := Lib.hid ((Below.refl _ _).alloc (Nat.le_refl _) _)
  clear hR ht hb hp
  go_enter Tryz.func130, Tryz.ntmps130
  go_upto_region 1 with (fail)
  generalize (w.alloc (.cells #[.pointer (some ⟨R, 0, none⟩)] 159)) = w1 at *
  have HL1 : Hid (w.heap.size < w1.heap.size) := Lib.hid (Array.getElem?_eq_some_iff.1 HX.out).1
  have HR1 := Lib.hid (HR0.out.on HB.out)
  have b1 : w1.cell? ⟨w.heap.size, 0, none⟩ = some (.pointer (some ⟨R, 0, none⟩)) := (by rw [cell_of_row _ _ 0 _ 159 _ HX.out]; rfl)
  have HNX := Lib.hid (next_all w0 w1 R Bb gt ct TS at_ op xa xc PT HR1.out _ HT.out hl)
  go_upto_region 2 with (go_at_call 132; (with_reducible refine HNX.out.mono ?_); rintro e w4 ⟨rfl, hr4, ha4⟩; have HR4 := Lib.hid hr4; have HA4 := Lib.hid ha4; clear hr4 ha4)
  have HX4 := Lib.hid ((HA4.out.block w.heap.size HL1.out (fun e => (by have := HR0.out.ltR; omega)) (fun e => (by have := HR0.out.ltB; omega)) (fun e => (by have := (HR0.out.typs.lt _ e).2; omega))).trans HX.out)
  have HR4' : Hid (RdS w0 w4 R Bb gt ct TS (at_ + 1) op xa xc PT) := Lib.hid HR4.out
  have HA4' : Hid (RdA w w4 R Bb (Value.slice xa PT.length xc).ownBlock) := Lib.hid ((RdA.of_below HB.out).trans HA4.out (fun g e => .inl e))
  have HL4 : Hid (w.heap.size < w4.heap.size) := Lib.hid (Nat.lt_of_lt_of_le HL1.out HA4.out.size)
  have HY : Hid ((w4.alloc (.cells #[.int .i64 7, .string tx, .int .i64 (pos : Int)] 201)).heap[w4.heap.size]? = some (.cells #[.int .i64 7, .string tx, .int .i64 (pos : Int)] 201 (0, 0))) := Lib.hid (heap_alloc_new w4 _)
  have HBY : Hid (Below w4.heap.size w4 (w4.alloc (.cells #[.int .i64 7, .string tx, .int .i64 (pos : Int)] 201))) := Lib.hid ((Below.refl _ _).alloc (Nat.le_refl _) _)
  clear b1
  generalize (w4.alloc (.cells #[.int .i64 7, .string tx, .int .i64 (pos : Int)] 201)) = w5 at *
  have HR5 := Lib.hid (HR4'.out.on HBY.out)
  have y0 : w5.cell? ⟨w4.heap.size, 0, none⟩ = some (.int .i64 7) := (by rw [cell_of_row _ _ 0 _ 201 _ HY.out]; rfl)
  have y1 : w5.cell? ⟨w4.heap.size, 1, none⟩ = some (.string tx) := (by rw [cell_of_row _ _ 1 _ 201 _ HY.out]; rfl)
  go_upto_region 7 with (go_at_call 166; (with_reducible refine (HBX.out _).mono ?_); rintro e w6 ⟨rfl, hb6⟩; have HB6 := Lib.hid hb6; clear hb6)
  have HR6 := Lib.hid (HR5.out.on HB6.out)
  have HX6 := Lib.hid ((HB6.out.block _ (Nat.lt_of_lt_of_le HL4.out HBY.out.size)).trans ((HBY.out.block _ HL4.out).trans HX4.out))
  have HY6 := Lib.hid ((HB6.out.block _ (Array.getElem?_eq_some_iff.1 HY.out).1).trans HY.out)
  have HA6 : Hid (RdA w w6 R Bb (Value.slice xa PT.length xc).ownBlock) := Lib.hid (HA4'.out.trans (RdA.of_below (own := (Value.slice xa PT.length xc).ownBlock) (HBY.out.trans (HB6.out.mono HBY.out.size))) (fun g e => .inl e))
  clear y0 y1
  have b1 : w6.cell? ⟨w.heap.size, 0, none⟩ = some (.pointer (some ⟨R, 0, none⟩)) := (by rw [cell_of_row _ _ 0 _ 159 _ HX6.out]; rfl)
  have y2 : w6.cell? ⟨w4.heap.size, 2, none⟩ = some (.int .i64 (pos : Int)) := (by rw [cell_of_row _ _ 2 _ 201 _ HY6.out]; rfl)
  have HPT := Lib.hid (putType_any w0 w6 R Bb gt ct TS (at_ + 1) op xa xc PT HR6.out HP.out (p : Int) (pos : Int) none 0 0 [] none 0 0 [] false ⟨rfl, .inl rfl⟩ ⟨rfl, .inl rfl⟩ (by decide) (by decide) (fun _ => rfl) (fun _ => rfl) (fun s h => by cases h))
  go_wp2_with (go_at_call 133; (with_reducible refine HPT.out.mono ?_); rintro e w7 ⟨y5, xa5, xc5, rfl, hy1, hy2, hy3, hy4, hy5, hy6, hy7⟩; have HY1 := Lib.hid hy1; have HY2 := Lib.hid hy2; have HY3 := Lib.hid hy3; have HY4 := Lib.hid hy4; have HY5 := Lib.hid hy5; have HYY6 := Lib.hid hy6; have HY7 := Lib.hid hy7; clear hy1 hy2 hy3 hy4 hy5 hy6 hy7)
  go_ret
  exact (show TyPost w0 _ R Bb gt ct TS (at_ + 1) op xa xc PT p pos [] [] false _ _ _ from ⟨y5, xa5, xc5, rfl, HY1.out, HY2.out, HY3.out, HY4.out, HY5.out, HYY6.out, HY7.out⟩).from HA6.out
end Go.Proofs.YtifilhkkgkihpaaGreatDoor
set_option linter.unusedSimpArgs false
set_option linter.unusedVariables false
namespace Go.Proofs.YtifilhkkgkihpaaGreatDoor
open Go.RowKit
/-- what a type says. -/
abbrev Ny := Int × Int × List ByteArray × List Int × Bool
def vw (y : Nd) : Ny := (y.1.kd, y.2, y.1.NS, y.1.KS, y.1.op)
def arrow : ByteArray := ⟨#[45, 62]⟩
/-- the tokens from at_ to at' are words with arrows between; m types stand already; these are added. -/
inductive TypT (TS : List Tk) : Nat → Nat → Nat → Nat → List Ny → Prop
  | word {at_ m p : Nat} {t t' : Tk} : TS[at_]? = some t → t.kd = 7 → basics[p]? = some t.tx → TS[at_ + 1]? = some t' → isB t' [arrow] = false → TypT TS at_ (at_ + 1) 1 m [((p : Int), (t.ps : Int), [], [], false)]
  | arr {at_ at' d m p : Nat} {t t' : Tk} {ys : List Ny} : TS[at_]? = some t → t.kd = 7 → basics[p]? = some t.tx → TS[at_ + 1]? = some t' → isB t' [arrow] = true → t'.kd ≠ 0 → 0 < ys.length → TypT TS (at_ + 2) at' d (m + 1) ys →
      TypT TS at_ at' (d + 1) m (((p : Int), (t.ps : Int), [], [], false) :: (ys ++ [((7 : Int), (t'.ps : Int), [], [(m : Int), ((m + ys.length : Nat) : Int)], false)]))
theorem TypT.pos {TS : List Tk} {a a' d m : Nat} {ys : List Ny} (h : TypT TS a a' d m ys) : 0 < ys.length := by
  cases h <;> simp
/-- types more. -/
def TysPost (w0 w : World) (R Bb gt ct : Nat) (TS : List Tk) (at_ op : Nat) (xa : Option Addr) (xc : Nat) (PT : List Nd) (ys : List Ny) (rv : Value) (e : Ending) (w' : World) : Prop :=
  ∃ (YS : List Nd) (xa' : Option Addr) (xc' : Nat), e = .returned rv ∧ YS.map vw = ys ∧ RdS w0 w' R Bb gt ct TS at_ op xa' xc' (PT ++ YS) ∧ RdA w w' R Bb (Value.slice xa PT.length xc).ownBlock ∧ (∀ g, (Value.slice xa' (PT ++ YS).length xc').ownBlock = some g → (Value.slice xa PT.length xc).ownBlock = some g ∨ w.heap.size ≤ g)
theorem own_len (a : Option Addr) (n c n2 c2 : Nat) : (Value.slice a n c).ownBlock = (Value.slice a n2 c2).ownBlock := by cases a <;> rfl
theorem RdA.len {w w' : World} {R Bb : Nat} {a : Option Addr} {n c : Nat} (h : RdA w w' R Bb (Value.slice a n c).ownBlock) (n2 c2 : Nat) : RdA w w' R Bb (Value.slice a n2 c2).ownBlock := by rw [own_len a n2 c2 n c]; exact h
set_option maxRecDepth 20000 in
set_option maxHeartbeats 8000000 in
theorem typ_word (w0 w : World) (R Bb gt ct : Nat) (TS : List Tk) (at_ op : Nat) (xa : Option Addr) (xc : Nat) (PT : List Nd) (hR : RdS w0 w R Bb gt ct TS at_ op xa xc PT) (hp : PT.length ≤ 1000) (hl : TS.length ≤ 100000) (ho : op < 256) (p : Nat) (t t' : Tk) (ht : TS[at_]? = some t) (h7 : t.kd = 7) (hb : basics[p]? = some t.tx) (ht' : TS[at_ + 1]? = some t') (hi : isB t' [arrow] = false) :
    Calls Tryz.prog 99 #[.pointer (some ⟨R, 0, none⟩)] w (TysPost w0 w R Bb gt ct TS (at_ + 1) op xa xc PT [((p : Int), (t.ps : Int), [], [], false)] (.int .i64 (PT.length : Int))) := by
  have HR := Lib.hid hR
  have HT' := Lib.hid ht'
  have HI := Lib.hid hi
  have HEN := Lib.hid (enter_any w0 w R Bb gt ct TS at_ op xa xc PT hR ho)
  have HSI : Hid (∀ w', RdS w0 w' R Bb gt ct TS at_ (op + 1) xa xc PT → Calls Tryz.prog 130 #[.pointer (some ⟨R, 0, none⟩)] w' (TyPost w0 w' R Bb gt ct TS (at_ + 1) (op + 1) xa xc PT (p : Int) (t.ps : Int) [] [] false (.int .i64 (PT.length : Int)))) := Lib.hid (fun w' h => simple_word w0 w' R Bb gt ct TS at_ (op + 1) xa xc PT h hp t ht hl h7 p hb)
  clear hR ht ht' hi hb h7 hp
  go_enter_defers Tryz.func99, Tryz.ntmps99
  go_upto_region 3 with (go_at_call 128; (with_reducible refine HEN.out.mono ?_); rintro e w2 ⟨rfl, hr2, ha2⟩; have HR2 := Lib.hid hr2; have HA2 := Lib.hid ha2; clear hr2 ha2)
  have HS2 := Lib.hid (HSI.out w2 HR2.out)
  go_upto_region 4 with (go_at_call 130; (with_reducible refine HS2.out.mono ?_); rintro e w3 ⟨y3, xa3, xc3, rfl, k1, k2, k3, k4, k5, k6, k7⟩; have HY : Hid (vw (y3, (t.ps : Int)) = ((p : Int), (t.ps : Int), [], [], false)) := Lib.hid (by simp [vw, k1, k2, k3, k4]); have HR3 := Lib.hid k5; have HA3 := Lib.hid k6; have HO3 := Lib.hid k7; clear k1 k2 k3 k4 k5 k6 k7)
  have HN : Hid ((w3.alloc (.cells #[.string ⟨#[45, 62]⟩] 9)).heap[w3.heap.size]? = some (.cells #[.string ⟨#[45, 62]⟩] 9 (0, 0))) := Lib.hid (heap_alloc_new w3 _)
  have HB4 : Hid (Below w3.heap.size w3 (w3.alloc (.cells #[.string ⟨#[45, 62]⟩] 9))) := Lib.hid ((Below.refl _ _).alloc (Nat.le_refl _) _)
  have HIS := Lib.hid (is_any w0 (w3.alloc (.cells #[.string ⟨#[45, 62]⟩] 9)) R Bb gt ct TS (at_ + 1) (op + 1) xa3 xc3 (PT ++ [(y3, (t.ps : Int))]) (HR3.out.on HB4.out) t' HT'.out hl w3.heap.size 1 1 [arrow] rfl (by decide) (by simp) (fun k s hs => by
    rw [cell_of_row _ _ _ _ 9 _ HN.out]
    match k, hs with
    | 0, hs => simp at hs; rw [← hs]; rfl
    | k + 1, hs => simp at hs))
  rw [HI.out] at HIS
  go_wp2_with (go_at_call 131; (with_reducible refine HIS.out.mono ?_); rintro e w5 ⟨rfl, hb5⟩; have HB5 := Lib.hid hb5; clear hb5)
  have HR5 := Lib.hid (HR3.out.on (HB4.out.trans (HB5.out.mono HB4.out.size)))
  have HA5 : Hid (RdA w w5 R Bb (Value.slice xa PT.length xc).ownBlock) := Lib.hid ((HA2.out.trans HA3.out (fun g e => .inl e)).trans (RdA.of_below (own := (Value.slice xa PT.length xc).ownBlock) (HB4.out.trans (HB5.out.mono HB4.out.size))) (fun g e => .inl e))
  refine leaves_cons (f := 129) (args := #[.pointer (some ⟨R, 0, none⟩)]) (by simp) (by simp [go_sem]) ?_
  refine (leave_d w0 w5 .returning R Bb gt ct TS (at_ + 1) op xa3 xc3 (PT ++ [(y3, (t.ps : Int))]) HR5.out ho).mono ?_
  rintro e u' w6 ⟨rfl, rfl, hr6, ha6⟩
  refine ⟨_, results_tmp rfl _ _ _, ?_⟩
  refine ⟨[(y3, (t.ps : Int))], xa3, xc3, rfl, by simp [HY.out], hr6, HA5.out.trans ha6 (fun g e => ?_), fun g e => ?_⟩
  · rw [own_len _ _ _ (PT.length + 1) xc3] at e
    rcases HO3.out g e with r | r
    · exact .inl r
    · exact .inr (Nat.le_trans HA2.out.size r)
  · rw [own_len _ _ _ (PT.length + 1) xc3] at e
    rcases HO3.out g e with r | r
    · exact .inl r
    · exact .inr (Nat.le_trans HA2.out.size r)
end Go.Proofs.YtifilhkkgkihpaaGreatDoor
