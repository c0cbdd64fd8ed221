/- Plain: graph.Of's maker under way. -/
import Derived.Test.YtifilhkkgkihpaaGreatDoorAs25
import Derived.Test.YtifilhkkgkihpaaGreatDoorAs11
set_option linter.unusedSimpArgs false
set_option linter.unusedVariables false
set_option linter.unusedSimpArgs false
set_option linter.unusedVariables false
namespace Go.Proofs.YtifilhkkgkihpaaGreatDoor
open Go.RowKit
/-- the maker in its box at R: its tree, which types have a head (the map at M), the heads so far. -/
structure MkS (w0 w : World) (R M n : Nat) (NV TV : Value) (D : DataW Unit) (f : Nat → Option Nat) (xa : Option Addr) (xc : Nat) (OS : List Hd) : Prop where
  below : Below w0.heap.size w0 w
  box : w.heap[R]? = some (.cells #[NV, TV, .slice none 0 0, .map (some M), .slice xa OS.length xc] 165 (0, 0))
  map : w.ownsMap Tryz.prog 3 (plainElem (H := Unit) Tryz.prog 3) M n D
  mapf : MapF D f
  row : w.ownsRow w0.heap.size 33 4 (.slice xa OS.length xc) OS.length (OS.flatMap hcells)
  heads : ∀ x ∈ OS, HdOk w x ∧ (x.na = none → x.nc = 0) ∧ (x.ka = none → x.kc = 0)
  sep : ∀ x ∈ OS, ∀ ad, blkOf x ad → ad.block ≠ R ∧ ad.block ≠ M ∧ ad.block < w.heap.size ∧ (Value.slice xa OS.length xc).ownBlock ≠ some ad.block
  geR : w0.heap.size ≤ R
  geM : w0.heap.size ≤ M
/-- what the maker leaves alone. -/
structure MkA (w w' : World) (R M : Nat) (own : Option Nat) : Prop where
  os : w'.os = w.os
  tape : w'.tape = w.tape
  output : w'.output = w.output
  size : w.heap.size ≤ w'.heap.size
  block : ∀ b, b < w.heap.size → b ≠ R → b ≠ M → own ≠ some b → w'.heap[b]? = w.heap[b]?
theorem MkA.of_below {w w' : World} {R M : Nat} {own : Option Nat} (h : Below w.heap.size w w') : MkA w w' R M own := ⟨h.os, h.tape, h.output, h.size, fun b hb _ _ _ => h.block b hb⟩
theorem MkA.trans {w w' w2 : World} {R M : Nat} {own own' : Option Nat} (h : MkA w w' R M own) (k : MkA w' w2 R M own') (ho : ∀ g, own' = some g → own = some g ∨ w.heap.size ≤ g) : MkA w w2 R M own :=
  ⟨k.os.trans h.os, k.tape.trans h.tape, k.output.trans h.output, Nat.le_trans h.size k.size, fun b hb h1 h2 h3 =>
    (k.block b (Nat.lt_of_lt_of_le hb h.size) h1 h2 (fun e => by rcases ho b e with r | r; exact h3 r; omega)).trans (h.block b hb h1 h2 h3)⟩
section
variable {w0 w w' : World} {R M n : Nat} {NV TV : Value} {D : DataW Unit} {f : Nat → Option Nat} {xa : Option Addr} {xc : Nat} {OS : List Hd}
theorem MkS.ltR (h : MkS w0 w R M n NV TV D f xa xc OS) : R < w.heap.size := (Array.getElem?_eq_some_iff.1 h.box).1
theorem MkS.ltM (h : MkS w0 w R M n NV TV D f xa xc OS) : M < w.heap.size := h.map.lt
theorem MkS.RM (h : MkS w0 w R M n NV TV D f xa xc OS) : R ≠ M := fun e => by
  have h1 := h.box
  obtain ⟨es, cl, hm, _⟩ := h.map
  rw [e, hm] at h1
  cases h1
theorem MkS.ownR (h : MkS w0 w R M n NV TV D f xa xc OS) : (Value.slice xa OS.length xc).ownBlock ≠ some R := own_boxP h.row h.box (by decide)
theorem MkS.ownM (h : MkS w0 w R M n NV TV D f xa xc OS) : (Value.slice xa OS.length xc).ownBlock ≠ some M := fun e => by
  obtain ⟨es, cl, hm, _⟩ := h.map
  rcases h.row.2 with ⟨h1, -⟩ | ⟨g, cap, cur, h1, e2, e3, -⟩
  · rw [h1] at e; cases e
  · rw [h1] at e
    cases e
    rw [hm] at e3
    cases e3
theorem MkS.on (h : MkS w0 w R M n NV TV D f xa xc OS) (hb : Below w.heap.size w w') : MkS w0 w' R M n NV TV D f xa xc OS where
  below := h.below.trans (hb.mono h.below.size)
  box := (hb.block R h.ltR).trans h.box
  map := h.map.kept (row := none) ⟨hb.os, hb.tape, hb.output, hb.size, fun j hj _ => hb.block j hj⟩ (by simp)
  mapf := h.mapf
  row := ownsRow_mono h.row (fun g hg => hb.block g (h.row.lt g hg).2)
  heads x hx := ⟨(h.heads x hx).1.on hb, (h.heads x hx).2⟩
  sep x hx ad e := by
    obtain ⟨h1, h2, h3, h4⟩ := h.sep x hx ad e
    exact ⟨h1, h2, Nat.lt_of_lt_of_le h3 hb.size, h4⟩
  geR := h.geR
  geM := h.geM
/-- the map is turned. -/
theorem MkS.upd (h : MkS w0 w R M n NV TV D f xa xc OS) (hg : w.grownBy w' (some M)) {n' : Nat} {D' : DataW Unit} {f' : Nat → Option Nat} (hm : w'.ownsMap Tryz.prog 3 (plainElem (H := Unit) Tryz.prog 3) M n' D') (hf : MapF D' f') : MkS w0 w' R M n' NV TV D' f' xa xc OS where
  below := below_grow h.below hg h.below.size (fun k e => by cases e; exact h.geM)
  box := (hg.block R h.ltR (fun e => h.RM (by cases e; rfl))).trans h.box
  map := hm
  mapf := hf
  row := h.row.kept hg (.inr (fun e => h.ownM e))
  heads x hx := ⟨hd_kept (h.heads x hx).1 (fun ad e hl => hg.block _ hl (fun e2 => (h.sep x hx ad e).2.1 (by cases e2; rfl))) hg.size, (h.heads x hx).2⟩
  sep x hx ad e := by
    obtain ⟨h1, h2, h3, h4⟩ := h.sep x hx ad e
    exact ⟨h1, h2, Nat.lt_of_lt_of_le h3 hg.size, h4⟩
  geR := h.geR
  geM := h.geM
/-- a block that is none of the maker's is turned. -/
theorem MkS.other (h : MkS w0 w R M n NV TV D f xa xc OS) {g : Nat} (hg : w.grownBy w' (some g)) (h0 : w0.heap.size ≤ g) (h1 : g ≠ R) (h2 : g ≠ M) (h3 : (Value.slice xa OS.length xc).ownBlock ≠ some g) (h4 : ∀ x ∈ OS, ∀ ad, blkOf x ad → ad.block ≠ g) : MkS w0 w' R M n NV TV D f xa xc OS where
  below := below_grow h.below hg h.below.size (fun k e => by cases e; exact h0)
  box := (hg.block R h.ltR (fun e => h1 (by cases e; rfl))).trans h.box
  map := h.map.kept hg (fun e => h2 (by cases e; rfl))
  mapf := h.mapf
  row := h.row.kept hg (.inr h3)
  heads x hx := ⟨hd_kept (h.heads x hx).1 (fun ad e hl => hg.block _ hl (fun e2 => h4 x hx ad e (by cases e2; rfl))) hg.size, (h.heads x hx).2⟩
  sep x hx ad e := by
    obtain ⟨h5, h6, h7, h8⟩ := h.sep x hx ad e
    exact ⟨h5, h6, Nat.lt_of_lt_of_le h7 hg.size, h8⟩
  geR := h.geR
  geM := h.geM
/-- a head more. -/
theorem MkS.step (h : MkS w0 w R M n NV TV D f xa xc OS) {x : Hd} {wd : World} (hd : Below w.heap.size w wd) {o : Obj} {w6 : World} {g6 c6 : Nat}
    (hx : HdOk wd x) (hxn : (x.na = none → x.nc = 0) ∧ (x.ka = none → x.kc = 0)) (hxs : ∀ ad, blkOf x ad → ad.block ≠ R ∧ ad.block ≠ M ∧ (Value.slice xa OS.length xc).ownBlock ≠ some ad.block ∧ ad.block < wd.heap.size)
    (hg : (wd.alloc o).grownBy w6 (Value.slice xa OS.length xc).ownBlock) (hown : w6.ownsRow w0.heap.size 33 4 (.slice (some ⟨g6, 0, none⟩) (OS.length + 1) c6) (OS.length + 1) (OS.flatMap hcells ++ hcells x)) (hw : (Value.slice xa OS.length xc).ownBlock = some g6 ∨ g6 = (wd.alloc o).heap.size) :
    MkS w0 (w6.setCell ⟨R, 4, none⟩ (.slice (some ⟨g6, 0, none⟩) (OS.length + 1) c6)) R M n NV TV D f (some ⟨g6, 0, none⟩) c6 (OS ++ [x]) ∧
    MkA w (w6.setCell ⟨R, 4, none⟩ (.slice (some ⟨g6, 0, none⟩) (OS.length + 1) c6)) R M (Value.slice xa OS.length xc).ownBlock ∧
    ((Value.slice xa OS.length xc).ownBlock = some g6 ∨ w.heap.size ≤ g6) := by
  have hbd : Below w.heap.size w (wd.alloc o) := hd.alloc hd.size _
  have hsd : (wd.alloc o).heap.size = wd.heap.size + 1 := by simp
  have hds := hd.size
  have hRl := h.ltR
  have hMl := h.ltM
  have hlo : ∀ b, b < w.heap.size → (Value.slice xa OS.length xc).ownBlock ≠ some b → w6.heap[b]? = w.heap[b]? := fun b hb e => by
    rw [hg.block b (by omega) (fun e' => e e'.symm)]
    exact hbd.block b hb
  have hR6 := (hlo R hRl h.ownR).trans h.box
  have hsz : w.heap.size ≤ w6.heap.size := Nat.le_trans hbd.size hg.size
  have hgs := hg.size
  have hkeep : ∀ b, b < w.heap.size → b ≠ R → (Value.slice xa OS.length xc).ownBlock ≠ some b → (w6.setCell ⟨R, 4, none⟩ (.slice (some ⟨g6, 0, none⟩) (OS.length + 1) c6)).heap[b]? = w.heap[b]? := fun b hb h1 h2 => by
    rw [Below.heap_setCell _ _ _ _ h1]
    exact hlo b hb h2
  have hgb : ∀ b, b < w.heap.size → (Value.slice xa OS.length xc).ownBlock ≠ some b → g6 ≠ b := fun b hb hne e => by
    rcases hw with r | r
    · exact hne (by rw [r, e])
    · omega
  have howl : ∀ g, (Value.slice xa OS.length xc).ownBlock = some g → w0.heap.size ≤ g ∧ g < w.heap.size := fun g e => h.row.lt g e
  have hbs := h.below.size
  have e1 : (OS ++ [x]).length = OS.length + 1 := by simp
  refine ⟨?_, ⟨hg.os.trans hbd.os, hg.tape.trans hbd.tape, hg.output.trans hbd.output, by simpa using hsz, fun b hb h1 h2 h3 => hkeep b hb h1 h3⟩, ?_⟩
  · exact {
      below := ⟨hg.os.trans (hbd.os.trans h.below.os), hg.tape.trans (hbd.tape.trans h.below.tape), hg.output.trans (hbd.output.trans h.below.output), by simpa using Nat.le_trans hbs hsz, fun b hb => by
        rw [hkeep b (by omega) (fun e => by have := h.geR; omega) (fun e => by have := howl _ e; omega)]
        exact h.below.block b hb⟩
      box := by
        rw [e1, heap_setCell_same _ R 4 _ 165 _ hR6]
        rfl
      map := ((h.map.kept (row := none) ⟨hbd.os, hbd.tape, hbd.output, hbd.size, fun j hj _ => hbd.block j hj⟩ (by simp)).kept hg (fun e => h.ownM e.symm)).setCell (a := ⟨R, 4, none⟩) (fun e => h.RM e.symm) _
      mapf := h.mapf
      row := by
        rw [e1, List.flatMap_append]
        have := ownsRow_mono (w' := w6.setCell ⟨R, 4, none⟩ (.slice (some ⟨g6, 0, none⟩) (OS.length + 1) c6)) hown (fun g e => by
          cases e
          exact Below.heap_setCell _ _ _ _ (hgb R hRl h.ownR))
        simpa using this
      heads := fun z hz => by
        rcases List.mem_append.1 hz with r | r
        · exact ⟨hd_kept (h.heads z r).1 (fun ad e _ => by obtain ⟨s1, s2, s3, s4⟩ := h.sep z r ad e; exact hkeep _ s3 s1 s4) (by simpa using hsz), (h.heads z r).2⟩
        · obtain rfl : z = x := by simpa using r
          refine ⟨hd_kept hx (fun ad e hl => ?_) (by simp; omega), hxn⟩
          obtain ⟨s1, s2, s3, s4⟩ := hxs ad e
          rw [Below.heap_setCell _ _ _ _ s1, hg.block _ (by omega) (fun e2 => s3 e2.symm), Below.heap_alloc _ _ _ s4]
      sep := fun z hz ad e => by
        rcases List.mem_append.1 hz with r | r
        · obtain ⟨s1, s2, s3, s4⟩ := h.sep z r ad e
          exact ⟨s1, s2, by simp; omega, fun e2 => hgb _ s3 s4 (by simpa [Value.ownBlock] using e2)⟩
        · obtain rfl : z = x := by simpa using r
          obtain ⟨s1, s2, s3, s4⟩ := hxs ad e
          refine ⟨s1, s2, by simp; omega, fun e2 => ?_⟩
          have e3 : g6 = ad.block := by simpa [Value.ownBlock] using e2
          rcases hw with q | q
          · exact s3 (by rw [q, e3])
          · omega
      geR := h.geR
      geM := h.geM }
  · rcases hw with q | q
    · exact .inl q
    · exact .inr (by omega)
end
end Go.Proofs.YtifilhkkgkihpaaGreatDoor
