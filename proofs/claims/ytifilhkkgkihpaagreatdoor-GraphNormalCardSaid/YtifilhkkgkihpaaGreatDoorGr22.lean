/- Plain: graph.Of's maker under way. Plain: a head stored at its place; what heads a type gives. -/
import Derived.Test.YtifilhkkgkihpaaGreatDoorGr21
import Derived.Test.YtifilhkkgkihpaaGreatDoorGr10
import Derived.Deep.MidRow
set_option linter.unusedSimpArgs false
set_option linter.unusedVariables false
set_option linter.unusedSimpArgs false
set_option linter.unusedVariables false
namespace Go.Proofs.YtifilhkkgkihpaaGreatDoor
open Go.RowKit
/-- the maker in its box at R: its tree, which types have a head (the map at M), the heads so far. -/
structure MkS (w0 w : World) (R M n : Nat) (NV TV : Value) (D : DataW Unit) (f : Nat → Option Nat) (xa : Option Addr) (xc : Nat) (OS : List Hd) : Prop where
  below : Below w0.heap.size w0 w
  box : w.heap[R]? = some (.cells #[NV, TV, .slice none 0 0, .map (some M), .slice xa OS.length xc] 165 (0, 0))
  map : w.ownsMap Tryz.prog 3 (plainElem (H := Unit) Tryz.prog 3) M n D
  mapf : MapF D f
  row : w.ownsRow w0.heap.size 33 4 (.slice xa OS.length xc) OS.length (OS.flatMap hcells)
  heads : ∀ x ∈ OS, HdOk w x ∧ (x.na = none → x.nc = 0) ∧ (x.ka = none → x.kc = 0)
  sep : ∀ x ∈ OS, ∀ ad, blkOf x ad → ad.block ≠ R ∧ ad.block ≠ M ∧ ad.block < w.heap.size ∧ (Value.slice xa OS.length xc).ownBlock ≠ some ad.block
  geR : w0.heap.size ≤ R
  geM : w0.heap.size ≤ M
/-- what the maker leaves alone. -/
structure MkA (w w' : World) (R M : Nat) (own : Option Nat) : Prop where
  os : w'.os = w.os
  tape : w'.tape = w.tape
  output : w'.output = w.output
  size : w.heap.size ≤ w'.heap.size
  block : ∀ b, b < w.heap.size → b ≠ R → b ≠ M → own ≠ some b → w'.heap[b]? = w.heap[b]?
theorem MkA.of_below {w w' : World} {R M : Nat} {own : Option Nat} (h : Below w.heap.size w w') : MkA w w' R M own := ⟨h.os, h.tape, h.output, h.size, fun b hb _ _ _ => h.block b hb⟩
theorem MkA.trans {w w' w2 : World} {R M : Nat} {own own' : Option Nat} (h : MkA w w' R M own) (k : MkA w' w2 R M own') (ho : ∀ g, own' = some g → own = some g ∨ w.heap.size ≤ g) : MkA w w2 R M own :=
  ⟨k.os.trans h.os, k.tape.trans h.tape, k.output.trans h.output, Nat.le_trans h.size k.size, fun b hb h1 h2 h3 =>
    (k.block b (Nat.lt_of_lt_of_le hb h.size) h1 h2 (fun e => by rcases ho b e with r | r; exact h3 r; omega)).trans (h.block b hb h1 h2 h3)⟩
section
variable {w0 w w' : World} {R M n : Nat} {NV TV : Value} {D : DataW Unit} {f : Nat → Option Nat} {xa : Option Addr} {xc : Nat} {OS : List Hd}
theorem MkS.ltR (h : MkS w0 w R M n NV TV D f xa xc OS) : R < w.heap.size := (Array.getElem?_eq_some_iff.1 h.box).1
theorem MkS.ltM (h : MkS w0 w R M n NV TV D f xa xc OS) : M < w.heap.size := h.map.lt
theorem MkS.RM (h : MkS w0 w R M n NV TV D f xa xc OS) : R ≠ M := fun e => by
  have h1 := h.box
  obtain ⟨es, cl, hm, _⟩ := h.map
  rw [e, hm] at h1
  cases h1
theorem MkS.ownR (h : MkS w0 w R M n NV TV D f xa xc OS) : (Value.slice xa OS.length xc).ownBlock ≠ some R := own_boxP h.row h.box (by decide)
theorem MkS.ownM (h : MkS w0 w R M n NV TV D f xa xc OS) : (Value.slice xa OS.length xc).ownBlock ≠ some M := fun e => by
  obtain ⟨es, cl, hm, _⟩ := h.map
  rcases h.row.2 with ⟨h1, -⟩ | ⟨g, cap, cur, h1, e2, e3, -⟩
  · rw [h1] at e; cases e
  · rw [h1] at e
    cases e
    rw [hm] at e3
    cases e3
theorem MkS.on (h : MkS w0 w R M n NV TV D f xa xc OS) (hb : Below w.heap.size w w') : MkS w0 w' R M n NV TV D f xa xc OS where
  below := h.below.trans (hb.mono h.below.size)
  box := (hb.block R h.ltR).trans h.box
  map := h.map.kept (row := none) ⟨hb.os, hb.tape, hb.output, hb.size, fun j hj _ => hb.block j hj⟩ (by simp)
  mapf := h.mapf
  row := ownsRow_mono h.row (fun g hg => hb.block g (h.row.lt g hg).2)
  heads x hx := ⟨(h.heads x hx).1.on hb, (h.heads x hx).2⟩
  sep x hx ad e := by
    obtain ⟨h1, h2, h3, h4⟩ := h.sep x hx ad e
    exact ⟨h1, h2, Nat.lt_of_lt_of_le h3 hb.size, h4⟩
  geR := h.geR
  geM := h.geM
/-- the map is turned. -/
theorem MkS.upd (h : MkS w0 w R M n NV TV D f xa xc OS) (hg : w.grownBy w' (some M)) {n' : Nat} {D' : DataW Unit} {f' : Nat → Option Nat} (hm : w'.ownsMap Tryz.prog 3 (plainElem (H := Unit) Tryz.prog 3) M n' D') (hf : MapF D' f') : MkS w0 w' R M n' NV TV D' f' xa xc OS where
  below := below_grow h.below hg h.below.size (fun k e => by cases e; exact h.geM)
  box := (hg.block R h.ltR (fun e => h.RM (by cases e; rfl))).trans h.box
  map := hm
  mapf := hf
  row := h.row.kept hg (.inr (fun e => h.ownM e))
  heads x hx := ⟨hd_kept (h.heads x hx).1 (fun ad e hl => hg.block _ hl (fun e2 => (h.sep x hx ad e).2.1 (by cases e2; rfl))) hg.size, (h.heads x hx).2⟩
  sep x hx ad e := by
    obtain ⟨h1, h2, h3, h4⟩ := h.sep x hx ad e
    exact ⟨h1, h2, Nat.lt_of_lt_of_le h3 hg.size, h4⟩
  geR := h.geR
  geM := h.geM
/-- a block that is none of the maker's is turned. -/
theorem MkS.other (h : MkS w0 w R M n NV TV D f xa xc OS) {g : Nat} (hg : w.grownBy w' (some g)) (h0 : w0.heap.size ≤ g) (h1 : g ≠ R) (h2 : g ≠ M) (h3 : (Value.slice xa OS.length xc).ownBlock ≠ some g) (h4 : ∀ x ∈ OS, ∀ ad, blkOf x ad → ad.block ≠ g) : MkS w0 w' R M n NV TV D f xa xc OS where
  below := below_grow h.below hg h.below.size (fun k e => by cases e; exact h0)
  box := (hg.block R h.ltR (fun e => h1 (by cases e; rfl))).trans h.box
  map := h.map.kept hg (fun e => h2 (by cases e; rfl))
  mapf := h.mapf
  row := h.row.kept hg (.inr h3)
  heads x hx := ⟨hd_kept (h.heads x hx).1 (fun ad e hl => hg.block _ hl (fun e2 => h4 x hx ad e (by cases e2; rfl))) hg.size, (h.heads x hx).2⟩
  sep x hx ad e := by
    obtain ⟨h5, h6, h7, h8⟩ := h.sep x hx ad e
    exact ⟨h5, h6, Nat.lt_of_lt_of_le h7 hg.size, h8⟩
  geR := h.geR
  geM := h.geM
/-- a head more. -/
theorem MkS.step (h : MkS w0 w R M n NV TV D f xa xc OS) {x : Hd} {wd : World} (hd : Below w.heap.size w wd) {o : Obj} {w6 : World} {g6 c6 : Nat}
    (hx : HdOk wd x) (hxn : (x.na = none → x.nc = 0) ∧ (x.ka = none → x.kc = 0)) (hxs : ∀ ad, blkOf x ad → ad.block ≠ R ∧ ad.block ≠ M ∧ (Value.slice xa OS.length xc).ownBlock ≠ some ad.block ∧ ad.block < wd.heap.size)
    (hg : (wd.alloc o).grownBy w6 (Value.slice xa OS.length xc).ownBlock) (hown : w6.ownsRow w0.heap.size 33 4 (.slice (some ⟨g6, 0, none⟩) (OS.length + 1) c6) (OS.length + 1) (OS.flatMap hcells ++ hcells x)) (hw : (Value.slice xa OS.length xc).ownBlock = some g6 ∨ g6 = (wd.alloc o).heap.size) :
    MkS w0 (w6.setCell ⟨R, 4, none⟩ (.slice (some ⟨g6, 0, none⟩) (OS.length + 1) c6)) R M n NV TV D f (some ⟨g6, 0, none⟩) c6 (OS ++ [x]) ∧
    MkA w (w6.setCell ⟨R, 4, none⟩ (.slice (some ⟨g6, 0, none⟩) (OS.length + 1) c6)) R M (Value.slice xa OS.length xc).ownBlock ∧
    ((Value.slice xa OS.length xc).ownBlock = some g6 ∨ w.heap.size ≤ g6) := by
  have hbd : Below w.heap.size w (wd.alloc o) := hd.alloc hd.size _
  have hsd : (wd.alloc o).heap.size = wd.heap.size + 1 := by simp
  have hds := hd.size
  have hRl := h.ltR
  have hMl := h.ltM
  have hlo : ∀ b, b < w.heap.size → (Value.slice xa OS.length xc).ownBlock ≠ some b → w6.heap[b]? = w.heap[b]? := fun b hb e => by
    rw [hg.block b (by omega) (fun e' => e e'.symm)]
    exact hbd.block b hb
  have hR6 := (hlo R hRl h.ownR).trans h.box
  have hsz : w.heap.size ≤ w6.heap.size := Nat.le_trans hbd.size hg.size
  have hgs := hg.size
  have hkeep : ∀ b, b < w.heap.size → b ≠ R → (Value.slice xa OS.length xc).ownBlock ≠ some b → (w6.setCell ⟨R, 4, none⟩ (.slice (some ⟨g6, 0, none⟩) (OS.length + 1) c6)).heap[b]? = w.heap[b]? := fun b hb h1 h2 => by
    rw [Below.heap_setCell _ _ _ _ h1]
    exact hlo b hb h2
  have hgb : ∀ b, b < w.heap.size → (Value.slice xa OS.length xc).ownBlock ≠ some b → g6 ≠ b := fun b hb hne e => by
    rcases hw with r | r
    · exact hne (by rw [r, e])
    · omega
  have howl : ∀ g, (Value.slice xa OS.length xc).ownBlock = some g → w0.heap.size ≤ g ∧ g < w.heap.size := fun g e => h.row.lt g e
  have hbs := h.below.size
  have e1 : (OS ++ [x]).length = OS.length + 1 := by simp
  refine ⟨?_, ⟨hg.os.trans hbd.os, hg.tape.trans hbd.tape, hg.output.trans hbd.output, by simpa using hsz, fun b hb h1 h2 h3 => hkeep b hb h1 h3⟩, ?_⟩
  · exact {
      below := ⟨hg.os.trans (hbd.os.trans h.below.os), hg.tape.trans (hbd.tape.trans h.below.tape), hg.output.trans (hbd.output.trans h.below.output), by simpa using Nat.le_trans hbs hsz, fun b hb => by
        rw [hkeep b (by omega) (fun e => by have := h.geR; omega) (fun e => by have := howl _ e; omega)]
        exact h.below.block b hb⟩
      box := by
        rw [e1, heap_setCell_same _ R 4 _ 165 _ hR6]
        rfl
      map := ((h.map.kept (row := none) ⟨hbd.os, hbd.tape, hbd.output, hbd.size, fun j hj _ => hbd.block j hj⟩ (by simp)).kept hg (fun e => h.ownM e.symm)).setCell (a := ⟨R, 4, none⟩) (fun e => h.RM e.symm) _
      mapf := h.mapf
      row := by
        rw [e1, List.flatMap_append]
        have := ownsRow_mono (w' := w6.setCell ⟨R, 4, none⟩ (.slice (some ⟨g6, 0, none⟩) (OS.length + 1) c6)) hown (fun g e => by
          cases e
          exact Below.heap_setCell _ _ _ _ (hgb R hRl h.ownR))
        simpa using this
      heads := fun z hz => by
        rcases List.mem_append.1 hz with r | r
        · exact ⟨hd_kept (h.heads z r).1 (fun ad e _ => by obtain ⟨s1, s2, s3, s4⟩ := h.sep z r ad e; exact hkeep _ s3 s1 s4) (by simpa using hsz), (h.heads z r).2⟩
        · obtain rfl : z = x := by simpa using r
          refine ⟨hd_kept hx (fun ad e hl => ?_) (by simp; omega), hxn⟩
          obtain ⟨s1, s2, s3, s4⟩ := hxs ad e
          rw [Below.heap_setCell _ _ _ _ s1, hg.block _ (by omega) (fun e2 => s3 e2.symm), Below.heap_alloc _ _ _ s4]
      sep := fun z hz ad e => by
        rcases List.mem_append.1 hz with r | r
        · obtain ⟨s1, s2, s3, s4⟩ := h.sep z r ad e
          exact ⟨s1, s2, by simp; omega, fun e2 => hgb _ s3 s4 (by simpa [Value.ownBlock] using e2)⟩
        · obtain rfl : z = x := by simpa using r
          obtain ⟨s1, s2, s3, s4⟩ := hxs ad e
          refine ⟨s1, s2, by simp; omega, fun e2 => ?_⟩
          have e3 : g6 = ad.block := by simpa [Value.ownBlock] using e2
          rcases hw with q | q
          · exact s3 (by rw [q, e3])
          · omega
      geR := h.geR
      geM := h.geM }
  · rcases hw with q | q
    · exact .inl q
    · exact .inr (by omega)
end
end Go.Proofs.YtifilhkkgkihpaaGreatDoor
set_option linter.unusedSimpArgs false
set_option linter.unusedVariables false
namespace Go.Proofs.YtifilhkkgkihpaaGreatDoor
open Go.RowKit
theorem flat_set4 (x : Hd) : ∀ (L : List Hd) (at_ : Nat), at_ < L.length → (((((L.flatMap hcells).set (at_ * 4) (.int .i64 x.kd)).set (at_ * 4 + 1) (.slice x.na x.nn x.nc)).set (at_ * 4 + 1 + 1) (.slice x.ka x.kn x.kc)).set (at_ * 4 + 1 + 1 + 1) (.bool x.op)) = (L.set at_ x).flatMap hcells
  | [], at_, h => by simp at h
  | z :: r, 0, h => by simp [hcells]
  | z :: r, at_ + 1, h => by
    have ih := flat_set4 x r at_ (by simpa using h)
    rw [List.set_cons_succ, List.flatMap_cons, List.flatMap_cons, ← ih]
    have e : (hcells z).length = 4 := by simp [hcells]
    rw [List.set_append_right _ _ (by rw [e]; omega), List.set_append_right _ _ (by rw [e]; omega), List.set_append_right _ _ (by rw [e]; omega), List.set_append_right _ _ (by rw [e]; omega), e]
    congr 1
    rw [show (at_ + 1) * 4 - 4 = at_ * 4 from by omega, show (at_ + 1) * 4 + 1 - 4 = at_ * 4 + 1 from by omega, show (at_ + 1) * 4 + 1 + 1 - 4 = at_ * 4 + 1 + 1 from by omega, show (at_ + 1) * 4 + 1 + 1 + 1 - 4 = at_ * 4 + 1 + 1 + 1 from by omega]
theorem own_store4 {w : World} {base g n c : Nat} {OS : List Hd} (h : w.ownsRow base 33 4 (.slice (some ⟨g, 0, none⟩) n c) n (OS.flatMap hcells)) (at_ : Nat) (x : Hd) (ha : at_ < OS.length) :
    (w.setCells g (at_ * 4) (hcells x)).ownsRow base 33 4 (.slice (some ⟨g, 0, none⟩) n c) n ((OS.set at_ x).flatMap hcells) ∧ w.grownBy (w.setCells g (at_ * 4) (hcells x)) (some g) := by
  have e : w.setCells g (at_ * 4) (hcells x) = (((w.setCell ⟨g, at_ * 4, none⟩ (.int .i64 x.kd)).setCell ⟨g, at_ * 4 + 1, none⟩ (.slice x.na x.nn x.nc)).setCell ⟨g, at_ * 4 + 1 + 1, none⟩ (.slice x.ka x.kn x.kc)).setCell ⟨g, at_ * 4 + 1 + 1 + 1, none⟩ (.bool x.op) := rfl
  rw [e, ← flat_set4 x OS at_ ha]
  obtain ⟨h1, g1⟩ := h.stored (at_ * 4) (.int .i64 x.kd)
  obtain ⟨h2, g2⟩ := h1.stored (at_ * 4 + 1) (.slice x.na x.nn x.nc)
  obtain ⟨h3, g3⟩ := h2.stored (at_ * 4 + 1 + 1) (.slice x.ka x.kn x.kc)
  obtain ⟨h4, g4⟩ := h3.stored (at_ * 4 + 1 + 1 + 1) (.bool x.op)
  exact ⟨h4, ⟨rfl, rfl, rfl, by simp, fun j hj hne => by rw [g4.block j (by simpa using hj) hne, g3.block j (by simpa using hj) hne, g2.block j (by simpa using hj) hne, g1.block j hj hne]⟩⟩
theorem MkS.store {w0 w : World} {R M n : Nat} {NV TV : Value} {D : DataW Unit} {f : Nat → Option Nat} {g xc : Nat} {OS : List Hd} (h : MkS w0 w R M n NV TV D f (some ⟨g, 0, none⟩) xc OS) (at_ : Nat) (ha : at_ < OS.length) {x : Hd} (hx : HdOk w x) (hxn : (x.na = none → x.nc = 0) ∧ (x.ka = none → x.kc = 0)) (hxs : ∀ ad, blkOf x ad → ad.block ≠ R ∧ ad.block ≠ M ∧ ad.block ≠ g ∧ ad.block < w.heap.size) :
    MkS w0 (w.setCells g (at_ * 4) (hcells x)) R M n NV TV D f (some ⟨g, 0, none⟩) xc (OS.set at_ x) ∧ MkA w (w.setCells g (at_ * 4) (hcells x)) R M (some g) := by
  obtain ⟨h1, hg⟩ := own_store4 h.row at_ x ha
  have e1 : (OS.set at_ x).length = OS.length := by simp
  have hgR : g ≠ R := fun e => h.ownR (by rw [← e]; rfl)
  have hgM : g ≠ M := fun e => h.ownM (by rw [← e]; rfl)
  have hgl := h.row.lt g rfl
  refine ⟨?_, hg.os, hg.tape, hg.output, hg.size, fun b hb _ _ h3 => hg.block b hb (fun e => h3 e.symm)⟩
  exact {
    below := below_grow h.below hg h.below.size (fun k e => by cases e; exact hgl.1)
    box := by rw [e1]; exact (hg.block R h.ltR (fun e => hgR (by cases e; rfl))).trans h.box
    map := h.map.kept hg (fun e => hgM (by cases e; rfl))
    mapf := h.mapf
    row := by rw [e1]; exact h1
    heads := fun z hz => by
      rcases List.mem_or_eq_of_mem_set hz with r | rfl
      · exact ⟨hd_kept (h.heads z r).1 (fun ad e hl => hg.block _ hl (fun e2 => (h.sep z r ad e).2.2.2 (by cases e2; rfl))) hg.size, (h.heads z r).2⟩
      · exact ⟨hd_kept hx (fun ad e hl => hg.block _ hl (fun e2 => (hxs ad e).2.2.1 (by cases e2; rfl))) hg.size, hxn⟩
    sep := fun z hz ad e => by
      rw [e1]
      rcases List.mem_or_eq_of_mem_set hz with r | rfl
      · obtain ⟨s1, s2, s3, s4⟩ := h.sep z r ad e
        exact ⟨s1, s2, Nat.lt_of_lt_of_le s3 hg.size, s4⟩
      · obtain ⟨s1, s2, s3, s4⟩ := hxs ad e
        exact ⟨s1, s2, Nat.lt_of_lt_of_le s4 hg.size, fun e2 => s3 (by simpa [Value.ownBlock] using e2.symm)⟩
    geR := h.geR
    geM := h.geM }
/-- what a head says: kind, names, kids, open. -/
abbrev Vh := Int × List ByteArray × List Int × Bool
def vh (x : Hd) : Vh := (x.kd, x.NS, x.KS, x.op)
/-- how many heads the first j kids give. -/
def offs (cs : List (Nat × List Vh × List Nat)) (j : Nat) : Nat := ((cs.take j).flatMap (·.2.1)).length
def posl (m : Nat) (cs : List (Nat × List Vh × List Nat)) (n : Nat) : List Int := (List.range n).map fun j => ((m + offs cs j : Nat) : Int)
theorem posl_succ (m : Nat) (cs : List (Nat × List Vh × List Nat)) (n : Nat) : posl m cs (n + 1) = posl m cs n ++ [((m + offs cs n : Nat) : Int)] := by
  simp [posl, List.range_succ]
theorem posl_len (m : Nat) (cs : List (Nat × List Vh × List Nat)) (n : Nat) : (posl m cs n).length = n := by simp [posl]
/-- the heads that the type at i gives, where m stand already; ix: the types gone through. -/
inductive HdT (YT : List Nd) : Nat → Nat → List Vh → List Nat → Prop
  | mk {i m : Nat} {x : Nd} (cs : List (Nat × List Vh × List Nat)) : YT[i]? = some x → x.1.NS = [] → x.1.KS = cs.map (fun c => (c.1 : Int)) → (∀ (j : Nat) (c : Nat × List Vh × List Nat), cs[j]? = some c → HdT YT c.1 (m + 1 + offs cs j) c.2.1 c.2.2) → (i :: cs.flatMap (·.2.2)).Nodup →
      HdT YT i m ((x.1.kd, [], posl (m + 1) cs cs.length, x.1.op) :: cs.flatMap (·.2.1)) (i :: cs.flatMap (·.2.2))
/-- what a head's call brings. -/
def HdPost (w0 w : World) (R M n : Nat) (NV TV : Value) (f : Nat → Option Nat) (xa : Option Addr) (xc : Nat) (OS : List Hd) (hs : List Vh) (ix : List Nat) (e : Ending) (w' : World) : Prop :=
  ∃ (NEW : List Hd) (D' : DataW Unit) (f' : Nat → Option Nat) (xa' : Option Addr) (xc' : Nat), e = .returned (.tuple #[.int .i64 (OS.length : Int), .int .i64 0]) ∧ NEW.map vh = hs ∧ MkS w0 w' R M (n + ix.length) NV TV D' f' xa' xc' (OS ++ NEW) ∧ MkA w w' R M (Value.slice xa OS.length xc).ownBlock ∧ (∀ n2 c2 g, (Value.slice xa' n2 c2).ownBlock = some g → (Value.slice xa OS.length xc).ownBlock = some g ∨ w.heap.size ≤ g) ∧ (∀ x ∈ NEW, ∀ ad, blkOf x ad → w.heap.size ≤ ad.block) ∧ (∀ k, f' k ≠ none → f k ≠ none ∨ k ∈ ix)
/-- the head under way, in its box at B. -/
structure HdL (w wr : World) (B : Nat) (kd : Int) (a1 : Option Addr) (c1 : Nat) (op : Bool) (ka : Option Addr) (kc : Nat) (PS : List Int) : Prop where
  box : wr.heap[B]? = some (.cells #[.int .i64 kd, .slice a1 0 c1, .slice ka PS.length kc, .bool op] 33 (0, 0))
  row : wr.ownsRow w.heap.size 3 1 (.slice ka PS.length kc) PS.length (PS.map (Value.int .i64))
  geB : w.heap.size ≤ B
theorem MkS.grown {w0 w w' : World} {R M n : Nat} {NV TV : Value} {D : DataW Unit} {f : Nat → Option Nat} {xa : Option Addr} {xc : Nat} {OS : List Hd} (h : MkS w0 w R M n NV TV D f xa xc OS) {row : Option Nat} (hg : w.grownBy w' row) (hr : ∀ g, row = some g → w0.heap.size ≤ g ∧ g ≠ R ∧ g ≠ M ∧ (Value.slice xa OS.length xc).ownBlock ≠ some g ∧ ∀ x ∈ OS, ∀ ad, blkOf x ad → ad.block ≠ g) : MkS w0 w' R M n NV TV D f xa xc OS := by
  cases row with
  | none => exact h.on ⟨hg.os, hg.tape, hg.output, hg.size, fun b hb => hg.block b hb (by simp)⟩
  | some g =>
    obtain ⟨h0, h1, h2, h3, h4⟩ := hr g rfl
    exact h.other hg h0 h1 h2 h3 h4
/-- what parts the head under way from the maker's. -/
def HdSep (B : Nat) (xa : Option Addr) (ka : Option Addr) (OS : List Hd) : Prop := (Value.slice xa 0 0).ownBlock ≠ some B ∧ ∀ x ∈ OS, ∀ ad, blkOf x ad → ad.block ≠ B ∧ (Value.slice ka 0 0).ownBlock ≠ some ad.block
end Go.Proofs.YtifilhkkgkihpaaGreatDoor
