/- Plain: a new head in the maker's row. Plain: the kids of a head under way. Walks: maker.head. maker.head on any type whose heads are told. Walks: graph.Of over a tree of types. Walks: graph.Of over a tree of types. Walks: graph.Of over a tree of types (the walk). -/
import Derived.Test.YtifilhkkgkihpaaGreatDoorGr22
import Derived.Deep.RegionHeld3
import Derived.Test.YtifilhkkgkihpaaGreatDoorGr10
set_option linter.unusedSimpArgs false
set_option linter.unusedVariables false
set_option linter.unusedSimpArgs false
set_option linter.unusedVariables false
namespace Go.Proofs.YtifilhkkgkihpaaGreatDoor
open Go.RowKit
theorem hd_new {w0 wc w5 : World} {R M n : Nat} {NV TV : Value} {D : DataW Unit} {f : Nat → Option Nat} {xa : Option Addr} {xc : Nat} {OS : List Hd} (hS : MkS w0 wc R M n NV TV D f xa xc OS) {kd : Int} {a1 : Option Addr} {c1 : Nat} {op : Bool} (hn : a1 = none → c1 = 0) {o : Obj} {g5 c5 : Nat}
    (hg : (wc.drew.alloc o).grownBy w5 (Value.slice xa OS.length xc).ownBlock) (hown : w5.ownsRow w0.heap.size 33 4 (.slice (some ⟨g5, 0, none⟩) (OS.length + 1) c5) (OS.length + 1) (OS.flatMap hcells ++ [.int .i64 kd, .slice a1 0 c1, .slice none 0 0, .bool op])) (hw : (Value.slice xa OS.length xc).ownBlock = some g5 ∨ g5 = (wc.drew.alloc o).heap.size) :
    (MkS w0 (w5.setCell ⟨R, 4, none⟩ (.slice (some ⟨g5, 0, none⟩) (OS.length + 1) c5)) R M n NV TV D f (some ⟨g5, 0, none⟩) c5 (OS ++ [⟨kd, a1, 0, c1, [], none, 0, 0, [], op⟩]) ∧
    MkA wc (w5.setCell ⟨R, 4, none⟩ (.slice (some ⟨g5, 0, none⟩) (OS.length + 1) c5)) R M (Value.slice xa OS.length xc).ownBlock ∧
    ((Value.slice xa OS.length xc).ownBlock = some g5 ∨ wc.heap.size ≤ g5)) ∧ w5.heap[R]? = some (.cells #[NV, TV, .slice none 0 0, .map (some M), .slice xa OS.length xc] 165 (0, 0)) := by
  have hd : Below wc.heap.size wc wc.drew := (Below.refl _ _).drew
  refine ⟨hS.step (x := ⟨kd, a1, 0, c1, [], none, 0, 0, [], op⟩) hd ⟨⟨rfl, .inl rfl⟩, ⟨rfl, .inl rfl⟩, Nat.zero_le _, Nat.zero_le _, fun s h => by cases h⟩ ⟨hn, fun _ => rfl⟩ (fun ad e => ?_) hg hown hw, ?_⟩
  · rcases e with ⟨_, e2⟩ | ⟨_, e2⟩ <;> exact absurd rfl e2
  · have hR := hS.ltR
    have hs := hd.size
    rw [hg.block R (by simp; omega) (fun e => hS.ownR e.symm), Below.heap_alloc _ _ _ (by omega)]
    exact (hd.block R hR).trans hS.box
end Go.Proofs.YtifilhkkgkihpaaGreatDoor
set_option linter.unusedSimpArgs false
set_option linter.unusedVariables false
namespace Go.Proofs.YtifilhkkgkihpaaGreatDoor
open Go.RowKit
def hd0 (kd : Int) (a1 : Option Addr) (c1 : Nat) (op : Bool) : Hd := ⟨kd, a1, 0, c1, [], none, 0, 0, [], op⟩
/-- the head of the type i under way: hs, ix: what its kids gave so far; PS: their places; own: the maker's row when the call began. -/
structure KMid (w0 w wr : World) (R M n B : Nat) (NV TV : Value) (f : Nat → Option Nat) (own : Option Nat) (OS : List Hd) (kd : Int) (a1 : Option Addr) (c1 : Nat) (op : Bool) (i : Nat) (hs : List Vh) (ix : List Nat) (PS : List Int) (KN : List Hd) (D' : DataW Unit) (f' : Nat → Option Nat) (xa' : Option Addr) (xc' : Nat) (ka' : Option Addr) (kc' : Nat) : Prop where
  vhs : KN.map vh = hs
  mks : MkS w0 wr R M (n + 1 + ix.length) NV TV D' f' xa' xc' (OS ++ [hd0 kd a1 c1 op] ++ KN)
  hd : HdL w wr B kd a1 c1 op ka' kc' PS
  sep : HdSep B xa' ka' (OS ++ [hd0 kd a1 c1 op] ++ KN)
  dom : ∀ k, f' k ≠ none → f k ≠ none ∨ k = i ∨ k ∈ ix
  act : MkA w wr R M own
  ownn : ∀ n2 c2 g, (Value.slice xa' n2 c2).ownBlock = some g → own = some g ∨ w.heap.size ≤ g
  new : ∀ x ∈ KN, ∀ ad, blkOf x ad → w.heap.size ≤ ad.block
  nil : ka' = none → kc' = 0
  neR : R < w.heap.size
  neM : M < w.heap.size
  nz : a1 = none → c1 = 0
section
variable {w0 w wr : World} {R M n B : Nat} {NV TV : Value} {f : Nat → Option Nat} {own : Option Nat} {OS : List Hd} {kd : Int} {a1 : Option Addr} {c1 : Nat} {op : Bool} {i : Nat} {hs : List Vh} {ix : List Nat} {PS : List Int} {KN : List Hd} {D' : DataW Unit} {f' : Nat → Option Nat} {xa' : Option Addr} {xc' : Nat} {ka' : Option Addr} {kc' : Nat}
theorem KMid.ltB (h : KMid w0 w wr R M n B NV TV f own OS kd a1 c1 op i hs ix PS KN D' f' xa' xc' ka' kc') : B < wr.heap.size := (Array.getElem?_eq_some_iff.1 h.hd.box).1
theorem KMid.call (h : KMid w0 w wr R M n B NV TV f own OS kd a1 c1 op i hs ix PS KN D' f' xa' xc' ka' kc') {w6 : World} {NEW : List Hd} {D2 : DataW Unit} {f2 : Nat → Option Nat} {xa2 : Option Addr} {xc2 : Nat} {hs2 : List Vh} {ix2 : List Nat} (hv : NEW.map vh = hs2) (hm : MkS w0 w6 R M (n + 1 + ix.length + ix2.length) NV TV D2 f2 xa2 xc2 (OS ++ [hd0 kd a1 c1 op] ++ KN ++ NEW)) (ha : MkA wr w6 R M (Value.slice xa' (OS ++ [hd0 kd a1 c1 op] ++ KN).length xc').ownBlock)
    (ho : ∀ n2 c2 g, (Value.slice xa2 n2 c2).ownBlock = some g → (Value.slice xa' (OS ++ [hd0 kd a1 c1 op] ++ KN).length xc').ownBlock = some g ∨ wr.heap.size ≤ g) (hn : ∀ x ∈ NEW, ∀ ad, blkOf x ad → wr.heap.size ≤ ad.block) (hf : ∀ k, f2 k ≠ none → f' k ≠ none ∨ k ∈ ix2) :
    KMid w0 w w6 R M n B NV TV f own OS kd a1 c1 op i (hs ++ hs2) (ix ++ ix2) PS (KN ++ NEW) D2 f2 xa2 xc2 ka' kc' := by
  have hBl := h.ltB
  have hge := h.hd.geB
  have hR := h.neR
  have hM := h.neM
  have hws := h.act.size
  have e0 : (Value.slice xa' (OS ++ [hd0 kd a1 c1 op] ++ KN).length xc').ownBlock = (Value.slice xa' 0 0).ownBlock := own_len _ _ _ _ _
  have hB : w6.heap[B]? = wr.heap[B]? := ha.block B hBl (by omega) (by omega) (by rw [e0]; exact h.sep.1)
  have hkk : ∀ g, (Value.slice ka' PS.length kc').ownBlock = some g → w6.heap[g]? = wr.heap[g]? := fun g e => by
    have hl := h.hd.row.lt g e
    refine ha.block g hl.2 (by omega) (by omega) (fun e2 => ?_)
    rcases own_two h.mks.row h.hd.row (by decide) with r | r
    · rw [r] at e2; cases e2
    · exact r (by rw [e2, e])
  have ek : ∀ q, (Value.slice ka' 0 0).ownBlock = some q → (Value.slice ka' PS.length kc').ownBlock = some q := fun q e => by rw [own_len ka' _ _ 0 0]; exact e
  have ea : OS ++ [hd0 kd a1 c1 op] ++ (KN ++ NEW) = OS ++ [hd0 kd a1 c1 op] ++ KN ++ NEW := by simp
  exact {
    vhs := by rw [List.map_append, h.vhs, hv]
    mks := by rw [ea, List.length_append, ← Nat.add_assoc]; exact hm
    hd := ⟨hB.trans h.hd.box, ownsRow_mono h.hd.row hkk, hge⟩
    sep := ⟨fun e => by
      rcases ho _ _ _ e with r | r
      · rw [e0] at r; exact h.sep.1 r
      · omega, fun x hx ad e => by
      rw [ea] at hx
      rcases List.mem_append.1 hx with r | r
      · exact h.sep.2 x r ad e
      · have h1 := hn x r ad e
        refine ⟨by omega, fun e2 => ?_⟩
        have := (h.hd.row.lt _ (ek _ e2)).2
        omega⟩
    dom := fun k hk => by
      rcases hf k hk with r | r
      · rcases h.dom k r with q | q | q
        · exact .inl q
        · exact .inr (.inl q)
        · exact .inr (.inr (List.mem_append_left _ q))
      · exact .inr (.inr (List.mem_append_right _ r))
    act := h.act.trans ha (fun g e => h.ownn _ _ g e)
    ownn := fun n2 c2 g e => by
      rcases ho n2 c2 g e with r | r
      · exact h.ownn _ _ g r
      · exact .inr (by omega)
    new := fun x hx ad e => by
      rcases List.mem_append.1 hx with r | r
      · exact h.new x r ad e
      · have := hn x r ad e; omega
    nil := h.nil
    neR := h.neR
    neM := h.neM
    nz := h.nz }
theorem KMid.push (h : KMid w0 w wr R M n B NV TV f own OS kd a1 c1 op i hs ix PS KN D' f' xa' xc' ka' kc') {p : Int} {o : Obj} {w7 : World} {g7 c7 : Nat} (hg : (wr.alloc o).grownBy w7 (Value.slice ka' PS.length kc').ownBlock) (hr : w7.ownsRow w.heap.size 3 1 (.slice (some ⟨g7, 0, none⟩) (PS.length + 1) c7) (PS.length + 1) (PS.map (Value.int .i64) ++ [.int .i64 p])) (hw : (Value.slice ka' PS.length kc').ownBlock = some g7 ∨ g7 = (wr.alloc o).heap.size) :
    KMid w0 w (w7.setCell ⟨B, 2, none⟩ (.slice (some ⟨g7, 0, none⟩) (PS.length + 1) c7)) R M n B NV TV f own OS kd a1 c1 op i hs ix (PS ++ [p]) KN D' f' xa' xc' (some ⟨g7, 0, none⟩) c7 ∧ w7.heap[B]? = some (.cells #[.int .i64 kd, .slice a1 0 c1, .slice ka' PS.length kc', .bool op] 33 (0, 0)) := by
  have hBl := h.ltB
  have hge := h.hd.geB
  have hR := h.neR
  have hM := h.neM
  have hws := h.act.size
  have hgR := h.mks.geR
  have hsa : (wr.alloc o).heap.size = wr.heap.size + 1 := by simp
  have hba : Below wr.heap.size wr (wr.alloc o) := (Below.refl _ _).alloc (Nat.le_refl _) _
  have hgs := hg.size
  have hkB : (Value.slice ka' PS.length kc').ownBlock ≠ some B := own_boxP h.hd.row h.hd.box (by decide)
  have hkl : ∀ g, (Value.slice ka' PS.length kc').ownBlock = some g → w.heap.size ≤ g ∧ g < wr.heap.size := fun g e => h.hd.row.lt g e
  have ek : ∀ q, (Value.slice ka' PS.length kc').ownBlock = some q → (Value.slice ka' 0 0).ownBlock = some q := fun q e => by rw [own_len ka' 0 0 PS.length kc']; exact e
  have eo : ∀ q, (Value.slice xa' (OS ++ [hd0 kd a1 c1 op] ++ KN).length xc').ownBlock = some q → (Value.slice xa' 0 0).ownBlock = some q := fun q e => by rw [own_len xa' 0 0 (OS ++ [hd0 kd a1 c1 op] ++ KN).length xc']; exact e
  have hB7 : w7.heap[B]? = some (.cells #[.int .i64 kd, .slice a1 0 c1, .slice ka' PS.length kc', .bool op] 33 (0, 0)) := by
    rw [hg.block B (by omega) (fun e => hkB e.symm), hba.block B hBl]
    exact h.hd.box
  have hg7B : g7 ≠ B := fun e => by
    rcases hw with r | r
    · exact hkB (by rw [r, e])
    · omega
  have hm7 := (h.mks.on hba).grown hg (fun g e => by
    have := hkl g e
    refine ⟨by omega, by omega, by omega, fun e2 => ?_, fun x hx ad e2 e3 => (h.sep.2 x hx ad e2).2 (by rw [e3]; exact ek g e)⟩
    rcases own_two h.mks.row h.hd.row (by decide) with r | r
    · rw [r] at e2; cases e2
    · exact r (by rw [e2, e]))
  have hm8 := hm7.other (w' := w7.setCell ⟨B, 2, none⟩ (.slice (some ⟨g7, 0, none⟩) (PS.length + 1) c7)) (Val.grown_set w7 B 2 _) (by omega) (by omega) (by omega) (fun e => h.sep.1 (eo B e)) (fun x hx ad e => (h.sep.2 x hx ad e).1)
  refine ⟨?_, hB7⟩
  exact {
    vhs := h.vhs
    mks := hm8
    hd := ⟨by
      rw [heap_setCell_same _ B 2 _ 33 _ hB7]
      simp, by
      have := ownsRow_mono (w' := w7.setCell ⟨B, 2, none⟩ (.slice (some ⟨g7, 0, none⟩) (PS.length + 1) c7)) hr (fun g e => by
        cases e
        exact Below.heap_setCell _ _ _ _ hg7B)
      simpa using this, hge⟩
    sep := ⟨h.sep.1, fun x hx ad e => ⟨(h.sep.2 x hx ad e).1, fun e2 => by
      have e3 : g7 = ad.block := by simpa [Value.ownBlock] using e2
      rcases hw with r | r
      · exact (h.sep.2 x hx ad e).2 (by rw [← e3]; exact ek _ r)
      · have := (h.mks.sep x hx ad e).2.2.1
        omega⟩⟩
    dom := h.dom
    act := ⟨hg.os.trans h.act.os, hg.tape.trans h.act.tape, hg.output.trans h.act.output, by simp; omega, fun b hb q1 q2 q3 => by
      rw [Below.heap_setCell _ _ _ _ (by simp only; omega), hg.block b (by omega) (fun e => by have := hkl b e.symm; omega), hba.block b (by omega)]
      exact h.act.block b hb q1 q2 q3⟩
    ownn := h.ownn
    new := h.new
    nil := fun e => by cases e
    neR := h.neR
    neM := h.neM
    nz := h.nz }
theorem KMid.on (h : KMid w0 w wr R M n B NV TV f own OS kd a1 c1 op i hs ix PS KN D' f' xa' xc' ka' kc') {w' : World} (hb : Below wr.heap.size wr w') : KMid w0 w w' R M n B NV TV f own OS kd a1 c1 op i hs ix PS KN D' f' xa' xc' ka' kc' where
  vhs := h.vhs
  mks := h.mks.on hb
  hd := ⟨(hb.block B h.ltB).trans h.hd.box, ownsRow_mono h.hd.row (fun g e => hb.block g (h.hd.row.lt g e).2), h.hd.geB⟩
  sep := h.sep
  dom := h.dom
  act := h.act.trans (MkA.of_below hb) (fun g e => .inl e)
  ownn := h.ownn
  new := h.new
  nil := h.nil
  neR := h.neR
  neM := h.neM
  nz := h.nz
/-- the head at its end. -/
def hdE (kd : Int) (a1 : Option Addr) (c1 : Nat) (op : Bool) (ka : Option Addr) (kc : Nat) (PS : List Int) : Hd := ⟨kd, a1, 0, c1, [], ka, PS.length, kc, PS, op⟩
theorem KMid.fin (h : KMid w0 w wr R M n B NV TV f own OS kd a1 c1 op i hs ix PS KN D' f' xa' xc' ka' kc') (hp : PS.length ≤ 1000) {g : Nat} (hx : xa' = some ⟨g, 0, none⟩) :
    MkS w0 (wr.setCells g (OS.length * 4) (hcells (hdE kd a1 c1 op ka' kc' PS))) R M (n + (i :: ix).length) NV TV D' f' xa' xc' (OS ++ (hdE kd a1 c1 op ka' kc' PS :: KN)) ∧ MkA w (wr.setCells g (OS.length * 4) (hcells (hdE kd a1 c1 op ka' kc' PS))) R M own := by
  subst hx
  have hR := h.neR
  have hM := h.neM
  have hg := h.mks.row.lt g rfl
  obtain ⟨h1, h2⟩ := h.mks.store OS.length (by simp) (x := hdE kd a1 c1 op ka' kc' PS) ⟨⟨rfl, .inl rfl⟩, own_ints h.hd.row, Nat.zero_le _, hp, fun s h => by cases h⟩ ⟨h.nz, h.nil⟩ (fun ad e => by
    rcases e with ⟨_, e2⟩ | ⟨e1, e2⟩
    · exact absurd rfl e2
    · have ho : (Value.slice ka' PS.length kc').ownBlock = some ad.block := by rw [show ka' = some ad from e1]; rfl
      have hl := h.hd.row.lt _ ho
      refine ⟨by omega, by omega, fun e3 => ?_, hl.2⟩
      rcases own_two h.mks.row h.hd.row (by decide) with r | r
      · cases r
      · exact r (by rw [ho, e3]; rfl))
  have e1 : (OS ++ [hd0 kd a1 c1 op] ++ KN).set OS.length (hdE kd a1 c1 op ka' kc' PS) = OS ++ (hdE kd a1 c1 op ka' kc' PS :: KN) := by simp
  rw [e1] at h1
  refine ⟨?_, h.act.trans h2 (fun q e => h.ownn 0 0 q (by simpa [Value.ownBlock] using e))⟩
  rw [show n + (i :: ix).length = n + 1 + ix.length from by simp; omega]
  exact h1
end
end Go.Proofs.YtifilhkkgkihpaaGreatDoor
set_option linter.unusedSimpArgs false
set_option linter.unusedVariables false
namespace Go.Proofs.YtifilhkkgkihpaaGreatDoor
open Go.RowKit
theorem cell_set_ne {w : World} {b b' o j : Nat} {v : Value} (h : b ≠ b') : (w.setCell ⟨b', j, none⟩ v).cell? ⟨b, o, none⟩ = w.cell? ⟨b, o, none⟩ := by
  have := Below.heap_setCell w ⟨b', j, none⟩ v b h
  simp only [World.cell?, this]
theorem set4_heap {w : World} {B : Nat} {a b c d a' b' c' d' : Value} (h : w.heap[B]? = some (.cells #[a, b, c, d] 33 (0, 0))) : ((((w.setCell ⟨B, 0, none⟩ a').setCell ⟨B, 1, none⟩ b').setCell ⟨B, 2, none⟩ c').setCell ⟨B, 3, none⟩ d').heap[B]? = some (.cells #[a', b', c', d'] 33 (0, 0)) := by
  rw [heap_setCell_same _ B 3 _ 33 _ (heap_setCell_same _ B 2 _ 33 _ (heap_setCell_same _ B 1 _ 33 _ (heap_setCell_same _ B 0 _ 33 _ h)))]
  rfl
theorem flat_take {α : Type} (F : Nat × List Vh × List Nat → List α) {cs : List (Nat × List Vh × List Nat)} {j : Nat} {c : Nat × List Vh × List Nat} (hc : cs[j]? = some c) : (cs.take (j + 1)).flatMap F = (cs.take j).flatMap F ++ F c := by
  rw [List.take_add_one, hc, List.flatMap_append]
  simp
theorem flat_all {α : Type} (F : Nat × List Vh × List Nat → List α) {cs : List (Nat × List Vh × List Nat)} {j : Nat} {c : Nat × List Vh × List Nat} (hc : cs[j]? = some c) : cs.flatMap F = (cs.take j).flatMap F ++ F c ++ (cs.drop (j + 1)).flatMap F := by
  rw [← flat_take F hc, ← List.flatMap_append, List.take_append_drop]
def HeadNew (w4 wc : World) (B : Nat) (kd : Int) (a1 : Option Addr) (c1 : Nat) (op : Bool) : Prop := wc.heap[B]? = some (.cells #[.int .i64 kd, .slice a1 0 c1, .slice none 0 0, .bool op] 33 (0, 0)) ∧ w4.heap.size ≤ B ∧ Below w4.heap.size w4 wc ∧ (a1 = none → c1 = 0)
set_option maxRecDepth 20000 in
set_option maxHeartbeats 8000000 in
theorem head_one (w0 w : World) (R M n : Nat) (gn gk gt gy oy cy cn r NN : Nat) (YT : List Nd) (hT0 : TreeT w0 gn gk gt r) (hY0 : TpsIn w0 (some ⟨gy, oy, none⟩) NN YT) (hN3 : NN ≤ 1000) (hr : r < NN) (hty : TypsOk YT) (h1 : ∀ x ∈ bumps (UU NN r) (kidsN YT), x = 1)
    (D : DataW Unit) (f : Nat → Option Nat) (xa : Option Addr) (xc : Nat) (OS : List Hd) (hS : MkS w0 w R M n (.slice (some ⟨gn, 0, none⟩) 2 cn) (.slice (some ⟨gy, oy, none⟩) NN cy) D f xa xc OS) (i : Nat) (x : Nd) (hx : YT[i]? = some x) (hNS : x.1.NS = []) (cs : List (Nat × List Vh × List Nat)) (hKS : x.1.KS = cs.map (fun c => (c.1 : Int)))
    (hf : ∀ k ∈ i :: cs.flatMap (·.2.2), f k = none) (hnd : (i :: cs.flatMap (·.2.2)).Nodup) (hlen : OS.length + 1 + (cs.flatMap (·.2.1)).length ≤ 1000) (hn : n + 1 + (cs.flatMap (·.2.2)).length ≤ 10000)
    (hK : ∀ (j : Nat) (c : Nat × List Vh × List Nat), cs[j]? = some c → ∀ (w' : World) (n' : Nat) (D' : DataW Unit) (f' : Nat → Option Nat) (xa' : Option Addr) (xc' : Nat) (OS' : List Hd), OS'.length = OS.length + 1 + offs cs j → MkS w0 w' R M n' (.slice (some ⟨gn, 0, none⟩) 2 cn) (.slice (some ⟨gy, oy, none⟩) NN cy) D' f' xa' xc' OS' → (∀ k ∈ c.2.2, f' k = none) → n' + c.2.2.length ≤ 10000 → Calls Tryz.prog 101 #[.pointer (some ⟨R, 0, none⟩), .int .i64 (c.1 : Int)] w' (HdPost w0 w' R M n' (.slice (some ⟨gn, 0, none⟩) 2 cn) (.slice (some ⟨gy, oy, none⟩) NN cy) f' xa' xc' OS' c.2.1 c.2.2)) :
    Calls Tryz.prog 101 #[.pointer (some ⟨R, 0, none⟩), .int .i64 (i : Int)] w (HdPost w0 w R M n (.slice (some ⟨gn, 0, none⟩) 2 cn) (.slice (some ⟨gy, oy, none⟩) NN cy) f xa xc OS ((x.1.kd, [], posl (OS.length + 1) cs cs.length, x.1.op) :: cs.flatMap (·.2.1)) (i :: cs.flatMap (·.2.2))) := by
  have HT0 := Lib.hid hT0
  have HY0 := Lib.hid hY0
  have HS := Lib.hid hS
  have HXX := Lib.hid hx
  have HNS := Lib.hid hNS
  have HKS := Lib.hid hKS
  have HF := Lib.hid hf
  have HND := Lib.hid hnd
  have HLEN := Lib.hid hlen
  have HN := Lib.hid hn
  have HKC := Lib.hid hK
  have hos : (OS.length : Int) < 4096 := by omega
  have hos2 : ¬ (4096 : Int) ≤ OS.length := by omega
  have hin : i < NN := by have := (List.getElem?_eq_some_iff.1 hx).1; have := hY0.len; omega
  have hin2 : (i : Int) < NN := by omega
  have HIN := Lib.hid hin
  have HN3 := Lib.hid hN3
  have HTH := Lib.hid (thru_any w gn gk gt gy oy cy cn r NN i YT (hT0.on hS.below) (hY0.on hS.below) hN3 hr hty h1 x hx)
  have r0 : w.cell? ⟨R, 0, none⟩ = some (.slice (some ⟨gn, 0, none⟩) 2 cn) := (by rw [cell_of_row _ _ 0 _ 165 _ hS.box]; rfl)
  have r1 : w.cell? ⟨R, 1, none⟩ = some (.slice (some ⟨gy, oy, none⟩) NN cy) := (by rw [cell_of_row _ _ 1 _ 165 _ hS.box]; rfl)
  have r2 : w.cell? ⟨R, 2, none⟩ = some (.slice none 0 0) := (by rw [cell_of_row _ _ 2 _ 165 _ hS.box]; rfl)
  clear hT0 hY0 hS hx hNS hKS hf hnd hlen hn hK hr hty h1 hN3
  go_enter Tryz.func101, Tryz.ntmps101
  go_upto_region 4 with (go_at_call 134; (with_reducible refine HTH.out.mono ?_); rintro e w2 ⟨rfl, hb2⟩; have HB2 := Lib.hid hb2; clear hb2)
  clear r0 r1 r2
  have HS2 := Lib.hid (HS.out.on HB2.out)
  have HKX : Hid (keyOf Tryz.prog 3 (.int .i64 (i : Int)) = some (keyI i)) := Lib.hid (keyOf3 _ (by have := HN3.out; omega))
  have hhas : Maps.has D (keyI i) = false := by rw [HS2.out.mapf.has i, HF.out i (by simp)]; rfl
  have r3 : w2.cell? ⟨R, 3, none⟩ = some (.map (some M)) := (by rw [cell_of_row _ _ 3 _ 165 _ HS2.out.box]; rfl)
  have r4 : w2.cell? ⟨R, 4, none⟩ = some (.slice xa OS.length xc) := (by rw [cell_of_row _ _ 4 _ 165 _ HS2.out.box]; rfl)
  have r1 : w2.cell? ⟨R, 1, none⟩ = some (.slice (some ⟨gy, oy, none⟩) NN cy) := (by rw [cell_of_row _ _ 1 _ 165 _ HS2.out.box]; rfl)
  have HOK := Lib.hid (HY0.out.nds x (List.mem_of_getElem? HXX.out))
  obtain ⟨g, o, he, hg, n0, n1, n2, n3, n4, n5⟩ := (HY0.out.on HS2.out.below).at HXX.out
  cases he
  clear hg
  obtain ⟨⟨kd, na, nn, nc, NS, ka, kn, kc, KS, op⟩, ps⟩ := x
  simp only at n0 n1 n2 n3 n4 n5 HOK HNS HKS
  go_upto_region 10 with (at_lookup; refine wpList_lookup_own_ok_int _ rfl _ _ 163 rfl 3 3 .i64 (Maps.int_keyed Tryz.underlying3) Tryz.underlying163 Tryz.underlying3 (zero3 _) M n D rfl HS2.out.map _ (keyI i) rfl HKX.out ?_; intro z8 hat8 hwc8; clear hat8 hwc8)
  clear r3 r4 r1 n0 n1 n2 n3 n4 n5
  have HT3 : Hid ((w2.alloc (.cells #[.int .i64 kd, .int .i64 ps, .string ⟨#[]⟩, .slice na nn nc, .slice ka kn kc, .bool op] 152)).heap[w2.heap.size]? = some (.cells #[.int .i64 kd, .int .i64 ps, .string ⟨#[]⟩, .slice na nn nc, .slice ka kn kc, .bool op] 152 (0, 0))) := Lib.hid (heap_alloc_new w2 _)
  have HB3 : Hid (Below w2.heap.size w2 (w2.alloc (.cells #[.int .i64 kd, .int .i64 ps, .string ⟨#[]⟩, .slice na nn nc, .slice ka kn kc, .bool op] 152))) := Lib.hid ((Below.refl _ _).alloc (Nat.le_refl _) _)
  generalize (w2.alloc (.cells #[.int .i64 kd, .int .i64 ps, .string ⟨#[]⟩, .slice na nn nc, .slice ka kn kc, .bool op] 152)) = w3 at *
  have HS3 := Lib.hid (HS2.out.on HB3.out)
  have r3 : w3.cell? ⟨R, 3, none⟩ = some (.map (some M)) := (by rw [cell_of_row _ _ 3 _ 165 _ HS3.out.box]; rfl)
  have r4 : w3.cell? ⟨R, 4, none⟩ = some (.slice xa OS.length xc) := (by rw [cell_of_row _ _ 4 _ 165 _ HS3.out.box]; rfl)
  have HIW : Hid ((Lit.int .i64 (OS.length : Int)).wf = true) := Lib.hid (wf_small _ (by have := HLEN.out; omega))
  go_upto_region 12 with (at_mapUpdate; refine wpList_mapUpdate_own _ rfl _ _ _ 163 rfl 3 3 (Maps.int_keyed Tryz.underlying3) Tryz.underlying163 _ M n D rfl HS3.out.map (by have := HN.out; unfold maxLen; omega) _ _ _ rfl rfl HKX.out _ [] (plainElem_int Tryz.underlying3 HIW.out) ?_; intro w4 hown4 hgr4; have HO4 := Lib.hid hown4; have HG4 := Lib.hid hgr4; clear hown4 hgr4)
  clear r3 r4 hhas
  have HS4 := Lib.hid (HS3.out.upd HG4.out HO4.out (HS3.out.mapf.put i OS.length))
  have HT4 : Hid (w4.heap[w2.heap.size]? = some (.cells #[.int .i64 kd, .int .i64 ps, .string ⟨#[]⟩, .slice na nn nc, .slice ka kn kc, .bool op] 152 (0, 0))) := Lib.hid ((HG4.out.block _ (Array.getElem?_eq_some_iff.1 HT3.out).1 (fun e => (by have h1 := HS2.out.ltM; have h2 : w2.heap.size = M := (by simpa using e); omega))).trans HT3.out)
  have HA4 : Hid (MkA w w4 R M (Value.slice xa OS.length xc).ownBlock) := Lib.hid ((MkA.of_below (HB2.out.trans (HB3.out.mono HB2.out.size))).trans ⟨HG4.out.os, HG4.out.tape, HG4.out.output, HG4.out.size, fun b hb _ h2 _ => HG4.out.block b hb (fun e => h2 (by cases e; rfl))⟩ (fun g e => .inl e) (own' := (Value.slice xa OS.length xc).ownBlock))
  have HW24 : Hid (w2.heap.size < w4.heap.size) := Lib.hid (Nat.lt_of_lt_of_le (Array.getElem?_eq_some_iff.1 HT3.out).1 HG4.out.size)
  obtain rfl : NS = [] := HNS.out
  have HNM := Lib.hid (HY0.out.on HS4.out.below |>.nds _ (List.mem_of_getElem? HXX.out)).1.names
  obtain rfl : nn = 0 := HNM.out.1
  have c0 : w4.cell? ⟨w2.heap.size, 0, none⟩ = some (.int .i64 kd) := (by rw [cell_of_row _ _ 0 _ 152 _ HT4.out]; rfl)
  have c3 : w4.cell? ⟨w2.heap.size, 3, none⟩ = some (.slice na 0 nc) := (by rw [cell_of_row _ _ 3 _ 152 _ HT4.out]; rfl)
  have c5 : w4.cell? ⟨w2.heap.size, 5, none⟩ = some (.bool op) := (by rw [cell_of_row _ _ 5 _ 152 _ HT4.out]; rfl)
  have HC91 : Hid (∀ w', Below w4.heap.size w4 w' → Calls Tryz.prog 91 #[.slice na 0 nc] w' fun e w'' => ∃ a' c', e = .returned (.slice a' 0 c') ∧ NamesAt w'' a' 0 [] ∧ (a' = none → c' = 0) ∧ (∀ ad, a' = some ad → w'.heap.size ≤ ad.block) ∧ Below w'.heap.size w' w'') := Lib.hid (fun w' hb => clone_55 w' na 0 nc [] (HNM.out.on hb) HOK.out.2.1 (by decide))
  have l4 : w2.heap.size < w4.heap.size := HW24.out
  have hq : w2.heap.size ≠ w4.heap.size := Nat.ne_of_lt l4
  go_simp
  go_cut [11] (fun t11 wc => ∃ (B : Nat) (a1 : Option Addr) (c1 : Nat), t11 = .pointer (some ⟨B, 0, none⟩) ∧ Hid (HeadNew w4 wc B kd a1 c1 op))
  case first =>
    go_region_held3 (fun w' => w'.cell? ⟨w2.heap.size, 0, none⟩ = some (.int .i64 kd) ∧ w'.cell? ⟨w2.heap.size, 3, none⟩ = some (.slice na 0 nc) ∧ w'.cell? ⟨w2.heap.size, 5, none⟩ = some (.bool op)) (first | go_keep | exact ⟨c0, c3, c5⟩ | exact ⟨d0, d3, d5⟩ | exact ⟨(by rw [cell_set_ne hq, cell_set_ne hq, cell_set_ne hq, cell_set_ne hq]; exact d0), (by rw [cell_set_ne hq, cell_set_ne hq, cell_set_ne hq, cell_set_ne hq]; exact d3), (by rw [cell_set_ne hq, cell_set_ne hq, cell_set_ne hq, cell_set_ne hq]; exact d5)⟩) ((first | (go_at_call 91; (with_reducible refine (HC91.out _ (by exact (Below.refl _ _).drew)).mono ?_); rintro e w5 ⟨a5, cc5, rfl, hn5, hz5, hg5, hb5⟩; have HBW : Hid (Below w4.heap.size w4 w5) := Lib.hid ((Below.refl _ _).drew.trans hb5); have HZ5 := Lib.hid hz5; have d0 : w5.cell? ⟨w2.heap.size, 0, none⟩ = some (.int .i64 kd) := keepB HBW.out HW24.out c0; have d3 : w5.cell? ⟨w2.heap.size, 3, none⟩ = some (.slice na 0 nc) := keepB HBW.out HW24.out c3; have d5 : w5.cell? ⟨w2.heap.size, 5, none⟩ = some (.bool op) := keepB HBW.out HW24.out c5; clear hn5 hz5 hg5 hb5) | (go_at_call 91; (with_reducible refine (HC91.out _ (by exact ((Below.refl _ _).alloc (Nat.le_refl _) _).drew)).mono ?_); rintro e w5 ⟨a5, cc5, rfl, hn5, hz5, hg5, hb5⟩; have HBZ : Hid (Below w4.heap.size w4 ((w4.alloc (.cells #[.int .i64 0, .slice none 0 0, .slice none 0 0, .bool false] 33)).drew)) := Lib.hid ((Below.refl _ _).alloc (Nat.le_refl _) _).drew; have HBW : Hid (Below w4.heap.size w4 w5) := Lib.hid (HBZ.out.trans (hb5.mono HBZ.out.size)); have HZB : Hid (w5.heap[w4.heap.size]? = some (.cells #[.int .i64 0, .slice none 0 0, .slice none 0 0, .bool false] 33 (0, 0))) := Lib.hid ((hb5.block w4.heap.size (Array.getElem?_eq_some_iff.1 (heap_alloc_new w4 _)).1).trans (heap_alloc_new w4 _)); have HZ5 := Lib.hid hz5; have d0 : w5.cell? ⟨w2.heap.size, 0, none⟩ = some (.int .i64 kd) := keepB HBW.out HW24.out c0; have d3 : w5.cell? ⟨w2.heap.size, 3, none⟩ = some (.slice na 0 nc) := keepB HBW.out HW24.out c3; have d5 : w5.cell? ⟨w2.heap.size, 5, none⟩ = some (.bool op) := keepB HBW.out HW24.out c5; have z0 : w5.cell? ⟨w4.heap.size, 0, none⟩ = some (.int .i64 0) := (by rw [cell_of_row _ _ 0 _ 33 _ HZB.out]; rfl); have z1 : w5.cell? ⟨w4.heap.size, 1, none⟩ = some (.slice none 0 0) := (by rw [cell_of_row _ _ 1 _ 33 _ HZB.out]; rfl); have z2 : w5.cell? ⟨w4.heap.size, 2, none⟩ = some (.slice none 0 0) := (by rw [cell_of_row _ _ 2 _ 33 _ HZB.out]; rfl); have z3 : w5.cell? ⟨w4.heap.size, 3, none⟩ = some (.bool false) := (by rw [cell_of_row _ _ 3 _ 33 _ HZB.out]; rfl); have y0 : w5.frozen? ⟨w4.heap.size, 0, none⟩ = false := frozen_of_row _ _ 0 _ 33 HZB.out; have y1 : w5.frozen? ⟨w4.heap.size, 1, none⟩ = false := frozen_of_row _ _ 1 _ 33 HZB.out; have y2 : w5.frozen? ⟨w4.heap.size, 2, none⟩ = false := frozen_of_row _ _ 2 _ 33 HZB.out; have y3 : w5.frozen? ⟨w4.heap.size, 3, none⟩ = false := frozen_of_row _ _ 3 _ 33 HZB.out; clear hn5 hz5 hg5 hb5)))
    · go_wp2
      go_meet
      case rel => exact ⟨_, a5, cc5, rfl, Lib.hid ⟨heap_alloc_new w5 _, HBW.out.size, HBW.out.alloc HBW.out.size _, HZ5.out⟩⟩
    · go_wp2
      go_meet
      case rel => exact ⟨_, a5, cc5, rfl, Lib.hid ⟨set4_heap HZB.out, Nat.le_refl _, (((HBW.out.setCell (p := ⟨w4.heap.size, 0, none⟩) (Nat.le_refl _) _).setCell (p := ⟨w4.heap.size, 1, none⟩) (Nat.le_refl _) _).setCell (p := ⟨w4.heap.size, 2, none⟩) (Nat.le_refl _) _).setCell (p := ⟨w4.heap.size, 3, none⟩) (Nat.le_refl _) _, HZ5.out⟩⟩
  case rest =>
    obtain ⟨B, a1, c1, rfl, HNW⟩ := hcut
    obtain ⟨wa, rfl⟩ : ∃ wa : World, wa = wc := ⟨_, rfl⟩
    clear c0 c3 c5 hq l4
    have HSC := Lib.hid (HS4.out.on HNW.out.2.2.1)
    have HAC : Hid (MkA w wa R M (Value.slice xa OS.length xc).ownBlock) := Lib.hid (HA4.out.trans (MkA.of_below HNW.out.2.2.1) (fun g e => .inl e) (own' := (Value.slice xa OS.length xc).ownBlock))
    have HTC := Lib.hid ((HNW.out.2.2.1.block _ HW24.out).trans HT4.out)
    have HBW4 : Hid (w.heap.size ≤ w4.heap.size) := Lib.hid HA4.out.size
    obtain ⟨i0, hi9, hz0, hz1, hz2⟩ := info_parts Tryz.info33
    have HIF := Lib.hid hi9
    have HIF0 := Lib.hid hz0
    have HIF1 := Lib.hid hz1
    have HIF2 := Lib.hid hz2
    clear hi9 hz0 hz1 hz2
    have rc4 : wa.cell? ⟨R, 4, none⟩ = some (.slice xa OS.length xc) := (by rw [cell_of_row _ _ 4 _ 165 _ HSC.out.box]; rfl)
    have rd4 : (wa.alloc (.cells #[.int .i64 kd, .slice a1 0 c1, .slice none 0 0, .bool op] 33)).cell? ⟨R, 4, none⟩ = some (.slice xa OS.length xc) := (by rw [cell_of_row _ _ 4 _ 165 _ ((Below.heap_alloc _ _ _ HSC.out.ltR).trans HSC.out.box)]; rfl)
    have h0 : wa.cell? ⟨B, 0, none⟩ = some (.int .i64 kd) := (by rw [cell_of_row _ _ 0 _ 33 _ HNW.out.1]; rfl)
    have h1 : wa.cell? ⟨B, 1, none⟩ = some (.slice a1 0 c1) := (by rw [cell_of_row _ _ 1 _ 33 _ HNW.out.1]; rfl)
    have h2 : wa.cell? ⟨B, 2, none⟩ = some (.slice none 0 0) := (by rw [cell_of_row _ _ 2 _ 33 _ HNW.out.1]; rfl)
    have h3 : wa.cell? ⟨B, 3, none⟩ = some (.bool op) := (by rw [cell_of_row _ _ 3 _ 33 _ HNW.out.1]; rfl)
    have HDR : Hid (Below wa.heap.size wa wa.drew) := Lib.hid (Below.refl _ _).drew
    have HOD : Hid (wa.drew.ownsRow w0.heap.size 33 4 (.slice xa OS.length xc) OS.length (OS.flatMap hcells)) := Lib.hid HSC.out.row
    have HLE : Hid (w0.heap.size ≤ (wa.drew.alloc (.cells #[.int .i64 kd, .slice a1 0 c1, .slice none 0 0, .bool op] 33)).heap.size) := Lib.hid (by have h1 := HSC.out.below.size; have h2 := HDR.out.size; simp; omega)
    go_upto_region 13 with (fail)
    go_cut [11] (fun t11 wd => t11 = .pointer (some ⟨B, 0, none⟩) ∧ ∃ (xa' : Option Addr) (xc' : Nat), Hid (MkS w0 wd R M (n + 1) (.slice (some ⟨gn, 0, none⟩) 2 cn) (.slice (some ⟨gy, oy, none⟩) NN cy) (D.put (keyI i) (.lit (.int .i64 (OS.length : Int)))) (fun x => if x = i then some OS.length else f x) xa' xc' (OS ++ [⟨kd, a1, 0, c1, [], none, 0, 0, [], op⟩])) ∧ Hid (MkA wa wd R M (Value.slice xa OS.length xc).ownBlock) ∧ Hid (∀ g, (Value.slice xa' 0 0).ownBlock = some g → (Value.slice xa OS.length xc).ownBlock = some g ∨ wa.heap.size ≤ g))
    case first =>
      go_region_law
        (first
          | (refine step_append_lies (wa.drew.alloc (.cells #[.int .i64 kd, .slice a1 0 c1, .slice none 0 0, .bool op] 33)) rfl _ _ 34 rfl w0.heap.size 33 i0 (.agg #[.int .i64 0, .slice none 0 0, .slice none 0 0, .bool false]) 4 64 Tryz.underlying34 HIF.out HIF0.out HIF1.out HIF2.out rfl (by decide) (.slice xa OS.length xc) OS.length (OS.flatMap hcells) rfl (HOD.out.alloc _) ⟨wa.heap.size, 0, none⟩ 1 1 [.int .i64 kd, .slice a1 0 c1, .slice none 0 0, .bool op] rfl rfl (news_of (heap_alloc_new wa.drew _)) (by simp [Value.oneCell']) (by decide) (by unfold maxLen; have := HLEN.out; omega) (by have := HLEN.out; omega) HLE.out _ rfl ?_; intro g5 cc5 w5 hown5 hgr5 hat5 hlt5; have HNH := Lib.hid (hd_new HSC.out HNW.out.2.2.2 hgr5 hown5 hat5); have HR5 := Lib.hid HNH.out.2; have q4 : w5.cell? ⟨R, 4, none⟩ = some (.slice xa OS.length xc) := (by rw [cell_of_row _ _ 4 _ 165 _ HR5.out]; rfl); have p4 : w5.frozen? ⟨R, 4, none⟩ = false := frozen_of_row _ _ 4 _ 165 HR5.out; have o4 : R < w5.heap.size := (Array.getElem?_eq_some_iff.1 HR5.out).1; clear hown5 hgr5 hat5 hlt5)
          | fail)
      all_goals
        go_wp2
        go_meet
        case rel => exact ⟨rfl, _, _, Lib.hid HNH.out.1.1, Lib.hid HNH.out.1.2.1, Lib.hid (fun g e => by
          have e3 : g5 = g := by simpa [Value.ownBlock] using e
          rw [← e3]
          exact HNH.out.1.2.2)⟩
    case rest =>
      obtain ⟨rfl, xa5, xc5, HS5, HA5, HO5⟩ := hcut
      clear rc4 rd4 h0 h1 h2 h3
      obtain ⟨w6, rfl⟩ : ∃ w6 : World, w6 = wc := ⟨_, rfl⟩
      have HBa : Hid (B < wa.heap.size) := Lib.hid (Array.getElem?_eq_some_iff.1 HNW.out.1).1
      have HRM : Hid (R < w2.heap.size ∧ M < w2.heap.size ∧ ∀ g, (Value.slice xa OS.length xc).ownBlock = some g → g < w2.heap.size) := Lib.hid ⟨HS2.out.ltR, HS2.out.ltM, fun g e => (HS2.out.row.lt g e).2⟩
      have HT6 : Hid (w6.heap[w2.heap.size]? = some (.cells #[.int .i64 kd, .int .i64 ps, .string ⟨#[]⟩, .slice na 0 nc, .slice ka kn kc, .bool op] 152 (0, 0))) := Lib.hid ((HA5.out.block _ (Array.getElem?_eq_some_iff.1 HTC.out).1 (fun e => by have := HRM.out.1; omega) (fun e => by have := HRM.out.2.1; omega) (fun e => by have := HRM.out.2.2 _ e; omega)).trans HTC.out)
      have HBg : Hid (w2.heap.size < B) := Lib.hid (Nat.lt_of_lt_of_le HW24.out HNW.out.2.1)
      have HK0 : Hid (KMid w0 w w6 R M n B (.slice (some ⟨gn, 0, none⟩) 2 cn) (.slice (some ⟨gy, oy, none⟩) NN cy) f (Value.slice xa OS.length xc).ownBlock OS kd a1 c1 op i [] [] [] [] (D.put (keyI i) (.lit (.int .i64 (OS.length : Int)))) (fun x => if x = i then some OS.length else f x) xa5 xc5 none 0) := Lib.hid {
        vhs := rfl
        mks := by simpa [hd0] using HS5.out
        hd := ⟨(HA5.out.block B HBa.out (by have := HRM.out.1; have := HBg.out; omega) (by have := HRM.out.2.1; have := HBg.out; omega) (fun e => by have := HRM.out.2.2 _ e; have := HBg.out; omega)).trans HNW.out.1, World.ownsRow_nil _ _ _ _, Nat.le_trans HBW4.out HNW.out.2.1⟩
        sep := ⟨fun e => by
          rcases HO5.out _ e with q | q
          · have := HRM.out.2.2 _ q; have := HBg.out; omega
          · have := HBa.out; omega, fun y hy ad e => by
          rcases List.mem_append.1 (by simpa using hy : y ∈ OS ++ [hd0 kd a1 c1 op]) with q | q
          · have := (HS2.out.sep y q ad e).2.2.1
            exact ⟨by have := HBg.out; omega, fun e2 => by cases e2⟩
          · obtain rfl : y = hd0 kd a1 c1 op := by simpa using q
            rcases e with ⟨_, e2⟩ | ⟨_, e2⟩ <;> exact absurd rfl e2⟩
        dom := fun k hk => by
          by_cases e : k = i
          · exact .inr (.inl e)
          · simp only [e, if_false] at hk
            exact .inl hk
        act := HAC.out.trans HA5.out (fun g e => .inl e)
        ownn := fun n2 c2 g e => by
          rw [own_len xa5 n2 c2 0 0] at e
          rcases HO5.out g e with q | q
          · exact .inl q
          · exact .inr (Nat.le_trans HAC.out.size q)
        new := fun y hy => by cases hy
        nil := fun _ => rfl
        neR := HS.out.ltR
        neM := HS.out.ltM
        nz := HNW.out.2.2.2 }
      clear HS5 HA5 HO5 HSC HAC HTC HNW
      have HKI := Lib.hid HOK.out.1.kids
      have HKN : Hid (kn = cs.length) := Lib.hid (by have := HKI.out.1; rw [HKS.out] at this; simpa using this)
      have hkn : (kn : Int) ≤ 1000 := (by have := HOK.out.1.knb; simp only at this; omega)
      have t4 : w6.cell? ⟨w2.heap.size, 4, none⟩ = some (.slice ka kn kc) := (by rw [cell_of_row _ _ 4 _ 152 _ HT6.out]; rfl)
      go_upto_region 15 with (fail)
      clear t4
      go_loopw [85] (fun s85 wr => ∃ (j : Nat) (KN : List Hd) (D' : DataW Unit) (f' : Nat → Option Nat) (xa' : Option Addr) (xc' : Nat) (ka' : Option Addr) (kc' : Nat), j ≤ kn ∧ s85 = .int .i64 (j : Int) ∧ Hid (KMid w0 w wr R M n B (.slice (some ⟨gn, 0, none⟩) 2 cn) (.slice (some ⟨gy, oy, none⟩) NN cy) f (Value.slice xa OS.length xc).ownBlock OS kd a1 c1 op i ((cs.take j).flatMap (·.2.1)) ((cs.take j).flatMap (·.2.2)) (posl (OS.length + 1) cs j) KN D' f' xa' xc' ka' kc')) (fun s85 _ => kn - (intOf s85).toNat)
      case atStart => exact ⟨0, [], _, _, xa5, xc5, none, 0, Nat.zero_le _, rfl, HK0⟩
      case round =>
        clear HK0
        obtain ⟨j, KN, D1, f1, xa1, xc1, ka1, kc1, hj, rfl, HM⟩ := hrel
        have hwj : IntKind.i64.wrap ((j : Int) + 1) = (j : Int) + 1 := by rw [IntKind.wrap_i64]; omega
        obtain ⟨w7, rfl⟩ : ∃ w7 : World, w7 = wr := ⟨_, rfl⟩
        by_cases hjk : j < kn
        · have hjk2 : (j : Int) < kn := by omega
          obtain ⟨c, hc⟩ : ∃ c, cs[j]? = some c := ⟨_, List.getElem?_eq_getElem (by rw [← HKN.out]; exact hjk)⟩
          have hks : KS[j]? = some (c.1 : Int) := by rw [HKS.out, List.getElem?_map, hc]; rfl
          have HCC := Lib.hid hc
          obtain ⟨gq, oq, rfl, hgq, hcq⟩ := (HKI.out.on HM.out.mks.below).2.resolve_left (by omega)
          have ac := hcq j _ hks
          obtain ⟨p, hp⟩ : ∃ p : Int, p = ((OS ++ [hd0 kd a1 c1 op] ++ KN).length : Int) := ⟨_, rfl⟩
          have HPP := Lib.hid hp
          have HLE : Hid ((OS ++ [hd0 kd a1 c1 op] ++ KN).length = OS.length + 1 + offs cs j) := Lib.hid (by
            have h1 := congrArg List.length HM.out.vhs
            rw [List.length_map] at h1
            have h2 : KN.length = offs cs j := h1
            rw [List.length_append, List.length_append]
            simp only [List.length_cons, List.length_nil]
            omega)
          have HCL : Hid (Calls Tryz.prog 101 #[.pointer (some ⟨R, 0, none⟩), .int .i64 (c.1 : Int)] w7 (fun e w' => ∃ (NEW : List Hd) (D2 : DataW Unit) (f2 : Nat → Option Nat) (xa2 : Option Addr) (xc2 : Nat), e = .returned (.tuple #[.int .i64 p, .int .i64 0]) ∧ KMid w0 w w' R M n B (.slice (some ⟨gn, 0, none⟩) 2 cn) (.slice (some ⟨gy, oy, none⟩) NN cy) f (Value.slice xa OS.length xc).ownBlock OS kd a1 c1 op i ((cs.take (j + 1)).flatMap (·.2.1)) ((cs.take (j + 1)).flatMap (·.2.2)) (posl (OS.length + 1) cs j) (KN ++ NEW) D2 f2 xa2 xc2 ka1 kc1)) := Lib.hid (by
            refine (HKC.out j c HCC.out w7 _ D1 f1 xa1 xc1 _ HLE.out HM.out.mks (fun k hk => ?_) ?_).mono ?_
            · have hnd := HND.out
              rw [flat_all (fun c => c.2.2) HCC.out] at hnd
              have hmem : k ∈ i :: cs.flatMap (·.2.2) := List.mem_cons_of_mem _ (List.mem_flatMap.2 ⟨c, List.mem_of_getElem? HCC.out, hk⟩)
              cases hf1 : f1 k with
              | none => rfl
              | some v =>
                exfalso
                rcases HM.out.dom k (by rw [hf1]; simp) with q | q | q
                · exact q (HF.out k hmem)
                · subst q
                  have := (List.nodup_cons.1 hnd).1
                  simp [hk] at this
                · have h2 := (List.nodup_append.1 (List.nodup_append.1 (List.nodup_cons.1 hnd).2).1).2.2
                  exact h2 k q k hk rfl
            · have h1 := HN.out
              rw [flat_all (fun c => c.2.2) HCC.out] at h1
              simp only [List.length_append] at h1
              omega
            · rintro e w' ⟨NEW, D2, f2, xa2, xc2, rfl, v1, v2, v3, v4, v5, v6⟩
              refine ⟨NEW, D2, f2, xa2, xc2, by rw [HPP.out], ?_⟩
              rw [flat_take (fun c => c.2.1) HCC.out, flat_take (fun c => c.2.2) HCC.out]
              exact HM.out.call v1 v2 v3 v4 v5 v6)
          clear hp hc hks hcq hgq
          go_upto_region 20 with (go_at_call 101; (with_reducible refine HCL.out.mono ?_); rintro e w8 ⟨NEW, D2, f2, xa2, xc2, rfl, hm8⟩; have HM8 := Lib.hid hm8; clear hm8)
          clear ac
          have HPSL : Hid ((posl (OS.length + 1) cs j).length = j) := Lib.hid (posl_len _ _ _)
          have HPSN : Hid (posl (OS.length + 1) cs (j + 1) = posl (OS.length + 1) cs j ++ [p]) := Lib.hid (by rw [posl_succ, HPP.out, HLE.out])
          obtain ⟨PS, hPS⟩ : ∃ PS, posl (OS.length + 1) cs j = PS := ⟨_, rfl⟩
          rw [hPS] at HM8 HPSL
          have HPS := Lib.hid hPS
          clear hPS HM
          obtain ⟨i3, p3, q31, q32, q33⟩ := info_parts Tryz.info3
          have P3 := Lib.hid p3
          have Q31 := Lib.hid q31
          have Q32 := Lib.hid q32
          have Q33 := Lib.hid q33
          clear p3 q31 q32 q33
          have b2 : w8.cell? ⟨B, 2, none⟩ = some (.slice ka1 PS.length kc1) := (by rw [cell_of_row _ _ 2 _ 33 _ HM8.out.hd.box]; rfl)
          have HOA : Hid ((w8.alloc (.cells #[.int .i64 p] 3)).ownsRow w.heap.size 3 1 (.slice ka1 PS.length kc1) PS.length (PS.map (Value.int .i64))) := Lib.hid (HM8.out.hd.row.alloc _)
          have HWS : Hid (w.heap.size ≤ (w8.alloc (.cells #[.int .i64 p] 3)).heap.size) := Lib.hid (by have := HM8.out.act.size; simp; omega)
          go_wp2_with (at_builtin; refine wpList_append_lies _ rfl _ _ 31 rfl w.heap.size 3 i3 (.int .i64 0) 1 8 Tryz.underlying31 P3.out Q31.out Q32.out Q33.out rfl (by decide) (.slice ka1 PS.length kc1) PS.length (PS.map (Value.int .i64)) rfl HOA.out ⟨w8.heap.size, 0, none⟩ 1 1 [.int .i64 p] rfl rfl (news_of (heap_alloc_new w8 _)) (by simp [Value.oneCell']) (by decide) (by have := HPSL.out; unfold maxLen; omega) (by have := HPSL.out; omega) HWS.out _ rfl ?_; intro g9 cc9 w9 hown9 hgr9 hat9 hlt9; have HPU := Lib.hid (HM8.out.push hgr9 hown9 hat9); have q2 : w9.cell? ⟨B, 2, none⟩ = some (.slice ka1 PS.length kc1) := (by rw [cell_of_row _ _ 2 _ 33 _ HPU.out.2]; rfl); have p2 : w9.frozen? ⟨B, 2, none⟩ = false := frozen_of_row _ _ 2 _ 33 HPU.out.2; have o2 : B < w9.heap.size := (Array.getElem?_eq_some_iff.1 HPU.out.2).1; clear hown9 hgr9 hat9 hlt9)
          go_roundw
          case rel => exact ⟨j + 1, KN ++ NEW, D2, f2, xa2, xc2, some ⟨g9, 0, none⟩, cc9, by omega, by go_num, Lib.hid (by rw [HPSN.out, HPS.out]; exact HPU.out.1)⟩
          case measure => simp [intOf]; omega
        · have hjk2 : ¬ (j : Int) < kn := by omega
          obtain rfl : j = cs.length := by have := HKN.out; omega
          have HPSL : Hid ((posl (OS.length + 1) cs cs.length).length = cs.length) := Lib.hid (posl_len _ _ _)
          have HKN2 : Hid (cs.length ≤ 1000) := Lib.hid (by omega)
          rw [List.take_length] at HM
          obtain ⟨PS, hPS⟩ : ∃ PS, posl (OS.length + 1) cs cs.length = PS := ⟨_, rfl⟩
          have HPS := Lib.hid hPS
          rw [hPS] at HM HPSL
          clear hPS
          obtain ⟨gx, rfl⟩ : ∃ gx, xa1 = some ⟨gx, 0, none⟩ := by
            rcases HM.out.mks.row.2 with ⟨_, e2⟩ | ⟨g, cap, cur, e, -⟩
            · simp at e2
            · cases e; exact ⟨g, rfl⟩
          have HMD := Lib.hid (HM.out.on (Below.refl _ _).drew)
          have HFN := Lib.hid (HMD.out.fin (by have := HPSL.out; have := HKN2.out; omega) rfl)
          have HTHR : Hid (w7.drew.there gx (OS.length * 4) 4) := Lib.hid (fun q hq => by
            have hl : OS.length * 4 + q < (OS ++ [hd0 kd a1 c1 op] ++ KN).length * 4 := by
              rw [List.length_append, List.length_append]; simp only [List.length_cons, List.length_nil]; omega
            refine ⟨?_, HMD.out.mks.row.frozenAt _⟩
            rw [HMD.out.mks.row.cellAt _ hl, List.getElem?_eq_getElem (by rw [HMD.out.mks.row.1]; exact hl)]
            rfl)
          obtain ⟨LN, hLN⟩ : ∃ LN, (OS ++ [hd0 kd a1 c1 op] ++ KN).length = LN := ⟨_, rfl⟩
          have hLT : (OS.length : Int) < LN := by
            rw [← hLN, List.length_append, List.length_append]; simp only [List.length_cons, List.length_nil]; omega
          have hLT0 : OS.length < LN := by omega
          have b0 : w7.cell? ⟨B, 0, none⟩ = some (.int .i64 kd) := (by rw [cell_of_row _ _ 0 _ 33 _ HM.out.hd.box]; rfl)
          have b1 : w7.cell? ⟨B, 1, none⟩ = some (.slice a1 0 c1) := (by rw [cell_of_row _ _ 1 _ 33 _ HM.out.hd.box]; rfl)
          have b2 : w7.cell? ⟨B, 2, none⟩ = some (.slice ka1 PS.length kc1) := (by rw [cell_of_row _ _ 2 _ 33 _ HM.out.hd.box]; rfl)
          have b3 : w7.cell? ⟨B, 3, none⟩ = some (.bool op) := (by rw [cell_of_row _ _ 3 _ 33 _ HM.out.hd.box]; rfl)
          have r4 : w7.cell? ⟨R, 4, none⟩ = some (.slice (some ⟨gx, 0, none⟩) LN xc1) := (by rw [cell_of_row _ _ 4 _ 165 _ HM.out.mks.box]; simp [← hLN])
          clear hLN
          go_upto_region 24 with (fail)
          go_still_tail 7, (by kernel_rfl)
          refine wpList_store_mid (w := w7.drew) rfl 33 _ _ rfl gx (OS.length * 4) #[.int .i64 kd, .slice a1 0 c1, .slice ka1 PS.length kc1, .bool op] rfl rfl HTHR.out (by kernel_rfl) (by simp [Value.oneCell']) ?_
          obtain ⟨wz, hwz⟩ : ∃ wz, w7.drew.setCells gx (OS.length * 4) (hcells (hdE kd a1 c1 op ka1 kc1 PS)) = wz := ⟨_, rfl⟩
          have hwz2 : w7.drew.setCells gx (OS.length * 4) (#[.int .i64 kd, .slice a1 0 c1, .slice ka1 PS.length kc1, .bool op] : Array Value).toList = wz := hwz
          rw [hwz] at HFN
          rw [hwz2]
          clear hwz hwz2 b0 b1 b2 b3 r4
          go_wp2
          go_ret2
          exact ⟨hdE kd a1 c1 op ka1 kc1 PS :: KN, D1, f1, some ⟨gx, 0, none⟩, xc1, rfl, by rw [List.map_cons, HM.out.vhs, HPS.out]; rfl, HFN.out.1, HFN.out.2, HM.out.ownn, fun y hy ad e => by
            rcases List.mem_cons.1 hy with rfl | q
            · rcases e with ⟨_, e2⟩ | ⟨e1, e2⟩
              · exact absurd rfl e2
              · exact (HM.out.hd.row.lt ad.block (by rw [show ka1 = some ad from e1]; rfl)).1
            · exact HM.out.new y q ad e, fun k hk => by
            rcases HM.out.dom k hk with q | q | q
            · exact .inl q
            · exact .inr (by rw [q]; exact List.mem_cons_self)
            · exact .inr (List.mem_cons_of_mem _ q)⟩
end Go.Proofs.YtifilhkkgkihpaaGreatDoor
set_option linter.unusedSimpArgs false
set_option linter.unusedVariables false
namespace Go.Proofs.YtifilhkkgkihpaaGreatDoor
open Go.RowKit
theorem HdT.hlen {YT : List Nd} {i m : Nat} {hs : List Vh} {ix : List Nat} (h : HdT YT i m hs ix) : 0 < ix.length := by
  cases h; simp
theorem heads_any (w0 : World) (R M : Nat) (gn gk gt gy oy cy cn r NN : Nat) (YT : List Nd) (hT0 : TreeT w0 gn gk gt r) (hY0 : TpsIn w0 (some ⟨gy, oy, none⟩) NN YT) (hN3 : NN ≤ 1000) (hr : r < NN) (hty : TypsOk YT) (h1 : ∀ x ∈ bumps (UU NN r) (kidsN YT), x = 1) {i m : Nat} {hs : List Vh} {ix : List Nat} (hT : HdT YT i m hs ix) :
    ∀ (w : World) (n : Nat) (D : DataW Unit) (f : Nat → Option Nat) (xa : Option Addr) (xc : Nat) (OS : List Hd), OS.length = m → MkS w0 w R M n (.slice (some ⟨gn, 0, none⟩) 2 cn) (.slice (some ⟨gy, oy, none⟩) NN cy) D f xa xc OS → (∀ k ∈ ix, f k = none) → OS.length + hs.length ≤ 1000 → n + ix.length ≤ 10000 →
    Calls Tryz.prog 101 #[.pointer (some ⟨R, 0, none⟩), .int .i64 (i : Int)] w (HdPost w0 w R M n (.slice (some ⟨gn, 0, none⟩) 2 cn) (.slice (some ⟨gy, oy, none⟩) NN cy) f xa xc OS hs ix) := by
  induction hT with
  | mk cs hx hNS hKS hall hnd ih =>
    rename_i i m x
    intro w n D f xa xc OS hm hS hf hl hn
    subst hm
    simp only [List.length_cons] at hl hn
    exact head_one w0 w R M n gn gk gt gy oy cy cn r NN YT hT0 hY0 hN3 hr hty h1 D f xa xc OS hS i x hx hNS cs hKS hf hnd (by omega) (by omega) (fun j c hc w' n' D' f' xa' xc' OS' hlen' hS' hf' hn' => ih j c hc w' n' D' f' xa' xc' OS' hlen' hS' hf' (by
      rw [hlen']
      have e1 := flat_all (fun c => c.2.1) hc
      have e2 := congrArg List.length e1
      simp only [List.length_append] at e2
      have e3 : offs cs j = ((cs.take j).flatMap (fun c => c.2.1)).length := rfl
      omega) hn')
end Go.Proofs.YtifilhkkgkihpaaGreatDoor
set_option linter.unusedSimpArgs false
set_option linter.unusedVariables false
namespace Go.Proofs.YtifilhkkgkihpaaGreatDoor
open Go.RowKit
/-- the maker at its birth. -/
theorem MkS.start (w : World) (NV TV : Value) : MkS w ((w.alloc (.map #[] 0)).alloc (.cells #[NV, TV, .slice none 0 0, .map (some w.heap.size), .slice none 0 0] 165)) (w.heap.size + 1) w.heap.size 0 NV TV (.map []) (fun _ => none) none 0 [] where
  below := ((Below.refl _ _).alloc (Nat.le_refl _) _).alloc (by simp) _
  box := by
    have := heap_alloc_new (w.alloc (.map #[] 0)) (.cells #[NV, TV, .slice none 0 0, .map (some w.heap.size), .slice none 0 0] 165)
    simpa using this
  map := (World.ownsMap_made w Tryz.prog 3 _).alloc _
  mapf := MapF.nil
  row := World.ownsRow_nil _ _ _ _
  heads x hx := by cases hx
  sep x hx := by cases hx
  geR := by omega
  geM := Nat.le_refl _
theorem MkS.heads_in {w0 wr : World} {R M n : Nat} {NV TV : Value} {D : DataW Unit} {f : Nat → Option Nat} {xa : Option Addr} {xc : Nat} {XS : List Hd} (h : MkS w0 wr R M n NV TV D f xa xc XS) : HeadsIn wr xa XS.length XS := by
  refine ⟨rfl, ?_⟩
  by_cases h0 : XS.length = 0
  · exact .inl h0
  · obtain ⟨g, cap, e, h2, h3⟩ := h.row.form (by omega)
    injection e with e1 e2 e3
    subst e1
    refine .inr ⟨g, 0, rfl, h3, fun i x hi => ?_⟩
    have hil := (List.getElem?_eq_some_iff.1 hi).1
    have hc : ∀ j, j < 4 → wr.cell? ⟨g, 0 + i * 4 + j, none⟩ = (hcells x)[j]? := fun j hj => by
      rw [Nat.zero_add, h.row.cellAt (i * 4 + j) (by omega)]
      exact flat_at XS i j x hi hj
    exact ⟨hc 0 (by omega), hc 1 (by omega), hc 2 (by omega), hc 3 (by omega), (h.heads x (List.mem_of_getElem? hi)).1⟩
end Go.Proofs.YtifilhkkgkihpaaGreatDoor
set_option linter.unusedSimpArgs false
set_option linter.unusedVariables false
namespace Go.Proofs.YtifilhkkgkihpaaGreatDoor
open Go.RowKit
/-- the normal graph of a type. -/
def OfPost (w : World) (hs : List Vh) (e : Ending) (w' : World) : Prop := ∃ (HS : List Hd) (g c : Nat) (OS : List Hd) (cl ord : List Nat), HS.map vh = hs ∧ e = .returned (.tuple #[.agg #[.slice (some ⟨g, 0, none⟩) OS.length c, .int .i64 0], .int .i64 0]) ∧ w.heap.size ≤ g ∧ HeadsIn w' (some ⟨g, 0, none⟩) OS.length OS ∧ (∀ x ∈ OS, (x.na = none → x.nc = 0) ∧ (x.ka = none → x.kc = 0) ∧ ∀ ad, blkOf x ad → w.heap.size ≤ ad.block) ∧ cl.length = HS.length ∧ Stands HS cl ∧ Coarse HS cl ∧ NPl HS cl 0 ord OS [] ∧ OS.length = ord.length ∧ Below w.heap.size w w'
/-- heads that say hs may be a graph's. -/
def HsOk (hs : List Vh) : Prop := ∀ HS : List Hd, HS.map vh = hs → (∀ x ∈ HS, x.nn = x.NS.length ∧ x.kn = x.KS.length) → HS.all fewH = true ∧ OkHeads HS
end Go.Proofs.YtifilhkkgkihpaaGreatDoor
set_option linter.unusedSimpArgs false
set_option linter.unusedVariables false
namespace Go.Proofs.YtifilhkkgkihpaaGreatDoor
open Go.RowKit
theorem TreeT.row {w : World} {gn gk gt r : Nat} (h : TreeT w gn gk gt r) (B : Nat) (cs : Array Value) (h1 : gn ≠ B) (h2 : gk ≠ B) (h3 : gt ≠ B) : TreeT (w.setRow B cs) gn gk gt r := by
  have hk : ∀ g, g ≠ B → ∀ j, (w.setRow B cs).cell? ⟨g, j, none⟩ = w.cell? ⟨g, j, none⟩ := fun g hg j => World.cell?_of_block (w := w) (a := ⟨g, j, none⟩) (setRow_other w B g cs hg)
  exact ⟨fun i u hu => (hk gn h1 i).trans (h.n0 i u hu), (hk gk h2 0).trans h.kk, (hk gt h3 0).trans h.kt, by rw [setRow_size]; exact h.ln, by rw [setRow_size]; exact h.lk, by rw [setRow_size]; exact h.lt⟩
set_option maxRecDepth 20000 in
set_option maxHeartbeats 8000000 in
theorem of_any (w : World) (gy oy cy NN r : Nat) (YT : List Nd) (hY : TpsIn w (some ⟨gy, oy, none⟩) NN YT) (hN3 : NN ≤ 1000) (hr : r < NN) (hty : TypsOk YT) (h1 : ∀ x ∈ bumps (UU NN r) (kidsN YT), x = 1) (hin : ∀ i, i < NN → (i ∈ kidsN YT ↔ i ≠ r)) (hkl : (kidsN YT).length ≤ 10000) (hks : ∀ x ∈ YT, ∀ k ∈ x.1.KS, 0 ≤ k ∧ k ≤ 1000) (hs : List Vh) (ix : List Nat) (hT : HdT YT r 0 hs ix) (hl : hs.length ≤ 100) (hl0 : 0 < hs.length) (hix : ix.length ≤ 10000) (hg : HsOk hs) :
    Calls Tryz.prog 76 #[.agg #[.slice none 0 0, .slice (some ⟨gy, oy, none⟩) NN cy, .slice none 0 0], .int .i64 (r : Int)] w (OfPost w hs) := by
  have HB : Hid (Below w.heap.size w ((w.alloc (.cells #[.slice none 0 0, .slice (some ⟨gy, oy, none⟩) NN cy, .slice none 0 0] 108)).alloc (.cells #[.slice none 0 0, .int .i64 0] 36))) := Lib.hid (((Below.refl _ _).alloc (Nat.le_refl _) _).alloc (by simp) _)
  have HX : Hid (((w.alloc (.cells #[.slice none 0 0, .slice (some ⟨gy, oy, none⟩) NN cy, .slice none 0 0] 108)).alloc (.cells #[.slice none 0 0, .int .i64 0] 36)).heap[w.heap.size]? = some (.cells #[.slice none 0 0, .slice (some ⟨gy, oy, none⟩) NN cy, .slice none 0 0] 108 (0, 0))) := Lib.hid (by rw [Below.heap_alloc _ _ _ (by simp)]; exact heap_alloc_new w _)
  have HX2 : Hid (((w.alloc (.cells #[.slice none 0 0, .slice (some ⟨gy, oy, none⟩) NN cy, .slice none 0 0] 108)).alloc (.cells #[.slice none 0 0, .int .i64 0] 36)).heap[w.heap.size + 1]? = some (.cells #[.slice none 0 0, .int .i64 0] 36 (0, 0))) := Lib.hid (by
    have := heap_alloc_new (w.alloc (.cells #[.slice none 0 0, .slice (some ⟨gy, oy, none⟩) NN cy, .slice none 0 0] 108)) (.cells #[.slice none 0 0, .int .i64 0] 36)
    simpa using this)
  have HAL := Lib.hid (alone_any _ gy oy cy r NN YT (hY.on HB.out) hN3 hr hin hkl hks)
  have HCK : Hid (∀ w', Below w.heap.size w w' → ∀ gn gk gt cn, TreeT w' gn gk gt r → Calls Tryz.prog 96 #[.agg #[.slice (some ⟨gn, 0, none⟩) 2 cn, .slice (some ⟨gy, oy, none⟩) NN cy, .slice none 0 0]] w' (ErrPost w' true)) := Lib.hid (fun w' hb gn gk gt cn ht => tree_types w' gn gk gt gy oy cy cn r NN YT ht (hY.on hb) hN3 hr hty h1)
  have HHD : Hid (∀ w', Below w.heap.size w w' → ∀ gn gk gt cn, TreeT w' gn gk gt r → Calls Tryz.prog 101 #[.pointer (some ⟨w'.heap.size + 1, 0, none⟩), .int .i64 (r : Int)] ((w'.alloc (.map #[] 0)).alloc (.cells #[.slice (some ⟨gn, 0, none⟩) 2 cn, .slice (some ⟨gy, oy, none⟩) NN cy, .slice none 0 0, .map (some w'.heap.size), .slice none 0 0] 165)) (HdPost w' ((w'.alloc (.map #[] 0)).alloc (.cells #[.slice (some ⟨gn, 0, none⟩) 2 cn, .slice (some ⟨gy, oy, none⟩) NN cy, .slice none 0 0, .map (some w'.heap.size), .slice none 0 0] 165)) (w'.heap.size + 1) w'.heap.size 0 (.slice (some ⟨gn, 0, none⟩) 2 cn) (.slice (some ⟨gy, oy, none⟩) NN cy) (fun _ => none) none 0 [] hs ix)) := Lib.hid (fun w' hb gn gk gt cn ht => heads_any w' _ _ gn gk gt gy oy cy cn r NN YT ht (hY.on hb) hN3 hr hty h1 hT _ 0 _ _ none 0 [] rfl (MkS.start w' _ _) (fun k _ => rfl) (by simp; omega) (by omega))
  have HNR : Hid (∀ (w0 w' : World) (R M n : Nat) (NV TV : Value) (D : DataW Unit) (f : Nat → Option Nat) (xa : Option Addr) (xc : Nat) (XS : List Hd), MkS w0 w' R M n NV TV D f xa xc XS → XS.map vh = hs → Calls Tryz.prog 77 #[.slice xa XS.length xc, .int .i64 0] w' (NormPost w' XS 0)) := Lib.hid (fun w0 w' R M n NV TV D f xa xc XS hM hv => by
    have hlen : XS.length = hs.length := by rw [← hv]; simp
    obtain ⟨f1, f2⟩ := hg XS hv (fun x hx => ⟨(hM.heads x hx).1.names.1, (hM.heads x hx).1.kids.1⟩)
    have := normal_any w' xa XS.length xc 0 XS hM.heads_in f1 (by omega) (by omega) f2 (fun x hx => (hM.heads x hx).2.1)
    simpa using this)
  have hrn : (r : Int) < NN := by omega
  have hrn2 : ¬ (NN : Int) ≤ r := by omega
  have hmm := @run_makeMap Tryz.prog
  have HGY : Hid (NN ≤ 1000) := Lib.hid hN3
  clear hY hty h1 hin hkl hks hT hg hr hl hix hl0
  go_enter Tryz.func76, Tryz.ntmps76
  go_upto_region 1 with (fail)
  generalize ((w.alloc (.cells #[.slice none 0 0, .slice (some ⟨gy, oy, none⟩) NN cy, .slice none 0 0] 108)).alloc (.cells #[.slice none 0 0, .int .i64 0] 36)) = w1 at *
  have HL1 : Hid (w.heap.size + 1 < w1.heap.size) := Lib.hid (Array.getElem?_eq_some_iff.1 HX2.out).1
  have a0 : w1.cell? ⟨w.heap.size, 0, none⟩ = some (.slice none 0 0) := (by rw [cell_of_row _ _ 0 _ 108 _ HX.out]; rfl)
  have a1 : w1.cell? ⟨w.heap.size, 1, none⟩ = some (.slice (some ⟨gy, oy, none⟩) NN cy) := (by rw [cell_of_row _ _ 1 _ 108 _ HX.out]; rfl)
  have a2 : w1.cell? ⟨w.heap.size, 2, none⟩ = some (.slice none 0 0) := (by rw [cell_of_row _ _ 2 _ 108 _ HX.out]; rfl)
  go_upto_region 2 with (first
    | (go_at_call 100; (with_reducible refine HAL.out.mono ?_); rintro e w2 ⟨gn, cn, gk, gt, rfl, ht2, hn2, hk2, hg2, hb2⟩; have HT2 := Lib.hid ht2; have HN2 := Lib.hid hn2; have HK2 := Lib.hid hk2; have HG2 := Lib.hid hg2; have HB2 := Lib.hid hb2; have HXA := Lib.hid ((hb2.block _ (Nat.lt_of_succ_lt HL1.out)).trans HX.out); have HXB := Lib.hid ((hb2.block _ HL1.out).trans HX2.out); clear ht2 hn2 hk2 hg2 hb2)
    | (refine wpList_store_row rfl 108 _ _ rfl w.heap.size _ rfl rfl 108 _ HXA.out (by kernel_rfl) rfl (by simp [Value.oneCell']) ?_))
  clear a0 a1 a2
  have HT3 : Hid (TreeT (w2.setRow w.heap.size #[.slice (some ⟨gn, 0, none⟩) 2 cn, .slice (some ⟨gy, oy, none⟩) NN cy, .slice none 0 0]) gn gk gt r) := Lib.hid (HT2.out.row _ _ (by have h1 := HL1.out; have h2 := HN2.out; omega) (by have h1 := HL1.out; have h2 := HK2.out; omega) (by have h1 := HL1.out; have h2 := HG2.out; omega))
  have HB3 : Hid (Below w.heap.size w (w2.setRow w.heap.size #[.slice (some ⟨gn, 0, none⟩) 2 cn, .slice (some ⟨gy, oy, none⟩) NN cy, .slice none 0 0])) := Lib.hid (below_rowP (HB.out.trans (HB2.out.mono HB.out.size)) (Nat.le_refl _))
  have HXC : Hid ((w2.setRow w.heap.size #[.slice (some ⟨gn, 0, none⟩) 2 cn, .slice (some ⟨gy, oy, none⟩) NN cy, .slice none 0 0]).heap[w.heap.size]? = some (.cells #[.slice (some ⟨gn, 0, none⟩) 2 cn, .slice (some ⟨gy, oy, none⟩) NN cy, .slice none 0 0] 108 (0, 0))) := Lib.hid (setRow_heap _ _ _ _ _ _ HXA.out)
  have HXD : Hid ((w2.setRow w.heap.size #[.slice (some ⟨gn, 0, none⟩) 2 cn, .slice (some ⟨gy, oy, none⟩) NN cy, .slice none 0 0]).heap[w.heap.size + 1]? = some (.cells #[.slice none 0 0, .int .i64 0] 36 (0, 0))) := Lib.hid ((setRow_other _ _ _ _ (by omega)).trans HXB.out)
  generalize (w2.setRow w.heap.size #[.slice (some ⟨gn, 0, none⟩) 2 cn, .slice (some ⟨gy, oy, none⟩) NN cy, .slice none 0 0]) = w3 at *
  clear HT2 HXA HXB
  have HL3 : Hid (w.heap.size + 1 < w3.heap.size) := Lib.hid (Array.getElem?_eq_some_iff.1 HXD.out).1
  have HC3 := Lib.hid (HCK.out w3 HB3.out gn gk gt cn HT3.out)
  have a0 : w3.cell? ⟨w.heap.size, 0, none⟩ = some (.slice (some ⟨gn, 0, none⟩) 2 cn) := (by rw [cell_of_row _ _ 0 _ 108 _ HXC.out]; rfl)
  have a1 : w3.cell? ⟨w.heap.size, 1, none⟩ = some (.slice (some ⟨gy, oy, none⟩) NN cy) := (by rw [cell_of_row _ _ 1 _ 108 _ HXC.out]; rfl)
  have a2 : w3.cell? ⟨w.heap.size, 2, none⟩ = some (.slice none 0 0) := (by rw [cell_of_row _ _ 2 _ 108 _ HXC.out]; rfl)
  go_upto_region 5 with (go_at_call 96; (with_reducible refine HC3.out.mono ?_); rintro e w4 ⟨rfl, hb4⟩; have HB4 := Lib.hid hb4; clear hb4)
  clear a0 a1 a2
  have HB5 : Hid (Below w.heap.size w w4) := Lib.hid (HB3.out.trans (HB4.out.mono HB3.out.size))
  have HXE := Lib.hid ((HB4.out.block _ (Nat.lt_of_succ_lt HL3.out)).trans HXC.out)
  have HXF := Lib.hid ((HB4.out.block _ HL3.out).trans HXD.out)
  have HT5 := Lib.hid (HT3.out.on HB4.out)
  have a0 : w4.cell? ⟨w.heap.size, 0, none⟩ = some (.slice (some ⟨gn, 0, none⟩) 2 cn) := (by rw [cell_of_row _ _ 0 _ 108 _ HXE.out]; rfl)
  have a1 : w4.cell? ⟨w.heap.size, 1, none⟩ = some (.slice (some ⟨gy, oy, none⟩) NN cy) := (by rw [cell_of_row _ _ 1 _ 108 _ HXE.out]; rfl)
  have a2 : w4.cell? ⟨w.heap.size, 2, none⟩ = some (.slice none 0 0) := (by rw [cell_of_row _ _ 2 _ 108 _ HXE.out]; rfl)
  go_upto_region 8 with (fail)
  clear a0 a1 a2
  have HL4 : Hid (w.heap.size + 1 < w4.heap.size) := Lib.hid (Array.getElem?_eq_some_iff.1 HXF.out).1
  have HHH := Lib.hid (HHD.out w4 HB5.out gn gk gt cn HT5.out)
  have HBM : Hid (Below w4.heap.size w4 ((w4.alloc (.map #[] 0)).alloc (.cells #[.slice (some ⟨gn, 0, none⟩) 2 cn, .slice (some ⟨gy, oy, none⟩) NN cy, .slice none 0 0, .map (some w4.heap.size), .slice none 0 0] 165))) := Lib.hid (((Below.refl _ _).alloc (Nat.le_refl _) _).alloc (by simp) _)
  generalize ((w4.alloc (.map #[] 0)).alloc (.cells #[.slice (some ⟨gn, 0, none⟩) 2 cn, .slice (some ⟨gy, oy, none⟩) NN cy, .slice none 0 0, .map (some w4.heap.size), .slice none 0 0] 165)) = w5 at *
  go_upto_region 11 with (go_at_call 101; (with_reducible refine HHH.out.mono ?_); rintro e w6 ⟨NEW, D', f', xa', xc', rfl, hv6, hm6, -, -, -, -⟩; have HV6 := Lib.hid hv6; have HM6 := Lib.hid hm6; clear hv6 hm6)
  rw [List.nil_append] at HM6
  have HB6 : Hid (Below w.heap.size w w6) := Lib.hid (HB5.out.trans (HM6.out.below.mono HB5.out.size))
  have HXG := Lib.hid ((HM6.out.below.block _ HL4.out).trans HXF.out)
  have HN6 := Lib.hid (HNR.out _ w6 _ _ _ _ _ _ _ xa' xc' NEW HM6.out HV6.out)
  have b4 : w6.cell? ⟨w4.heap.size + 1, 4, none⟩ = some (.slice xa' NEW.length xc') := (by rw [cell_of_row _ _ 4 _ 165 _ HM6.out.box]; rfl)
  go_wp2_with (first
    | (go_at_call 77; (with_reducible refine HN6.out.mono ?_); rintro e w7 ⟨g3, c3, OS, cl, ord, rfl, hg3, hH3, hO3, hcl3, hst3, hco3, hnp3, hll3, hb3⟩; have HG3 := Lib.hid hg3; have HH3 := Lib.hid hH3; have HO3 := Lib.hid hO3; have HCL3 := Lib.hid hcl3; have HST3 := Lib.hid hst3; have HCO3 := Lib.hid hco3; have HNP3 := Lib.hid hnp3; have HLL3 := Lib.hid hll3; have HB7 := Lib.hid hb3; have HX7 := Lib.hid ((hb3.block _ (Array.getElem?_eq_some_iff.1 HXG.out).1).trans HXG.out); clear hg3 hH3 hO3 hcl3 hst3 hco3 hnp3 hll3 hb3)
    | (refine wpList_store_row rfl 36 _ _ rfl (w.heap.size + 1) _ rfl rfl 36 _ HX7.out (by kernel_rfl) rfl (by simp [Value.oneCell']) ?_))
  (try simp only [Exit.inBlock, Exit.then])
  have HSZ : Hid (w.heap.size + 1 < w6.heap.size) := Lib.hid (Array.getElem?_eq_some_iff.1 HXG.out).1
  exact bodyPost_ret (v := .tuple #[.agg #[.slice (some ⟨g3, 0, none⟩) OS.length c3, .int .i64 0], .int .i64 0]) (results_24 (fn := Tryz.f76) (p := 4) (u := 5) rfl _ _ (w.heap.size + 1) _ rfl (setRow_heap _ _ _ _ _ _ HX7.out) rfl) rfl
    ⟨NEW, g3, c3, OS, cl, ord, HV6.out, rfl, Nat.le_trans HB6.out.size HG3.out, HH3.out.row (w.heap.size + 1) _ (by have := HG3.out; have := HSZ.out; omega) (fun x hx ad e => by have := (HO3.out x hx).2.2 ad e; have := HSZ.out; omega), fun x hx => ⟨(HO3.out x hx).1, (HO3.out x hx).2.1, fun ad e => Nat.le_trans HB6.out.size ((HO3.out x hx).2.2 ad e)⟩, HCL3.out, HST3.out, HCO3.out, HNP3.out, HLL3.out, below_row (HB6.out.trans (HB7.out.mono HB6.out.size)) (by omega)⟩
end Go.Proofs.YtifilhkkgkihpaaGreatDoor
