/- Plain: a head stored at its place; what heads a type gives. Plain: a new head in the maker's row. Plain: the kids of a head under way. Walks: maker.head. -/
import Derived.Test.YtifilhkkgkihpaaGreatDoorAs26
import Derived.Deep.MidRow
import Derived.Deep.RegionHeld3
set_option linter.unusedSimpArgs false
set_option linter.unusedVariables false
set_option linter.unusedSimpArgs false
set_option linter.unusedVariables false
namespace Go.Proofs.YtifilhkkgkihpaaGreatDoor
open Go.RowKit
theorem flat_set4 (x : Hd) : ∀ (L : List Hd) (at_ : Nat), at_ < L.length → (((((L.flatMap hcells).set (at_ * 4) (.int .i64 x.kd)).set (at_ * 4 + 1) (.slice x.na x.nn x.nc)).set (at_ * 4 + 1 + 1) (.slice x.ka x.kn x.kc)).set (at_ * 4 + 1 + 1 + 1) (.bool x.op)) = (L.set at_ x).flatMap hcells
  | [], at_, h => by simp at h
  | z :: r, 0, h => by simp [hcells]
  | z :: r, at_ + 1, h => by
    have ih := flat_set4 x r at_ (by simpa using h)
    rw [List.set_cons_succ, List.flatMap_cons, List.flatMap_cons, ← ih]
    have e : (hcells z).length = 4 := by simp [hcells]
    rw [List.set_append_right _ _ (by rw [e]; omega), List.set_append_right _ _ (by rw [e]; omega), List.set_append_right _ _ (by rw [e]; omega), List.set_append_right _ _ (by rw [e]; omega), e]
    congr 1
    rw [show (at_ + 1) * 4 - 4 = at_ * 4 from by omega, show (at_ + 1) * 4 + 1 - 4 = at_ * 4 + 1 from by omega, show (at_ + 1) * 4 + 1 + 1 - 4 = at_ * 4 + 1 + 1 from by omega, show (at_ + 1) * 4 + 1 + 1 + 1 - 4 = at_ * 4 + 1 + 1 + 1 from by omega]
theorem own_store4 {w : World} {base g n c : Nat} {OS : List Hd} (h : w.ownsRow base 33 4 (.slice (some ⟨g, 0, none⟩) n c) n (OS.flatMap hcells)) (at_ : Nat) (x : Hd) (ha : at_ < OS.length) :
    (w.setCells g (at_ * 4) (hcells x)).ownsRow base 33 4 (.slice (some ⟨g, 0, none⟩) n c) n ((OS.set at_ x).flatMap hcells) ∧ w.grownBy (w.setCells g (at_ * 4) (hcells x)) (some g) := by
  have e : w.setCells g (at_ * 4) (hcells x) = (((w.setCell ⟨g, at_ * 4, none⟩ (.int .i64 x.kd)).setCell ⟨g, at_ * 4 + 1, none⟩ (.slice x.na x.nn x.nc)).setCell ⟨g, at_ * 4 + 1 + 1, none⟩ (.slice x.ka x.kn x.kc)).setCell ⟨g, at_ * 4 + 1 + 1 + 1, none⟩ (.bool x.op) := rfl
  rw [e, ← flat_set4 x OS at_ ha]
  obtain ⟨h1, g1⟩ := h.stored (at_ * 4) (.int .i64 x.kd)
  obtain ⟨h2, g2⟩ := h1.stored (at_ * 4 + 1) (.slice x.na x.nn x.nc)
  obtain ⟨h3, g3⟩ := h2.stored (at_ * 4 + 1 + 1) (.slice x.ka x.kn x.kc)
  obtain ⟨h4, g4⟩ := h3.stored (at_ * 4 + 1 + 1 + 1) (.bool x.op)
  exact ⟨h4, ⟨rfl, rfl, rfl, by simp, fun j hj hne => by rw [g4.block j (by simpa using hj) hne, g3.block j (by simpa using hj) hne, g2.block j (by simpa using hj) hne, g1.block j hj hne]⟩⟩
theorem MkS.store {w0 w : World} {R M n : Nat} {NV TV : Value} {D : DataW Unit} {f : Nat → Option Nat} {g xc : Nat} {OS : List Hd} (h : MkS w0 w R M n NV TV D f (some ⟨g, 0, none⟩) xc OS) (at_ : Nat) (ha : at_ < OS.length) {x : Hd} (hx : HdOk w x) (hxn : (x.na = none → x.nc = 0) ∧ (x.ka = none → x.kc = 0)) (hxs : ∀ ad, blkOf x ad → ad.block ≠ R ∧ ad.block ≠ M ∧ ad.block ≠ g ∧ ad.block < w.heap.size) :
    MkS w0 (w.setCells g (at_ * 4) (hcells x)) R M n NV TV D f (some ⟨g, 0, none⟩) xc (OS.set at_ x) ∧ MkA w (w.setCells g (at_ * 4) (hcells x)) R M (some g) := by
  obtain ⟨h1, hg⟩ := own_store4 h.row at_ x ha
  have e1 : (OS.set at_ x).length = OS.length := by simp
  have hgR : g ≠ R := fun e => h.ownR (by rw [← e]; rfl)
  have hgM : g ≠ M := fun e => h.ownM (by rw [← e]; rfl)
  have hgl := h.row.lt g rfl
  refine ⟨?_, hg.os, hg.tape, hg.output, hg.size, fun b hb _ _ h3 => hg.block b hb (fun e => h3 e.symm)⟩
  exact {
    below := below_grow h.below hg h.below.size (fun k e => by cases e; exact hgl.1)
    box := by rw [e1]; exact (hg.block R h.ltR (fun e => hgR (by cases e; rfl))).trans h.box
    map := h.map.kept hg (fun e => hgM (by cases e; rfl))
    mapf := h.mapf
    row := by rw [e1]; exact h1
    heads := fun z hz => by
      rcases List.mem_or_eq_of_mem_set hz with r | rfl
      · exact ⟨hd_kept (h.heads z r).1 (fun ad e hl => hg.block _ hl (fun e2 => (h.sep z r ad e).2.2.2 (by cases e2; rfl))) hg.size, (h.heads z r).2⟩
      · exact ⟨hd_kept hx (fun ad e hl => hg.block _ hl (fun e2 => (hxs ad e).2.2.1 (by cases e2; rfl))) hg.size, hxn⟩
    sep := fun z hz ad e => by
      rw [e1]
      rcases List.mem_or_eq_of_mem_set hz with r | rfl
      · obtain ⟨s1, s2, s3, s4⟩ := h.sep z r ad e
        exact ⟨s1, s2, Nat.lt_of_lt_of_le s3 hg.size, s4⟩
      · obtain ⟨s1, s2, s3, s4⟩ := hxs ad e
        exact ⟨s1, s2, Nat.lt_of_lt_of_le s4 hg.size, fun e2 => s3 (by simpa [Value.ownBlock] using e2.symm)⟩
    geR := h.geR
    geM := h.geM }
/-- what a head says: kind, names, kids, open. -/
abbrev Vh := Int × List ByteArray × List Int × Bool
def vh (x : Hd) : Vh := (x.kd, x.NS, x.KS, x.op)
/-- how many heads the first j kids give. -/
def offs (cs : List (Nat × List Vh × List Nat)) (j : Nat) : Nat := ((cs.take j).flatMap (·.2.1)).length
def posl (m : Nat) (cs : List (Nat × List Vh × List Nat)) (n : Nat) : List Int := (List.range n).map fun j => ((m + offs cs j : Nat) : Int)
theorem posl_succ (m : Nat) (cs : List (Nat × List Vh × List Nat)) (n : Nat) : posl m cs (n + 1) = posl m cs n ++ [((m + offs cs n : Nat) : Int)] := by
  simp [posl, List.range_succ]
theorem posl_len (m : Nat) (cs : List (Nat × List Vh × List Nat)) (n : Nat) : (posl m cs n).length = n := by simp [posl]
/-- the heads that the type at i gives, where m stand already; ix: the types gone through. -/
inductive HdT (YT : List Nd) : Nat → Nat → List Vh → List Nat → Prop
  | mk {i m : Nat} {x : Nd} (cs : List (Nat × List Vh × List Nat)) : YT[i]? = some x → x.1.NS = [] → x.1.KS = cs.map (fun c => (c.1 : Int)) → (∀ (j : Nat) (c : Nat × List Vh × List Nat), cs[j]? = some c → HdT YT c.1 (m + 1 + offs cs j) c.2.1 c.2.2) → (i :: cs.flatMap (·.2.2)).Nodup →
      HdT YT i m ((x.1.kd, [], posl (m + 1) cs cs.length, x.1.op) :: cs.flatMap (·.2.1)) (i :: cs.flatMap (·.2.2))
/-- what a head's call brings. -/
def HdPost (w0 w : World) (R M n : Nat) (NV TV : Value) (f : Nat → Option Nat) (xa : Option Addr) (xc : Nat) (OS : List Hd) (hs : List Vh) (ix : List Nat) (e : Ending) (w' : World) : Prop :=
  ∃ (NEW : List Hd) (D' : DataW Unit) (f' : Nat → Option Nat) (xa' : Option Addr) (xc' : Nat), e = .returned (.tuple #[.int .i64 (OS.length : Int), .int .i64 0]) ∧ NEW.map vh = hs ∧ MkS w0 w' R M (n + ix.length) NV TV D' f' xa' xc' (OS ++ NEW) ∧ MkA w w' R M (Value.slice xa OS.length xc).ownBlock ∧ (∀ n2 c2 g, (Value.slice xa' n2 c2).ownBlock = some g → (Value.slice xa OS.length xc).ownBlock = some g ∨ w.heap.size ≤ g) ∧ (∀ x ∈ NEW, ∀ ad, blkOf x ad → w.heap.size ≤ ad.block) ∧ (∀ k, f' k ≠ none → f k ≠ none ∨ k ∈ ix)
/-- the head under way, in its box at B. -/
structure HdL (w wr : World) (B : Nat) (kd : Int) (a1 : Option Addr) (c1 : Nat) (op : Bool) (ka : Option Addr) (kc : Nat) (PS : List Int) : Prop where
  box : wr.heap[B]? = some (.cells #[.int .i64 kd, .slice a1 0 c1, .slice ka PS.length kc, .bool op] 33 (0, 0))
  row : wr.ownsRow w.heap.size 3 1 (.slice ka PS.length kc) PS.length (PS.map (Value.int .i64))
  geB : w.heap.size ≤ B
theorem MkS.grown {w0 w w' : World} {R M n : Nat} {NV TV : Value} {D : DataW Unit} {f : Nat → Option Nat} {xa : Option Addr} {xc : Nat} {OS : List Hd} (h : MkS w0 w R M n NV TV D f xa xc OS) {row : Option Nat} (hg : w.grownBy w' row) (hr : ∀ g, row = some g → w0.heap.size ≤ g ∧ g ≠ R ∧ g ≠ M ∧ (Value.slice xa OS.length xc).ownBlock ≠ some g ∧ ∀ x ∈ OS, ∀ ad, blkOf x ad → ad.block ≠ g) : MkS w0 w' R M n NV TV D f xa xc OS := by
  cases row with
  | none => exact h.on ⟨hg.os, hg.tape, hg.output, hg.size, fun b hb => hg.block b hb (by simp)⟩
  | some g =>
    obtain ⟨h0, h1, h2, h3, h4⟩ := hr g rfl
    exact h.other hg h0 h1 h2 h3 h4
/-- what parts the head under way from the maker's. -/
def HdSep (B : Nat) (xa : Option Addr) (ka : Option Addr) (OS : List Hd) : Prop := (Value.slice xa 0 0).ownBlock ≠ some B ∧ ∀ x ∈ OS, ∀ ad, blkOf x ad → ad.block ≠ B ∧ (Value.slice ka 0 0).ownBlock ≠ some ad.block
end Go.Proofs.YtifilhkkgkihpaaGreatDoor
set_option linter.unusedSimpArgs false
set_option linter.unusedVariables false
namespace Go.Proofs.YtifilhkkgkihpaaGreatDoor
open Go.RowKit
theorem hd_new {w0 wc w5 : World} {R M n : Nat} {NV TV : Value} {D : DataW Unit} {f : Nat → Option Nat} {xa : Option Addr} {xc : Nat} {OS : List Hd} (hS : MkS w0 wc R M n NV TV D f xa xc OS) {kd : Int} {a1 : Option Addr} {c1 : Nat} {op : Bool} (hn : a1 = none → c1 = 0) {o : Obj} {g5 c5 : Nat}
    (hg : (wc.drew.alloc o).grownBy w5 (Value.slice xa OS.length xc).ownBlock) (hown : w5.ownsRow w0.heap.size 33 4 (.slice (some ⟨g5, 0, none⟩) (OS.length + 1) c5) (OS.length + 1) (OS.flatMap hcells ++ [.int .i64 kd, .slice a1 0 c1, .slice none 0 0, .bool op])) (hw : (Value.slice xa OS.length xc).ownBlock = some g5 ∨ g5 = (wc.drew.alloc o).heap.size) :
    (MkS w0 (w5.setCell ⟨R, 4, none⟩ (.slice (some ⟨g5, 0, none⟩) (OS.length + 1) c5)) R M n NV TV D f (some ⟨g5, 0, none⟩) c5 (OS ++ [⟨kd, a1, 0, c1, [], none, 0, 0, [], op⟩]) ∧
    MkA wc (w5.setCell ⟨R, 4, none⟩ (.slice (some ⟨g5, 0, none⟩) (OS.length + 1) c5)) R M (Value.slice xa OS.length xc).ownBlock ∧
    ((Value.slice xa OS.length xc).ownBlock = some g5 ∨ wc.heap.size ≤ g5)) ∧ w5.heap[R]? = some (.cells #[NV, TV, .slice none 0 0, .map (some M), .slice xa OS.length xc] 165 (0, 0)) := by
  have hd : Below wc.heap.size wc wc.drew := (Below.refl _ _).drew
  refine ⟨hS.step (x := ⟨kd, a1, 0, c1, [], none, 0, 0, [], op⟩) hd ⟨⟨rfl, .inl rfl⟩, ⟨rfl, .inl rfl⟩, Nat.zero_le _, Nat.zero_le _, fun s h => by cases h⟩ ⟨hn, fun _ => rfl⟩ (fun ad e => ?_) hg hown hw, ?_⟩
  · rcases e with ⟨_, e2⟩ | ⟨_, e2⟩ <;> exact absurd rfl e2
  · have hR := hS.ltR
    have hs := hd.size
    rw [hg.block R (by simp; omega) (fun e => hS.ownR e.symm), Below.heap_alloc _ _ _ (by omega)]
    exact (hd.block R hR).trans hS.box
end Go.Proofs.YtifilhkkgkihpaaGreatDoor
set_option linter.unusedSimpArgs false
set_option linter.unusedVariables false
namespace Go.Proofs.YtifilhkkgkihpaaGreatDoor
open Go.RowKit
def hd0 (kd : Int) (a1 : Option Addr) (c1 : Nat) (op : Bool) : Hd := ⟨kd, a1, 0, c1, [], none, 0, 0, [], op⟩
/-- the head of the type i under way: hs, ix: what its kids gave so far; PS: their places; own: the maker's row when the call began. -/
structure KMid (w0 w wr : World) (R M n B : Nat) (NV TV : Value) (f : Nat → Option Nat) (own : Option Nat) (OS : List Hd) (kd : Int) (a1 : Option Addr) (c1 : Nat) (op : Bool) (i : Nat) (hs : List Vh) (ix : List Nat) (PS : List Int) (KN : List Hd) (D' : DataW Unit) (f' : Nat → Option Nat) (xa' : Option Addr) (xc' : Nat) (ka' : Option Addr) (kc' : Nat) : Prop where
  vhs : KN.map vh = hs
  mks : MkS w0 wr R M (n + 1 + ix.length) NV TV D' f' xa' xc' (OS ++ [hd0 kd a1 c1 op] ++ KN)
  hd : HdL w wr B kd a1 c1 op ka' kc' PS
  sep : HdSep B xa' ka' (OS ++ [hd0 kd a1 c1 op] ++ KN)
  dom : ∀ k, f' k ≠ none → f k ≠ none ∨ k = i ∨ k ∈ ix
  act : MkA w wr R M own
  ownn : ∀ n2 c2 g, (Value.slice xa' n2 c2).ownBlock = some g → own = some g ∨ w.heap.size ≤ g
  new : ∀ x ∈ KN, ∀ ad, blkOf x ad → w.heap.size ≤ ad.block
  nil : ka' = none → kc' = 0
  neR : R < w.heap.size
  neM : M < w.heap.size
  nz : a1 = none → c1 = 0
section
variable {w0 w wr : World} {R M n B : Nat} {NV TV : Value} {f : Nat → Option Nat} {own : Option Nat} {OS : List Hd} {kd : Int} {a1 : Option Addr} {c1 : Nat} {op : Bool} {i : Nat} {hs : List Vh} {ix : List Nat} {PS : List Int} {KN : List Hd} {D' : DataW Unit} {f' : Nat → Option Nat} {xa' : Option Addr} {xc' : Nat} {ka' : Option Addr} {kc' : Nat}
theorem KMid.ltB (h : KMid w0 w wr R M n B NV TV f own OS kd a1 c1 op i hs ix PS KN D' f' xa' xc' ka' kc') : B < wr.heap.size := (Array.getElem?_eq_some_iff.1 h.hd.box).1
theorem KMid.call (h : KMid w0 w wr R M n B NV TV f own OS kd a1 c1 op i hs ix PS KN D' f' xa' xc' ka' kc') {w6 : World} {NEW : List Hd} {D2 : DataW Unit} {f2 : Nat → Option Nat} {xa2 : Option Addr} {xc2 : Nat} {hs2 : List Vh} {ix2 : List Nat} (hv : NEW.map vh = hs2) (hm : MkS w0 w6 R M (n + 1 + ix.length + ix2.length) NV TV D2 f2 xa2 xc2 (OS ++ [hd0 kd a1 c1 op] ++ KN ++ NEW)) (ha : MkA wr w6 R M (Value.slice xa' (OS ++ [hd0 kd a1 c1 op] ++ KN).length xc').ownBlock)
    (ho : ∀ n2 c2 g, (Value.slice xa2 n2 c2).ownBlock = some g → (Value.slice xa' (OS ++ [hd0 kd a1 c1 op] ++ KN).length xc').ownBlock = some g ∨ wr.heap.size ≤ g) (hn : ∀ x ∈ NEW, ∀ ad, blkOf x ad → wr.heap.size ≤ ad.block) (hf : ∀ k, f2 k ≠ none → f' k ≠ none ∨ k ∈ ix2) :
    KMid w0 w w6 R M n B NV TV f own OS kd a1 c1 op i (hs ++ hs2) (ix ++ ix2) PS (KN ++ NEW) D2 f2 xa2 xc2 ka' kc' := by
  have hBl := h.ltB
  have hge := h.hd.geB
  have hR := h.neR
  have hM := h.neM
  have hws := h.act.size
  have e0 : (Value.slice xa' (OS ++ [hd0 kd a1 c1 op] ++ KN).length xc').ownBlock = (Value.slice xa' 0 0).ownBlock := own_len _ _ _ _ _
  have hB : w6.heap[B]? = wr.heap[B]? := ha.block B hBl (by omega) (by omega) (by rw [e0]; exact h.sep.1)
  have hkk : ∀ g, (Value.slice ka' PS.length kc').ownBlock = some g → w6.heap[g]? = wr.heap[g]? := fun g e => by
    have hl := h.hd.row.lt g e
    refine ha.block g hl.2 (by omega) (by omega) (fun e2 => ?_)
    rcases own_two h.mks.row h.hd.row (by decide) with r | r
    · rw [r] at e2; cases e2
    · exact r (by rw [e2, e])
  have ek : ∀ q, (Value.slice ka' 0 0).ownBlock = some q → (Value.slice ka' PS.length kc').ownBlock = some q := fun q e => by rw [own_len ka' _ _ 0 0]; exact e
  have ea : OS ++ [hd0 kd a1 c1 op] ++ (KN ++ NEW) = OS ++ [hd0 kd a1 c1 op] ++ KN ++ NEW := by simp
  exact {
    vhs := by rw [List.map_append, h.vhs, hv]
    mks := by rw [ea, List.length_append, ← Nat.add_assoc]; exact hm
    hd := ⟨hB.trans h.hd.box, ownsRow_mono h.hd.row hkk, hge⟩
    sep := ⟨fun e => by
      rcases ho _ _ _ e with r | r
      · rw [e0] at r; exact h.sep.1 r
      · omega, fun x hx ad e => by
      rw [ea] at hx
      rcases List.mem_append.1 hx with r | r
      · exact h.sep.2 x r ad e
      · have h1 := hn x r ad e
        refine ⟨by omega, fun e2 => ?_⟩
        have := (h.hd.row.lt _ (ek _ e2)).2
        omega⟩
    dom := fun k hk => by
      rcases hf k hk with r | r
      · rcases h.dom k r with q | q | q
        · exact .inl q
        · exact .inr (.inl q)
        · exact .inr (.inr (List.mem_append_left _ q))
      · exact .inr (.inr (List.mem_append_right _ r))
    act := h.act.trans ha (fun g e => h.ownn _ _ g e)
    ownn := fun n2 c2 g e => by
      rcases ho n2 c2 g e with r | r
      · exact h.ownn _ _ g r
      · exact .inr (by omega)
    new := fun x hx ad e => by
      rcases List.mem_append.1 hx with r | r
      · exact h.new x r ad e
      · have := hn x r ad e; omega
    nil := h.nil
    neR := h.neR
    neM := h.neM
    nz := h.nz }
theorem KMid.push (h : KMid w0 w wr R M n B NV TV f own OS kd a1 c1 op i hs ix PS KN D' f' xa' xc' ka' kc') {p : Int} {o : Obj} {w7 : World} {g7 c7 : Nat} (hg : (wr.alloc o).grownBy w7 (Value.slice ka' PS.length kc').ownBlock) (hr : w7.ownsRow w.heap.size 3 1 (.slice (some ⟨g7, 0, none⟩) (PS.length + 1) c7) (PS.length + 1) (PS.map (Value.int .i64) ++ [.int .i64 p])) (hw : (Value.slice ka' PS.length kc').ownBlock = some g7 ∨ g7 = (wr.alloc o).heap.size) :
    KMid w0 w (w7.setCell ⟨B, 2, none⟩ (.slice (some ⟨g7, 0, none⟩) (PS.length + 1) c7)) R M n B NV TV f own OS kd a1 c1 op i hs ix (PS ++ [p]) KN D' f' xa' xc' (some ⟨g7, 0, none⟩) c7 ∧ w7.heap[B]? = some (.cells #[.int .i64 kd, .slice a1 0 c1, .slice ka' PS.length kc', .bool op] 33 (0, 0)) := by
  have hBl := h.ltB
  have hge := h.hd.geB
  have hR := h.neR
  have hM := h.neM
  have hws := h.act.size
  have hgR := h.mks.geR
  have hsa : (wr.alloc o).heap.size = wr.heap.size + 1 := by simp
  have hba : Below wr.heap.size wr (wr.alloc o) := (Below.refl _ _).alloc (Nat.le_refl _) _
  have hgs := hg.size
  have hkB : (Value.slice ka' PS.length kc').ownBlock ≠ some B := own_boxP h.hd.row h.hd.box (by decide)
  have hkl : ∀ g, (Value.slice ka' PS.length kc').ownBlock = some g → w.heap.size ≤ g ∧ g < wr.heap.size := fun g e => h.hd.row.lt g e
  have ek : ∀ q, (Value.slice ka' PS.length kc').ownBlock = some q → (Value.slice ka' 0 0).ownBlock = some q := fun q e => by rw [own_len ka' 0 0 PS.length kc']; exact e
  have eo : ∀ q, (Value.slice xa' (OS ++ [hd0 kd a1 c1 op] ++ KN).length xc').ownBlock = some q → (Value.slice xa' 0 0).ownBlock = some q := fun q e => by rw [own_len xa' 0 0 (OS ++ [hd0 kd a1 c1 op] ++ KN).length xc']; exact e
  have hB7 : w7.heap[B]? = some (.cells #[.int .i64 kd, .slice a1 0 c1, .slice ka' PS.length kc', .bool op] 33 (0, 0)) := by
    rw [hg.block B (by omega) (fun e => hkB e.symm), hba.block B hBl]
    exact h.hd.box
  have hg7B : g7 ≠ B := fun e => by
    rcases hw with r | r
    · exact hkB (by rw [r, e])
    · omega
  have hm7 := (h.mks.on hba).grown hg (fun g e => by
    have := hkl g e
    refine ⟨by omega, by omega, by omega, fun e2 => ?_, fun x hx ad e2 e3 => (h.sep.2 x hx ad e2).2 (by rw [e3]; exact ek g e)⟩
    rcases own_two h.mks.row h.hd.row (by decide) with r | r
    · rw [r] at e2; cases e2
    · exact r (by rw [e2, e]))
  have hm8 := hm7.other (w' := w7.setCell ⟨B, 2, none⟩ (.slice (some ⟨g7, 0, none⟩) (PS.length + 1) c7)) (Val.grown_set w7 B 2 _) (by omega) (by omega) (by omega) (fun e => h.sep.1 (eo B e)) (fun x hx ad e => (h.sep.2 x hx ad e).1)
  refine ⟨?_, hB7⟩
  exact {
    vhs := h.vhs
    mks := hm8
    hd := ⟨by
      rw [heap_setCell_same _ B 2 _ 33 _ hB7]
      simp, by
      have := ownsRow_mono (w' := w7.setCell ⟨B, 2, none⟩ (.slice (some ⟨g7, 0, none⟩) (PS.length + 1) c7)) hr (fun g e => by
        cases e
        exact Below.heap_setCell _ _ _ _ hg7B)
      simpa using this, hge⟩
    sep := ⟨h.sep.1, fun x hx ad e => ⟨(h.sep.2 x hx ad e).1, fun e2 => by
      have e3 : g7 = ad.block := by simpa [Value.ownBlock] using e2
      rcases hw with r | r
      · exact (h.sep.2 x hx ad e).2 (by rw [← e3]; exact ek _ r)
      · have := (h.mks.sep x hx ad e).2.2.1
        omega⟩⟩
    dom := h.dom
    act := ⟨hg.os.trans h.act.os, hg.tape.trans h.act.tape, hg.output.trans h.act.output, by simp; omega, fun b hb q1 q2 q3 => by
      rw [Below.heap_setCell _ _ _ _ (by simp only; omega), hg.block b (by omega) (fun e => by have := hkl b e.symm; omega), hba.block b (by omega)]
      exact h.act.block b hb q1 q2 q3⟩
    ownn := h.ownn
    new := h.new
    nil := fun e => by cases e
    neR := h.neR
    neM := h.neM
    nz := h.nz }
theorem KMid.on (h : KMid w0 w wr R M n B NV TV f own OS kd a1 c1 op i hs ix PS KN D' f' xa' xc' ka' kc') {w' : World} (hb : Below wr.heap.size wr w') : KMid w0 w w' R M n B NV TV f own OS kd a1 c1 op i hs ix PS KN D' f' xa' xc' ka' kc' where
  vhs := h.vhs
  mks := h.mks.on hb
  hd := ⟨(hb.block B h.ltB).trans h.hd.box, ownsRow_mono h.hd.row (fun g e => hb.block g (h.hd.row.lt g e).2), h.hd.geB⟩
  sep := h.sep
  dom := h.dom
  act := h.act.trans (MkA.of_below hb) (fun g e => .inl e)
  ownn := h.ownn
  new := h.new
  nil := h.nil
  neR := h.neR
  neM := h.neM
  nz := h.nz
/-- the head at its end. -/
def hdE (kd : Int) (a1 : Option Addr) (c1 : Nat) (op : Bool) (ka : Option Addr) (kc : Nat) (PS : List Int) : Hd := ⟨kd, a1, 0, c1, [], ka, PS.length, kc, PS, op⟩
theorem KMid.fin (h : KMid w0 w wr R M n B NV TV f own OS kd a1 c1 op i hs ix PS KN D' f' xa' xc' ka' kc') (hp : PS.length ≤ 1000) {g : Nat} (hx : xa' = some ⟨g, 0, none⟩) :
    MkS w0 (wr.setCells g (OS.length * 4) (hcells (hdE kd a1 c1 op ka' kc' PS))) R M (n + (i :: ix).length) NV TV D' f' xa' xc' (OS ++ (hdE kd a1 c1 op ka' kc' PS :: KN)) ∧ MkA w (wr.setCells g (OS.length * 4) (hcells (hdE kd a1 c1 op ka' kc' PS))) R M own := by
  subst hx
  have hR := h.neR
  have hM := h.neM
  have hg := h.mks.row.lt g rfl
  obtain ⟨h1, h2⟩ := h.mks.store OS.length (by simp) (x := hdE kd a1 c1 op ka' kc' PS) ⟨⟨rfl, .inl rfl⟩, own_ints h.hd.row, Nat.zero_le _, hp, fun s h => by cases h⟩ ⟨h.nz, h.nil⟩ (fun ad e => by
    rcases e with ⟨_, e2⟩ | ⟨e1, e2⟩
    · exact absurd rfl e2
    · have ho : (Value.slice ka' PS.length kc').ownBlock = some ad.block := by rw [show ka' = some ad from e1]; rfl
      have hl := h.hd.row.lt _ ho
      refine ⟨by omega, by omega, fun e3 => ?_, hl.2⟩
      rcases own_two h.mks.row h.hd.row (by decide) with r | r
      · cases r
      · exact r (by rw [ho, e3]; rfl))
  have e1 : (OS ++ [hd0 kd a1 c1 op] ++ KN).set OS.length (hdE kd a1 c1 op ka' kc' PS) = OS ++ (hdE kd a1 c1 op ka' kc' PS :: KN) := by simp
  rw [e1] at h1
  refine ⟨?_, h.act.trans h2 (fun q e => h.ownn 0 0 q (by simpa [Value.ownBlock] using e))⟩
  rw [show n + (i :: ix).length = n + 1 + ix.length from by simp; omega]
  exact h1
end
end Go.Proofs.YtifilhkkgkihpaaGreatDoor
set_option linter.unusedSimpArgs false
set_option linter.unusedVariables false
namespace Go.Proofs.YtifilhkkgkihpaaGreatDoor
open Go.RowKit
theorem cell_set_ne {w : World} {b b' o j : Nat} {v : Value} (h : b ≠ b') : (w.setCell ⟨b', j, none⟩ v).cell? ⟨b, o, none⟩ = w.cell? ⟨b, o, none⟩ := by
  have := Below.heap_setCell w ⟨b', j, none⟩ v b h
  simp only [World.cell?, this]
theorem set4_heap {w : World} {B : Nat} {a b c d a' b' c' d' : Value} (h : w.heap[B]? = some (.cells #[a, b, c, d] 33 (0, 0))) : ((((w.setCell ⟨B, 0, none⟩ a').setCell ⟨B, 1, none⟩ b').setCell ⟨B, 2, none⟩ c').setCell ⟨B, 3, none⟩ d').heap[B]? = some (.cells #[a', b', c', d'] 33 (0, 0)) := by
  rw [heap_setCell_same _ B 3 _ 33 _ (heap_setCell_same _ B 2 _ 33 _ (heap_setCell_same _ B 1 _ 33 _ (heap_setCell_same _ B 0 _ 33 _ h)))]
  rfl
theorem flat_take {α : Type} (F : Nat × List Vh × List Nat → List α) {cs : List (Nat × List Vh × List Nat)} {j : Nat} {c : Nat × List Vh × List Nat} (hc : cs[j]? = some c) : (cs.take (j + 1)).flatMap F = (cs.take j).flatMap F ++ F c := by
  rw [List.take_add_one, hc, List.flatMap_append]
  simp
theorem flat_all {α : Type} (F : Nat × List Vh × List Nat → List α) {cs : List (Nat × List Vh × List Nat)} {j : Nat} {c : Nat × List Vh × List Nat} (hc : cs[j]? = some c) : cs.flatMap F = (cs.take j).flatMap F ++ F c ++ (cs.drop (j + 1)).flatMap F := by
  rw [← flat_take F hc, ← List.flatMap_append, List.take_append_drop]
def HeadNew (w4 wc : World) (B : Nat) (kd : Int) (a1 : Option Addr) (c1 : Nat) (op : Bool) : Prop := wc.heap[B]? = some (.cells #[.int .i64 kd, .slice a1 0 c1, .slice none 0 0, .bool op] 33 (0, 0)) ∧ w4.heap.size ≤ B ∧ Below w4.heap.size w4 wc ∧ (a1 = none → c1 = 0)
set_option maxRecDepth 20000 in
set_option maxHeartbeats 8000000 in
theorem head_one (w0 w : World) (R M n : Nat) (gn gk gt gy oy cy cn r NN : Nat) (YT : List Nd) (hT0 : TreeT w0 gn gk gt r) (hY0 : TpsIn w0 (some ⟨gy, oy, none⟩) NN YT) (hN3 : NN ≤ 1000) (hr : r < NN) (hty : TypsOk YT) (h1 : ∀ x ∈ bumps (UU NN r) (kidsN YT), x = 1)
    (D : DataW Unit) (f : Nat → Option Nat) (xa : Option Addr) (xc : Nat) (OS : List Hd) (hS : MkS w0 w R M n (.slice (some ⟨gn, 0, none⟩) 2 cn) (.slice (some ⟨gy, oy, none⟩) NN cy) D f xa xc OS) (i : Nat) (x : Nd) (hx : YT[i]? = some x) (hNS : x.1.NS = []) (cs : List (Nat × List Vh × List Nat)) (hKS : x.1.KS = cs.map (fun c => (c.1 : Int)))
    (hf : ∀ k ∈ i :: cs.flatMap (·.2.2), f k = none) (hnd : (i :: cs.flatMap (·.2.2)).Nodup) (hlen : OS.length + 1 + (cs.flatMap (·.2.1)).length ≤ 1000) (hn : n + 1 + (cs.flatMap (·.2.2)).length ≤ 10000)
    (hK : ∀ (j : Nat) (c : Nat × List Vh × List Nat), cs[j]? = some c → ∀ (w' : World) (n' : Nat) (D' : DataW Unit) (f' : Nat → Option Nat) (xa' : Option Addr) (xc' : Nat) (OS' : List Hd), OS'.length = OS.length + 1 + offs cs j → MkS w0 w' R M n' (.slice (some ⟨gn, 0, none⟩) 2 cn) (.slice (some ⟨gy, oy, none⟩) NN cy) D' f' xa' xc' OS' → (∀ k ∈ c.2.2, f' k = none) → n' + c.2.2.length ≤ 10000 → Calls Tryz.prog 101 #[.pointer (some ⟨R, 0, none⟩), .int .i64 (c.1 : Int)] w' (HdPost w0 w' R M n' (.slice (some ⟨gn, 0, none⟩) 2 cn) (.slice (some ⟨gy, oy, none⟩) NN cy) f' xa' xc' OS' c.2.1 c.2.2)) :
    Calls Tryz.prog 101 #[.pointer (some ⟨R, 0, none⟩), .int .i64 (i : Int)] w (HdPost w0 w R M n (.slice (some ⟨gn, 0, none⟩) 2 cn) (.slice (some ⟨gy, oy, none⟩) NN cy) f xa xc OS ((x.1.kd, [], posl (OS.length + 1) cs cs.length, x.1.op) :: cs.flatMap (·.2.1)) (i :: cs.flatMap (·.2.2))) := by
  have HT0 := Lib.hid hT0
  have HY0 := Lib.hid hY0
  have HS := Lib.hid hS
  have HXX := Lib.hid hx
  have HNS := Lib.hid hNS
  have HKS := Lib.hid hKS
  have HF := Lib.hid hf
  have HND := Lib.hid hnd
  have HLEN := Lib.hid hlen
  have HN := Lib.hid hn
  have HKC := Lib.hid hK
  have hos : (OS.length : Int) < 4096 := by omega
  have hos2 : ¬ (4096 : Int) ≤ OS.length := by omega
  have hin : i < NN := by have := (List.getElem?_eq_some_iff.1 hx).1; have := hY0.len; omega
  have hin2 : (i : Int) < NN := by omega
  have HIN := Lib.hid hin
  have HN3 := Lib.hid hN3
  have HTH := Lib.hid (thru_any w gn gk gt gy oy cy cn r NN i YT (hT0.on hS.below) (hY0.on hS.below) hN3 hr hty h1 x hx)
  have r0 : w.cell? ⟨R, 0, none⟩ = some (.slice (some ⟨gn, 0, none⟩) 2 cn) := (by rw [cell_of_row _ _ 0 _ 165 _ hS.box]; rfl)
  have r1 : w.cell? ⟨R, 1, none⟩ = some (.slice (some ⟨gy, oy, none⟩) NN cy) := (by rw [cell_of_row _ _ 1 _ 165 _ hS.box]; rfl)
  have r2 : w.cell? ⟨R, 2, none⟩ = some (.slice none 0 0) := (by rw [cell_of_row _ _ 2 _ 165 _ hS.box]; rfl)
  clear hT0 hY0 hS hx hNS hKS hf hnd hlen hn hK hr hty h1 hN3
  go_enter Tryz.func101, Tryz.ntmps101
  go_upto_region 4 with (go_at_call 134; (with_reducible refine HTH.out.mono ?_); rintro e w2 ⟨rfl, hb2⟩; have HB2 := Lib.hid hb2; clear hb2)
  clear r0 r1 r2
  have HS2 := Lib.hid (HS.out.on HB2.out)
  have HKX : Hid (keyOf Tryz.prog 3 (.int .i64 (i : Int)) = some (keyI i)) := Lib.hid (keyOf3 _ (by have := HN3.out; omega))
  have hhas : Maps.has D (keyI i) = false := by rw [HS2.out.mapf.has i, HF.out i (by simp)]; rfl
  have r3 : w2.cell? ⟨R, 3, none⟩ = some (.map (some M)) := (by rw [cell_of_row _ _ 3 _ 165 _ HS2.out.box]; rfl)
  have r4 : w2.cell? ⟨R, 4, none⟩ = some (.slice xa OS.length xc) := (by rw [cell_of_row _ _ 4 _ 165 _ HS2.out.box]; rfl)
  have r1 : w2.cell? ⟨R, 1, none⟩ = some (.slice (some ⟨gy, oy, none⟩) NN cy) := (by rw [cell_of_row _ _ 1 _ 165 _ HS2.out.box]; rfl)
  have HOK := Lib.hid (HY0.out.nds x (List.mem_of_getElem? HXX.out))
  obtain ⟨g, o, he, hg, n0, n1, n2, n3, n4, n5⟩ := (HY0.out.on HS2.out.below).at HXX.out
  cases he
  clear hg
  obtain ⟨⟨kd, na, nn, nc, NS, ka, kn, kc, KS, op⟩, ps⟩ := x
  simp only at n0 n1 n2 n3 n4 n5 HOK HNS HKS
  go_upto_region 10 with (at_lookup; refine wpList_lookup_own_ok_int _ rfl _ _ 163 rfl 3 3 .i64 (Maps.int_keyed Tryz.underlying3) Tryz.underlying163 Tryz.underlying3 (zero3 _) M n D rfl HS2.out.map _ (keyI i) rfl HKX.out ?_; intro z8 hat8 hwc8; clear hat8 hwc8)
  clear r3 r4 r1 n0 n1 n2 n3 n4 n5
  have HT3 : Hid ((w2.alloc (.cells #[.int .i64 kd, .int .i64 ps, .string ⟨#[]⟩, .slice na nn nc, .slice ka kn kc, .bool op] 152)).heap[w2.heap.size]? = some (.cells #[.int .i64 kd, .int .i64 ps, .string ⟨#[]⟩, .slice na nn nc, .slice ka kn kc, .bool op] 152 (0, 0))) := Lib.hid (heap_alloc_new w2 _)
  have HB3 : Hid (Below w2.heap.size w2 (w2.alloc (.cells #[.int .i64 kd, .int .i64 ps, .string ⟨#[]⟩, .slice na nn nc, .slice ka kn kc, .bool op] 152))) := Lib.hid ((Below.refl _ _).alloc (Nat.le_refl _) _)
  generalize (w2.alloc (.cells #[.int .i64 kd, .int .i64 ps, .string ⟨#[]⟩, .slice na nn nc, .slice ka kn kc, .bool op] 152)) = w3 at *
  have HS3 := Lib.hid (HS2.out.on HB3.out)
  have r3 : w3.cell? ⟨R, 3, none⟩ = some (.map (some M)) := (by rw [cell_of_row _ _ 3 _ 165 _ HS3.out.box]; rfl)
  have r4 : w3.cell? ⟨R, 4, none⟩ = some (.slice xa OS.length xc) := (by rw [cell_of_row _ _ 4 _ 165 _ HS3.out.box]; rfl)
  have HIW : Hid ((Lit.int .i64 (OS.length : Int)).wf = true) := Lib.hid (wf_small _ (by have := HLEN.out; omega))
  go_upto_region 12 with (at_mapUpdate; refine wpList_mapUpdate_own _ rfl _ _ _ 163 rfl 3 3 (Maps.int_keyed Tryz.underlying3) Tryz.underlying163 _ M n D rfl HS3.out.map (by have := HN.out; unfold maxLen; omega) _ _ _ rfl rfl HKX.out _ [] (plainElem_int Tryz.underlying3 HIW.out) ?_; intro w4 hown4 hgr4; have HO4 := Lib.hid hown4; have HG4 := Lib.hid hgr4; clear hown4 hgr4)
  clear r3 r4 hhas
  have HS4 := Lib.hid (HS3.out.upd HG4.out HO4.out (HS3.out.mapf.put i OS.length))
  have HT4 : Hid (w4.heap[w2.heap.size]? = some (.cells #[.int .i64 kd, .int .i64 ps, .string ⟨#[]⟩, .slice na nn nc, .slice ka kn kc, .bool op] 152 (0, 0))) := Lib.hid ((HG4.out.block _ (Array.getElem?_eq_some_iff.1 HT3.out).1 (fun e => (by have h1 := HS2.out.ltM; have h2 : w2.heap.size = M := (by simpa using e); omega))).trans HT3.out)
  have HA4 : Hid (MkA w w4 R M (Value.slice xa OS.length xc).ownBlock) := Lib.hid ((MkA.of_below (HB2.out.trans (HB3.out.mono HB2.out.size))).trans ⟨HG4.out.os, HG4.out.tape, HG4.out.output, HG4.out.size, fun b hb _ h2 _ => HG4.out.block b hb (fun e => h2 (by cases e; rfl))⟩ (fun g e => .inl e) (own' := (Value.slice xa OS.length xc).ownBlock))
  have HW24 : Hid (w2.heap.size < w4.heap.size) := Lib.hid (Nat.lt_of_lt_of_le (Array.getElem?_eq_some_iff.1 HT3.out).1 HG4.out.size)
  obtain rfl : NS = [] := HNS.out
  have HNM := Lib.hid (HY0.out.on HS4.out.below |>.nds _ (List.mem_of_getElem? HXX.out)).1.names
  obtain rfl : nn = 0 := HNM.out.1
  have c0 : w4.cell? ⟨w2.heap.size, 0, none⟩ = some (.int .i64 kd) := (by rw [cell_of_row _ _ 0 _ 152 _ HT4.out]; rfl)
  have c3 : w4.cell? ⟨w2.heap.size, 3, none⟩ = some (.slice na 0 nc) := (by rw [cell_of_row _ _ 3 _ 152 _ HT4.out]; rfl)
  have c5 : w4.cell? ⟨w2.heap.size, 5, none⟩ = some (.bool op) := (by rw [cell_of_row _ _ 5 _ 152 _ HT4.out]; rfl)
  have HC91 : Hid (∀ w', Below w4.heap.size w4 w' → Calls Tryz.prog 91 #[.slice na 0 nc] w' fun e w'' => ∃ a' c', e = .returned (.slice a' 0 c') ∧ NamesAt w'' a' 0 [] ∧ (a' = none → c' = 0) ∧ (∀ ad, a' = some ad → w'.heap.size ≤ ad.block) ∧ Below w'.heap.size w' w'') := Lib.hid (fun w' hb => clone_55 w' na 0 nc [] (HNM.out.on hb) HOK.out.2.1 (by decide))
  have l4 : w2.heap.size < w4.heap.size := HW24.out
  have hq : w2.heap.size ≠ w4.heap.size := Nat.ne_of_lt l4
  go_simp
  go_cut [11] (fun t11 wc => ∃ (B : Nat) (a1 : Option Addr) (c1 : Nat), t11 = .pointer (some ⟨B, 0, none⟩) ∧ Hid (HeadNew w4 wc B kd a1 c1 op))
  case first =>
    go_region_held3 (fun w' => w'.cell? ⟨w2.heap.size, 0, none⟩ = some (.int .i64 kd) ∧ w'.cell? ⟨w2.heap.size, 3, none⟩ = some (.slice na 0 nc) ∧ w'.cell? ⟨w2.heap.size, 5, none⟩ = some (.bool op)) (first | go_keep | exact ⟨c0, c3, c5⟩ | exact ⟨d0, d3, d5⟩ | exact ⟨(by rw [cell_set_ne hq, cell_set_ne hq, cell_set_ne hq, cell_set_ne hq]; exact d0), (by rw [cell_set_ne hq, cell_set_ne hq, cell_set_ne hq, cell_set_ne hq]; exact d3), (by rw [cell_set_ne hq, cell_set_ne hq, cell_set_ne hq, cell_set_ne hq]; exact d5)⟩) ((first | (go_at_call 91; (with_reducible refine (HC91.out _ (by exact (Below.refl _ _).drew)).mono ?_); rintro e w5 ⟨a5, cc5, rfl, hn5, hz5, hg5, hb5⟩; have HBW : Hid (Below w4.heap.size w4 w5) := Lib.hid ((Below.refl _ _).drew.trans hb5); have HZ5 := Lib.hid hz5; have d0 : w5.cell? ⟨w2.heap.size, 0, none⟩ = some (.int .i64 kd) := keepB HBW.out HW24.out c0; have d3 : w5.cell? ⟨w2.heap.size, 3, none⟩ = some (.slice na 0 nc) := keepB HBW.out HW24.out c3; have d5 : w5.cell? ⟨w2.heap.size, 5, none⟩ = some (.bool op) := keepB HBW.out HW24.out c5; clear hn5 hz5 hg5 hb5) | (go_at_call 91; (with_reducible refine (HC91.out _ (by exact ((Below.refl _ _).alloc (Nat.le_refl _) _).drew)).mono ?_); rintro e w5 ⟨a5, cc5, rfl, hn5, hz5, hg5, hb5⟩; have HBZ : Hid (Below w4.heap.size w4 ((w4.alloc (.cells #[.int .i64 0, .slice none 0 0, .slice none 0 0, .bool false] 33)).drew)) := Lib.hid ((Below.refl _ _).alloc (Nat.le_refl _) _).drew; have HBW : Hid (Below w4.heap.size w4 w5) := Lib.hid (HBZ.out.trans (hb5.mono HBZ.out.size)); have HZB : Hid (w5.heap[w4.heap.size]? = some (.cells #[.int .i64 0, .slice none 0 0, .slice none 0 0, .bool false] 33 (0, 0))) := Lib.hid ((hb5.block w4.heap.size (Array.getElem?_eq_some_iff.1 (heap_alloc_new w4 _)).1).trans (heap_alloc_new w4 _)); have HZ5 := Lib.hid hz5; have d0 : w5.cell? ⟨w2.heap.size, 0, none⟩ = some (.int .i64 kd) := keepB HBW.out HW24.out c0; have d3 : w5.cell? ⟨w2.heap.size, 3, none⟩ = some (.slice na 0 nc) := keepB HBW.out HW24.out c3; have d5 : w5.cell? ⟨w2.heap.size, 5, none⟩ = some (.bool op) := keepB HBW.out HW24.out c5; have z0 : w5.cell? ⟨w4.heap.size, 0, none⟩ = some (.int .i64 0) := (by rw [cell_of_row _ _ 0 _ 33 _ HZB.out]; rfl); have z1 : w5.cell? ⟨w4.heap.size, 1, none⟩ = some (.slice none 0 0) := (by rw [cell_of_row _ _ 1 _ 33 _ HZB.out]; rfl); have z2 : w5.cell? ⟨w4.heap.size, 2, none⟩ = some (.slice none 0 0) := (by rw [cell_of_row _ _ 2 _ 33 _ HZB.out]; rfl); have z3 : w5.cell? ⟨w4.heap.size, 3, none⟩ = some (.bool false) := (by rw [cell_of_row _ _ 3 _ 33 _ HZB.out]; rfl); have y0 : w5.frozen? ⟨w4.heap.size, 0, none⟩ = false := frozen_of_row _ _ 0 _ 33 HZB.out; have y1 : w5.frozen? ⟨w4.heap.size, 1, none⟩ = false := frozen_of_row _ _ 1 _ 33 HZB.out; have y2 : w5.frozen? ⟨w4.heap.size, 2, none⟩ = false := frozen_of_row _ _ 2 _ 33 HZB.out; have y3 : w5.frozen? ⟨w4.heap.size, 3, none⟩ = false := frozen_of_row _ _ 3 _ 33 HZB.out; clear hn5 hz5 hg5 hb5)))
    · go_wp2
      go_meet
      case rel => exact ⟨_, a5, cc5, rfl, Lib.hid ⟨heap_alloc_new w5 _, HBW.out.size, HBW.out.alloc HBW.out.size _, HZ5.out⟩⟩
    · go_wp2
      go_meet
      case rel => exact ⟨_, a5, cc5, rfl, Lib.hid ⟨set4_heap HZB.out, Nat.le_refl _, (((HBW.out.setCell (p := ⟨w4.heap.size, 0, none⟩) (Nat.le_refl _) _).setCell (p := ⟨w4.heap.size, 1, none⟩) (Nat.le_refl _) _).setCell (p := ⟨w4.heap.size, 2, none⟩) (Nat.le_refl _) _).setCell (p := ⟨w4.heap.size, 3, none⟩) (Nat.le_refl _) _, HZ5.out⟩⟩
  case rest =>
    obtain ⟨B, a1, c1, rfl, HNW⟩ := hcut
    obtain ⟨wa, rfl⟩ : ∃ wa : World, wa = wc := ⟨_, rfl⟩
    clear c0 c3 c5 hq l4
    have HSC := Lib.hid (HS4.out.on HNW.out.2.2.1)
    have HAC : Hid (MkA w wa R M (Value.slice xa OS.length xc).ownBlock) := Lib.hid (HA4.out.trans (MkA.of_below HNW.out.2.2.1) (fun g e => .inl e) (own' := (Value.slice xa OS.length xc).ownBlock))
    have HTC := Lib.hid ((HNW.out.2.2.1.block _ HW24.out).trans HT4.out)
    have HBW4 : Hid (w.heap.size ≤ w4.heap.size) := Lib.hid HA4.out.size
    obtain ⟨i0, hi9, hz0, hz1, hz2⟩ := info_parts Tryz.info33
    have HIF := Lib.hid hi9
    have HIF0 := Lib.hid hz0
    have HIF1 := Lib.hid hz1
    have HIF2 := Lib.hid hz2
    clear hi9 hz0 hz1 hz2
    have rc4 : wa.cell? ⟨R, 4, none⟩ = some (.slice xa OS.length xc) := (by rw [cell_of_row _ _ 4 _ 165 _ HSC.out.box]; rfl)
    have rd4 : (wa.alloc (.cells #[.int .i64 kd, .slice a1 0 c1, .slice none 0 0, .bool op] 33)).cell? ⟨R, 4, none⟩ = some (.slice xa OS.length xc) := (by rw [cell_of_row _ _ 4 _ 165 _ ((Below.heap_alloc _ _ _ HSC.out.ltR).trans HSC.out.box)]; rfl)
    have h0 : wa.cell? ⟨B, 0, none⟩ = some (.int .i64 kd) := (by rw [cell_of_row _ _ 0 _ 33 _ HNW.out.1]; rfl)
    have h1 : wa.cell? ⟨B, 1, none⟩ = some (.slice a1 0 c1) := (by rw [cell_of_row _ _ 1 _ 33 _ HNW.out.1]; rfl)
    have h2 : wa.cell? ⟨B, 2, none⟩ = some (.slice none 0 0) := (by rw [cell_of_row _ _ 2 _ 33 _ HNW.out.1]; rfl)
    have h3 : wa.cell? ⟨B, 3, none⟩ = some (.bool op) := (by rw [cell_of_row _ _ 3 _ 33 _ HNW.out.1]; rfl)
    have HDR : Hid (Below wa.heap.size wa wa.drew) := Lib.hid (Below.refl _ _).drew
    have HOD : Hid (wa.drew.ownsRow w0.heap.size 33 4 (.slice xa OS.length xc) OS.length (OS.flatMap hcells)) := Lib.hid HSC.out.row
    have HLE : Hid (w0.heap.size ≤ (wa.drew.alloc (.cells #[.int .i64 kd, .slice a1 0 c1, .slice none 0 0, .bool op] 33)).heap.size) := Lib.hid (by have h1 := HSC.out.below.size; have h2 := HDR.out.size; simp; omega)
    go_upto_region 13 with (fail)
    go_cut [11] (fun t11 wd => t11 = .pointer (some ⟨B, 0, none⟩) ∧ ∃ (xa' : Option Addr) (xc' : Nat), Hid (MkS w0 wd R M (n + 1) (.slice (some ⟨gn, 0, none⟩) 2 cn) (.slice (some ⟨gy, oy, none⟩) NN cy) (D.put (keyI i) (.lit (.int .i64 (OS.length : Int)))) (fun x => if x = i then some OS.length else f x) xa' xc' (OS ++ [⟨kd, a1, 0, c1, [], none, 0, 0, [], op⟩])) ∧ Hid (MkA wa wd R M (Value.slice xa OS.length xc).ownBlock) ∧ Hid (∀ g, (Value.slice xa' 0 0).ownBlock = some g → (Value.slice xa OS.length xc).ownBlock = some g ∨ wa.heap.size ≤ g))
    case first =>
      go_region_law
        (first
          | (refine step_append_lies (wa.drew.alloc (.cells #[.int .i64 kd, .slice a1 0 c1, .slice none 0 0, .bool op] 33)) rfl _ _ 34 rfl w0.heap.size 33 i0 (.agg #[.int .i64 0, .slice none 0 0, .slice none 0 0, .bool false]) 4 64 Tryz.underlying34 HIF.out HIF0.out HIF1.out HIF2.out rfl (by decide) (.slice xa OS.length xc) OS.length (OS.flatMap hcells) rfl (HOD.out.alloc _) ⟨wa.heap.size, 0, none⟩ 1 1 [.int .i64 kd, .slice a1 0 c1, .slice none 0 0, .bool op] rfl rfl (news_of (heap_alloc_new wa.drew _)) (by simp [Value.oneCell']) (by decide) (by unfold maxLen; have := HLEN.out; omega) (by have := HLEN.out; omega) HLE.out _ rfl ?_; intro g5 cc5 w5 hown5 hgr5 hat5 hlt5; have HNH := Lib.hid (hd_new HSC.out HNW.out.2.2.2 hgr5 hown5 hat5); have HR5 := Lib.hid HNH.out.2; have q4 : w5.cell? ⟨R, 4, none⟩ = some (.slice xa OS.length xc) := (by rw [cell_of_row _ _ 4 _ 165 _ HR5.out]; rfl); have p4 : w5.frozen? ⟨R, 4, none⟩ = false := frozen_of_row _ _ 4 _ 165 HR5.out; have o4 : R < w5.heap.size := (Array.getElem?_eq_some_iff.1 HR5.out).1; clear hown5 hgr5 hat5 hlt5)
          | fail)
      all_goals
        go_wp2
        go_meet
        case rel => exact ⟨rfl, _, _, Lib.hid HNH.out.1.1, Lib.hid HNH.out.1.2.1, Lib.hid (fun g e => by
          have e3 : g5 = g := by simpa [Value.ownBlock] using e
          rw [← e3]
          exact HNH.out.1.2.2)⟩
    case rest =>
      obtain ⟨rfl, xa5, xc5, HS5, HA5, HO5⟩ := hcut
      clear rc4 rd4 h0 h1 h2 h3
      obtain ⟨w6, rfl⟩ : ∃ w6 : World, w6 = wc := ⟨_, rfl⟩
      have HBa : Hid (B < wa.heap.size) := Lib.hid (Array.getElem?_eq_some_iff.1 HNW.out.1).1
      have HRM : Hid (R < w2.heap.size ∧ M < w2.heap.size ∧ ∀ g, (Value.slice xa OS.length xc).ownBlock = some g → g < w2.heap.size) := Lib.hid ⟨HS2.out.ltR, HS2.out.ltM, fun g e => (HS2.out.row.lt g e).2⟩
      have HT6 : Hid (w6.heap[w2.heap.size]? = some (.cells #[.int .i64 kd, .int .i64 ps, .string ⟨#[]⟩, .slice na 0 nc, .slice ka kn kc, .bool op] 152 (0, 0))) := Lib.hid ((HA5.out.block _ (Array.getElem?_eq_some_iff.1 HTC.out).1 (fun e => by have := HRM.out.1; omega) (fun e => by have := HRM.out.2.1; omega) (fun e => by have := HRM.out.2.2 _ e; omega)).trans HTC.out)
      have HBg : Hid (w2.heap.size < B) := Lib.hid (Nat.lt_of_lt_of_le HW24.out HNW.out.2.1)
      have HK0 : Hid (KMid w0 w w6 R M n B (.slice (some ⟨gn, 0, none⟩) 2 cn) (.slice (some ⟨gy, oy, none⟩) NN cy) f (Value.slice xa OS.length xc).ownBlock OS kd a1 c1 op i [] [] [] [] (D.put (keyI i) (.lit (.int .i64 (OS.length : Int)))) (fun x => if x = i then some OS.length else f x) xa5 xc5 none 0) := Lib.hid {
        vhs := rfl
        mks := by simpa [hd0] using HS5.out
        hd := ⟨(HA5.out.block B HBa.out (by have := HRM.out.1; have := HBg.out; omega) (by have := HRM.out.2.1; have := HBg.out; omega) (fun e => by have := HRM.out.2.2 _ e; have := HBg.out; omega)).trans HNW.out.1, World.ownsRow_nil _ _ _ _, Nat.le_trans HBW4.out HNW.out.2.1⟩
        sep := ⟨fun e => by
          rcases HO5.out _ e with q | q
          · have := HRM.out.2.2 _ q; have := HBg.out; omega
          · have := HBa.out; omega, fun y hy ad e => by
          rcases List.mem_append.1 (by simpa using hy : y ∈ OS ++ [hd0 kd a1 c1 op]) with q | q
          · have := (HS2.out.sep y q ad e).2.2.1
            exact ⟨by have := HBg.out; omega, fun e2 => by cases e2⟩
          · obtain rfl : y = hd0 kd a1 c1 op := by simpa using q
            rcases e with ⟨_, e2⟩ | ⟨_, e2⟩ <;> exact absurd rfl e2⟩
        dom := fun k hk => by
          by_cases e : k = i
          · exact .inr (.inl e)
          · simp only [e, if_false] at hk
            exact .inl hk
        act := HAC.out.trans HA5.out (fun g e => .inl e)
        ownn := fun n2 c2 g e => by
          rw [own_len xa5 n2 c2 0 0] at e
          rcases HO5.out g e with q | q
          · exact .inl q
          · exact .inr (Nat.le_trans HAC.out.size q)
        new := fun y hy => by cases hy
        nil := fun _ => rfl
        neR := HS.out.ltR
        neM := HS.out.ltM
        nz := HNW.out.2.2.2 }
      clear HS5 HA5 HO5 HSC HAC HTC HNW
      have HKI := Lib.hid HOK.out.1.kids
      have HKN : Hid (kn = cs.length) := Lib.hid (by have := HKI.out.1; rw [HKS.out] at this; simpa using this)
      have hkn : (kn : Int) ≤ 1000 := (by have := HOK.out.1.knb; simp only at this; omega)
      have t4 : w6.cell? ⟨w2.heap.size, 4, none⟩ = some (.slice ka kn kc) := (by rw [cell_of_row _ _ 4 _ 152 _ HT6.out]; rfl)
      go_upto_region 15 with (fail)
      clear t4
      go_loopw [85] (fun s85 wr => ∃ (j : Nat) (KN : List Hd) (D' : DataW Unit) (f' : Nat → Option Nat) (xa' : Option Addr) (xc' : Nat) (ka' : Option Addr) (kc' : Nat), j ≤ kn ∧ s85 = .int .i64 (j : Int) ∧ Hid (KMid w0 w wr R M n B (.slice (some ⟨gn, 0, none⟩) 2 cn) (.slice (some ⟨gy, oy, none⟩) NN cy) f (Value.slice xa OS.length xc).ownBlock OS kd a1 c1 op i ((cs.take j).flatMap (·.2.1)) ((cs.take j).flatMap (·.2.2)) (posl (OS.length + 1) cs j) KN D' f' xa' xc' ka' kc')) (fun s85 _ => kn - (intOf s85).toNat)
      case atStart => exact ⟨0, [], _, _, xa5, xc5, none, 0, Nat.zero_le _, rfl, HK0⟩
      case round =>
        clear HK0
        obtain ⟨j, KN, D1, f1, xa1, xc1, ka1, kc1, hj, rfl, HM⟩ := hrel
        have hwj : IntKind.i64.wrap ((j : Int) + 1) = (j : Int) + 1 := by rw [IntKind.wrap_i64]; omega
        obtain ⟨w7, rfl⟩ : ∃ w7 : World, w7 = wr := ⟨_, rfl⟩
        by_cases hjk : j < kn
        · have hjk2 : (j : Int) < kn := by omega
          obtain ⟨c, hc⟩ : ∃ c, cs[j]? = some c := ⟨_, List.getElem?_eq_getElem (by rw [← HKN.out]; exact hjk)⟩
          have hks : KS[j]? = some (c.1 : Int) := by rw [HKS.out, List.getElem?_map, hc]; rfl
          have HCC := Lib.hid hc
          obtain ⟨gq, oq, rfl, hgq, hcq⟩ := (HKI.out.on HM.out.mks.below).2.resolve_left (by omega)
          have ac := hcq j _ hks
          obtain ⟨p, hp⟩ : ∃ p : Int, p = ((OS ++ [hd0 kd a1 c1 op] ++ KN).length : Int) := ⟨_, rfl⟩
          have HPP := Lib.hid hp
          have HLE : Hid ((OS ++ [hd0 kd a1 c1 op] ++ KN).length = OS.length + 1 + offs cs j) := Lib.hid (by
            have h1 := congrArg List.length HM.out.vhs
            rw [List.length_map] at h1
            have h2 : KN.length = offs cs j := h1
            rw [List.length_append, List.length_append]
            simp only [List.length_cons, List.length_nil]
            omega)
          have HCL : Hid (Calls Tryz.prog 101 #[.pointer (some ⟨R, 0, none⟩), .int .i64 (c.1 : Int)] w7 (fun e w' => ∃ (NEW : List Hd) (D2 : DataW Unit) (f2 : Nat → Option Nat) (xa2 : Option Addr) (xc2 : Nat), e = .returned (.tuple #[.int .i64 p, .int .i64 0]) ∧ KMid w0 w w' R M n B (.slice (some ⟨gn, 0, none⟩) 2 cn) (.slice (some ⟨gy, oy, none⟩) NN cy) f (Value.slice xa OS.length xc).ownBlock OS kd a1 c1 op i ((cs.take (j + 1)).flatMap (·.2.1)) ((cs.take (j + 1)).flatMap (·.2.2)) (posl (OS.length + 1) cs j) (KN ++ NEW) D2 f2 xa2 xc2 ka1 kc1)) := Lib.hid (by
            refine (HKC.out j c HCC.out w7 _ D1 f1 xa1 xc1 _ HLE.out HM.out.mks (fun k hk => ?_) ?_).mono ?_
            · have hnd := HND.out
              rw [flat_all (fun c => c.2.2) HCC.out] at hnd
              have hmem : k ∈ i :: cs.flatMap (·.2.2) := List.mem_cons_of_mem _ (List.mem_flatMap.2 ⟨c, List.mem_of_getElem? HCC.out, hk⟩)
              cases hf1 : f1 k with
              | none => rfl
              | some v =>
                exfalso
                rcases HM.out.dom k (by rw [hf1]; simp) with q | q | q
                · exact q (HF.out k hmem)
                · subst q
                  have := (List.nodup_cons.1 hnd).1
                  simp [hk] at this
                · have h2 := (List.nodup_append.1 (List.nodup_append.1 (List.nodup_cons.1 hnd).2).1).2.2
                  exact h2 k q k hk rfl
            · have h1 := HN.out
              rw [flat_all (fun c => c.2.2) HCC.out] at h1
              simp only [List.length_append] at h1
              omega
            · rintro e w' ⟨NEW, D2, f2, xa2, xc2, rfl, v1, v2, v3, v4, v5, v6⟩
              refine ⟨NEW, D2, f2, xa2, xc2, by rw [HPP.out], ?_⟩
              rw [flat_take (fun c => c.2.1) HCC.out, flat_take (fun c => c.2.2) HCC.out]
              exact HM.out.call v1 v2 v3 v4 v5 v6)
          clear hp hc hks hcq hgq
          go_upto_region 20 with (go_at_call 101; (with_reducible refine HCL.out.mono ?_); rintro e w8 ⟨NEW, D2, f2, xa2, xc2, rfl, hm8⟩; have HM8 := Lib.hid hm8; clear hm8)
          clear ac
          have HPSL : Hid ((posl (OS.length + 1) cs j).length = j) := Lib.hid (posl_len _ _ _)
          have HPSN : Hid (posl (OS.length + 1) cs (j + 1) = posl (OS.length + 1) cs j ++ [p]) := Lib.hid (by rw [posl_succ, HPP.out, HLE.out])
          obtain ⟨PS, hPS⟩ : ∃ PS, posl (OS.length + 1) cs j = PS := ⟨_, rfl⟩
          rw [hPS] at HM8 HPSL
          have HPS := Lib.hid hPS
          clear hPS HM
          obtain ⟨i3, p3, q31, q32, q33⟩ := info_parts Tryz.info3
          have P3 := Lib.hid p3
          have Q31 := Lib.hid q31
          have Q32 := Lib.hid q32
          have Q33 := Lib.hid q33
          clear p3 q31 q32 q33
          have b2 : w8.cell? ⟨B, 2, none⟩ = some (.slice ka1 PS.length kc1) := (by rw [cell_of_row _ _ 2 _ 33 _ HM8.out.hd.box]; rfl)
          have HOA : Hid ((w8.alloc (.cells #[.int .i64 p] 3)).ownsRow w.heap.size 3 1 (.slice ka1 PS.length kc1) PS.length (PS.map (Value.int .i64))) := Lib.hid (HM8.out.hd.row.alloc _)
          have HWS : Hid (w.heap.size ≤ (w8.alloc (.cells #[.int .i64 p] 3)).heap.size) := Lib.hid (by have := HM8.out.act.size; simp; omega)
          go_wp2_with (at_builtin; refine wpList_append_lies _ rfl _ _ 31 rfl w.heap.size 3 i3 (.int .i64 0) 1 8 Tryz.underlying31 P3.out Q31.out Q32.out Q33.out rfl (by decide) (.slice ka1 PS.length kc1) PS.length (PS.map (Value.int .i64)) rfl HOA.out ⟨w8.heap.size, 0, none⟩ 1 1 [.int .i64 p] rfl rfl (news_of (heap_alloc_new w8 _)) (by simp [Value.oneCell']) (by decide) (by have := HPSL.out; unfold maxLen; omega) (by have := HPSL.out; omega) HWS.out _ rfl ?_; intro g9 cc9 w9 hown9 hgr9 hat9 hlt9; have HPU := Lib.hid (HM8.out.push hgr9 hown9 hat9); have q2 : w9.cell? ⟨B, 2, none⟩ = some (.slice ka1 PS.length kc1) := (by rw [cell_of_row _ _ 2 _ 33 _ HPU.out.2]; rfl); have p2 : w9.frozen? ⟨B, 2, none⟩ = false := frozen_of_row _ _ 2 _ 33 HPU.out.2; have o2 : B < w9.heap.size := (Array.getElem?_eq_some_iff.1 HPU.out.2).1; clear hown9 hgr9 hat9 hlt9)
          go_roundw
          case rel => exact ⟨j + 1, KN ++ NEW, D2, f2, xa2, xc2, some ⟨g9, 0, none⟩, cc9, by omega, by go_num, Lib.hid (by rw [HPSN.out, HPS.out]; exact HPU.out.1)⟩
          case measure => simp [intOf]; omega
        · have hjk2 : ¬ (j : Int) < kn := by omega
          obtain rfl : j = cs.length := by have := HKN.out; omega
          have HPSL : Hid ((posl (OS.length + 1) cs cs.length).length = cs.length) := Lib.hid (posl_len _ _ _)
          have HKN2 : Hid (cs.length ≤ 1000) := Lib.hid (by omega)
          rw [List.take_length] at HM
          obtain ⟨PS, hPS⟩ : ∃ PS, posl (OS.length + 1) cs cs.length = PS := ⟨_, rfl⟩
          have HPS := Lib.hid hPS
          rw [hPS] at HM HPSL
          clear hPS
          obtain ⟨gx, rfl⟩ : ∃ gx, xa1 = some ⟨gx, 0, none⟩ := by
            rcases HM.out.mks.row.2 with ⟨_, e2⟩ | ⟨g, cap, cur, e, -⟩
            · simp at e2
            · cases e; exact ⟨g, rfl⟩
          have HMD := Lib.hid (HM.out.on (Below.refl _ _).drew)
          have HFN := Lib.hid (HMD.out.fin (by have := HPSL.out; have := HKN2.out; omega) rfl)
          have HTHR : Hid (w7.drew.there gx (OS.length * 4) 4) := Lib.hid (fun q hq => by
            have hl : OS.length * 4 + q < (OS ++ [hd0 kd a1 c1 op] ++ KN).length * 4 := by
              rw [List.length_append, List.length_append]; simp only [List.length_cons, List.length_nil]; omega
            refine ⟨?_, HMD.out.mks.row.frozenAt _⟩
            rw [HMD.out.mks.row.cellAt _ hl, List.getElem?_eq_getElem (by rw [HMD.out.mks.row.1]; exact hl)]
            rfl)
          obtain ⟨LN, hLN⟩ : ∃ LN, (OS ++ [hd0 kd a1 c1 op] ++ KN).length = LN := ⟨_, rfl⟩
          have hLT : (OS.length : Int) < LN := by
            rw [← hLN, List.length_append, List.length_append]; simp only [List.length_cons, List.length_nil]; omega
          have hLT0 : OS.length < LN := by omega
          have b0 : w7.cell? ⟨B, 0, none⟩ = some (.int .i64 kd) := (by rw [cell_of_row _ _ 0 _ 33 _ HM.out.hd.box]; rfl)
          have b1 : w7.cell? ⟨B, 1, none⟩ = some (.slice a1 0 c1) := (by rw [cell_of_row _ _ 1 _ 33 _ HM.out.hd.box]; rfl)
          have b2 : w7.cell? ⟨B, 2, none⟩ = some (.slice ka1 PS.length kc1) := (by rw [cell_of_row _ _ 2 _ 33 _ HM.out.hd.box]; rfl)
          have b3 : w7.cell? ⟨B, 3, none⟩ = some (.bool op) := (by rw [cell_of_row _ _ 3 _ 33 _ HM.out.hd.box]; rfl)
          have r4 : w7.cell? ⟨R, 4, none⟩ = some (.slice (some ⟨gx, 0, none⟩) LN xc1) := (by rw [cell_of_row _ _ 4 _ 165 _ HM.out.mks.box]; simp [← hLN])
          clear hLN
          go_upto_region 24 with (fail)
          go_still_tail 7, (by kernel_rfl)
          refine wpList_store_mid (w := w7.drew) rfl 33 _ _ rfl gx (OS.length * 4) #[.int .i64 kd, .slice a1 0 c1, .slice ka1 PS.length kc1, .bool op] rfl rfl HTHR.out (by kernel_rfl) (by simp [Value.oneCell']) ?_
          obtain ⟨wz, hwz⟩ : ∃ wz, w7.drew.setCells gx (OS.length * 4) (hcells (hdE kd a1 c1 op ka1 kc1 PS)) = wz := ⟨_, rfl⟩
          have hwz2 : w7.drew.setCells gx (OS.length * 4) (#[.int .i64 kd, .slice a1 0 c1, .slice ka1 PS.length kc1, .bool op] : Array Value).toList = wz := hwz
          rw [hwz] at HFN
          rw [hwz2]
          clear hwz hwz2 b0 b1 b2 b3 r4
          go_wp2
          go_ret2
          exact ⟨hdE kd a1 c1 op ka1 kc1 PS :: KN, D1, f1, some ⟨gx, 0, none⟩, xc1, rfl, by rw [List.map_cons, HM.out.vhs, HPS.out]; rfl, HFN.out.1, HFN.out.2, HM.out.ownn, fun y hy ad e => by
            rcases List.mem_cons.1 hy with rfl | q
            · rcases e with ⟨_, e2⟩ | ⟨e1, e2⟩
              · exact absurd rfl e2
              · exact (HM.out.hd.row.lt ad.block (by rw [show ka1 = some ad from e1]; rfl)).1
            · exact HM.out.new y q ad e, fun k hk => by
            rcases HM.out.dom k hk with q | q | q
            · exact .inl q
            · exact .inr (by rw [q]; exact List.mem_cons_self)
            · exact .inr (List.mem_cons_of_mem _ q)⟩
end Go.Proofs.YtifilhkkgkihpaaGreatDoor
