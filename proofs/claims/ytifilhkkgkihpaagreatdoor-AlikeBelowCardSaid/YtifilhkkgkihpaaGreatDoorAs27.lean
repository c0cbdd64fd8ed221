/- Plain: the worlds of an asker (of alike, of below): its box, its map of pairs, its row of pairs left. -/
import Derived.Test.YtifilhkkgkihpaaGreatDoorAs06
import Derived.Test.YtifilhkkgkihpaaGreatDoorAs21
import Derived.Test.YtifilhkkgkihpaaGreatDoorAs26
import Derived.WalkSmall
set_option linter.unusedSimpArgs false
set_option linter.unusedVariables false
set_option linter.unusedSimpArgs false
set_option linter.unusedVariables false
namespace Go.Proofs.YtifilhkkgkihpaaGreatDoor
open Go.RowKit
/-- the numbers of an asker's types, and how a pair lies. -/
structure AK (α : Type) where
  TB : TypeId
  TP : TypeId
  sz : Nat
  kl : α → Lit
  ok : α → Prop
  pc : α → List Value
  len : ∀ x, (pc x).length = sz
  ne : TP ≠ TB
  cap : Nat
  code : α → Nat
  codelt : ∀ x, ok x → code x < cap
  inj : ∀ x y, ok x → ok y → code x = code y → x = y
  capLe : cap ≤ 100000
theorem nodup_map_on {α β : Type} {f : α → β} : ∀ {l : List α}, l.Nodup → (∀ a ∈ l, ∀ b ∈ l, f a = f b → a = b) → (l.map f).Nodup
  | [], _, _ => by simp
  | x :: l, h, hi => by
    obtain ⟨h1, h2⟩ := List.nodup_cons.1 h
    rw [List.map_cons, List.nodup_cons]
    refine ⟨fun hm => ?_, nodup_map_on h2 (fun a ha b hb => hi a (by simp [ha]) b (by simp [hb]))⟩
    obtain ⟨y, hy, e⟩ := List.mem_map.1 hm
    exact h1 (hi x (by simp) y (by simp [hy]) e.symm ▸ hy)
theorem AK.len_le {α : Type} (K : AK α) {l : List α} (hn : l.Nodup) (ho : ∀ x ∈ l, K.ok x) : l.length ≤ K.cap := by
  have := nodup_len K.cap (l.map K.code) (nodup_map_on hn (fun a ha b hb e => K.inj a b (ho a ha) (ho b hb) e)) (fun x hx => by
    obtain ⟨y, hy, rfl⟩ := List.mem_map.1 hx
    exact K.codelt y (ho y hy))
  simpa using this
theorem WkN.lenS {α : Type} {K : AK α} {SL : List α × List α} (h : WkN K.ok SL) : SL.1.length ≤ K.cap := K.len_le h.ndS h.okS
theorem WkN.lenL {α : Type} {K : AK α} {SL : List α × List α} (h : WkN K.ok SL) : SL.2.length ≤ K.cap := K.len_le h.ndL (fun x hx => h.okS x (h.sub x hx))
/-- all blocks of cells but the box and rows of pairs are as they were. -/
def Kp (TP : TypeId) (R : Nat) (w w' : World) : Prop := w.heap.size ≤ w'.heap.size ∧ ∀ (b : Nat) (cs : Array Value) (T : TypeId) (fr : Nat × Nat), b ≠ R → T ≠ TP → w.heap[b]? = some (.cells cs T fr) → w'.heap[b]? = some (.cells cs T fr)
theorem Kp.refl (TP : TypeId) (R : Nat) (w : World) : Kp TP R w w := ⟨Nat.le_refl _, fun _ _ _ _ _ _ h => h⟩
theorem Kp.trans {TP : TypeId} {R : Nat} {w w' w2 : World} (h : Kp TP R w w') (k : Kp TP R w' w2) : Kp TP R w w2 := ⟨Nat.le_trans h.1 k.1, fun b cs T fr h1 h2 h3 => k.2 b cs T fr h1 h2 (h.2 b cs T fr h1 h2 h3)⟩
theorem Kp.of_below {TP : TypeId} {R : Nat} {w w' : World} (h : Below w.heap.size w w') : Kp TP R w w' := ⟨h.size, fun b cs T fr _ _ h3 => (h.block b (Array.getElem?_eq_some_iff.1 h3).1).trans h3⟩
/-- the asker's box at R, its map at M, what was asked S, what is left L; wl: the world behind which its rows lie. -/
structure AkS {α : Type} [DecidableEq α] (K : AK α) (w0 wl w : World) (R M : Nat) (C0 C1 : Value) (D : DataW Unit) (S : List α) (xa : Option Addr) (xc : Nat) (L : List α) : Prop where
  below : Below w0.heap.size w0 w
  lsize : wl.heap.size ≤ w.heap.size
  keep : ∀ b, b < wl.heap.size → b ≠ R → b ≠ M → w.heap[b]? = wl.heap[b]?
  box : w.heap[R]? = some (.cells #[C0, C1, .map (some M), .slice xa L.length xc] K.TB (0, 0))
  map : w.ownsMap Tryz.prog K.TP (plainElem (H := Unit) Tryz.prog 4) M S.length D
  mapb : SetP K.kl K.ok D S
  row : w.ownsRow wl.heap.size K.TP K.sz (.slice xa L.length xc) L.length (L.flatMap K.pc)
  geR : w0.heap.size ≤ R
  geM : w0.heap.size ≤ M
  lR : R < wl.heap.size
  lM : M < wl.heap.size
  le : w0.heap.size ≤ wl.heap.size
section
variable {α : Type} [DecidableEq α] {K : AK α} {w0 wl w w' : World} {R M : Nat} {C0 C1 : Value} {D : DataW Unit} {S : List α} {xa : Option Addr} {xc : Nat} {L : List α}
theorem AkS.ltR (h : AkS K w0 wl w R M C0 C1 D S xa xc L) : R < w.heap.size := (Array.getElem?_eq_some_iff.1 h.box).1
theorem AkS.ltM (h : AkS K w0 wl w R M C0 C1 D S xa xc L) : M < w.heap.size := h.map.lt
theorem AkS.notM (h : AkS K w0 wl w R M C0 C1 D S xa xc L) {b : Nat} {cs : Array Value} {T : TypeId} {fr : Nat × Nat} (hb : w.heap[b]? = some (.cells cs T fr)) : b ≠ M := fun e => by
  obtain ⟨es, cl, hm, _⟩ := h.map
  rw [e, hm] at hb
  cases hb
theorem AkS.RM (h : AkS K w0 wl w R M C0 C1 D S xa xc L) : R ≠ M := h.notM h.box
theorem AkS.ownR (h : AkS K w0 wl w R M C0 C1 D S xa xc L) : (Value.slice xa L.length xc).ownBlock ≠ some R := own_boxP h.row h.box K.ne
theorem AkS.ownM (h : AkS K w0 wl w R M C0 C1 D S xa xc L) : (Value.slice xa L.length xc).ownBlock ≠ some M := fun e => by
  obtain ⟨es, cl, hm, _⟩ := h.map
  rcases h.row.2 with ⟨h1, -⟩ | ⟨g, cap, cur, h1, e2, e3, -⟩
  · rw [h1] at e; cases e
  · rw [h1] at e
    cases e
    rw [hm] at e3
    cases e3
theorem AkS.c0 (h : AkS K w0 wl w R M C0 C1 D S xa xc L) : w.cell? ⟨R, 0, none⟩ = some C0 := by rw [cell_of_row _ _ 0 _ _ _ h.box]; rfl
theorem AkS.c1 (h : AkS K w0 wl w R M C0 C1 D S xa xc L) : w.cell? ⟨R, 1, none⟩ = some C1 := by rw [cell_of_row _ _ 1 _ _ _ h.box]; rfl
theorem AkS.c2 (h : AkS K w0 wl w R M C0 C1 D S xa xc L) : w.cell? ⟨R, 2, none⟩ = some (.map (some M)) := by rw [cell_of_row _ _ 2 _ _ _ h.box]; rfl
theorem AkS.c3 (h : AkS K w0 wl w R M C0 C1 D S xa xc L) : w.cell? ⟨R, 3, none⟩ = some (.slice xa L.length xc) := by rw [cell_of_row _ _ 3 _ _ _ h.box]; rfl
theorem AkS.f3 (h : AkS K w0 wl w R M C0 C1 D S xa xc L) (j : Nat) : w.frozen? ⟨R, j, none⟩ = false := frozen_of_row _ _ j _ _ h.box
theorem AkS.on (h : AkS K w0 wl w R M C0 C1 D S xa xc L) (hb : Below w.heap.size w w') : AkS K w0 wl w' R M C0 C1 D S xa xc L where
  below := h.below.trans (hb.mono h.below.size)
  lsize := Nat.le_trans h.lsize hb.size
  keep b h1 h2 h3 := (hb.block b (Nat.lt_of_lt_of_le h1 h.lsize)).trans (h.keep b h1 h2 h3)
  box := (hb.block R h.ltR).trans h.box
  map := h.map.kept (row := none) ⟨hb.os, hb.tape, hb.output, hb.size, fun j hj _ => hb.block j hj⟩ (by simp)
  mapb := h.mapb
  row := ownsRow_mono h.row (fun g hg => hb.block g (h.row.lt g hg).2)
  geR := h.geR
  geM := h.geM
  lR := h.lR
  lM := h.lM
  le := h.le
/-- the map is turned. -/
theorem AkS.upd (h : AkS K w0 wl w R M C0 C1 D S xa xc L) (hg : w.grownBy w' (some M)) {D' : DataW Unit} {S' : List α} (hm : w'.ownsMap Tryz.prog K.TP (plainElem (H := Unit) Tryz.prog 4) M S'.length D') (hf : SetP K.kl K.ok D' S') : AkS K w0 wl w' R M C0 C1 D' S' xa xc L ∧ Kp K.TP R w w' := by
  refine ⟨{
    below := below_grow h.below hg h.below.size (fun k e => by cases e; exact h.geM)
    lsize := Nat.le_trans h.lsize hg.size
    keep := fun b h1 h2 h3 => (hg.block b (Nat.lt_of_lt_of_le h1 h.lsize) (fun e => h3 (by cases e; rfl))).trans (h.keep b h1 h2 h3)
    box := (hg.block R h.ltR (fun e => h.RM (by cases e; rfl))).trans h.box
    map := hm
    mapb := hf
    row := h.row.kept hg (.inr (fun e => h.ownM e))
    geR := h.geR
    geM := h.geM
    lR := h.lR
    lM := h.lM
    le := h.le }, hg.size, fun b cs T fr h1 h2 h3 => ?_⟩
  exact (hg.block b (Array.getElem?_eq_some_iff.1 h3).1 (fun e => h.notM h3 (by cases e; rfl))).trans h3
/-- a pair more is left. -/
theorem AkS.push (h : AkS K w0 wl w R M C0 C1 D S xa xc L) {x : α} {wd : World} (hd : Below w.heap.size w wd) {o : Obj} {w6 : World} {g6 c6 : Nat}
    (hg : (wd.alloc o).grownBy w6 (Value.slice xa L.length xc).ownBlock) (hown : w6.ownsRow wl.heap.size K.TP K.sz (.slice (some ⟨g6, 0, none⟩) (L.length + 1) c6) (L.length + 1) (L.flatMap K.pc ++ K.pc x)) (hw : (Value.slice xa L.length xc).ownBlock = some g6 ∨ g6 = (wd.alloc o).heap.size) :
    (AkS K w0 wl (w6.setCell ⟨R, 3, none⟩ (.slice (some ⟨g6, 0, none⟩) (L.length + 1) c6)) R M C0 C1 D S (some ⟨g6, 0, none⟩) c6 (L ++ [x]) ∧
    Kp K.TP R w (w6.setCell ⟨R, 3, none⟩ (.slice (some ⟨g6, 0, none⟩) (L.length + 1) c6))) ∧ w6.heap[R]? = some (.cells #[C0, C1, .map (some M), .slice xa L.length xc] K.TB (0, 0)) := by
  have hbd : Below w.heap.size w (wd.alloc o) := hd.alloc hd.size _
  have hsd : (wd.alloc o).heap.size = wd.heap.size + 1 := by simp
  have hds := hd.size
  have hRl := h.ltR
  have hMl := h.ltM
  have hlo : ∀ b, b < w.heap.size → (Value.slice xa L.length xc).ownBlock ≠ some b → w6.heap[b]? = w.heap[b]? := fun b hb e => by
    rw [hg.block b (by omega) (fun e' => e e'.symm)]
    exact hbd.block b hb
  have hR6 := (hlo R hRl h.ownR).trans h.box
  have hsz : w.heap.size ≤ w6.heap.size := Nat.le_trans hbd.size hg.size
  have hgs := hg.size
  have hkeep : ∀ b, b < w.heap.size → b ≠ R → (Value.slice xa L.length xc).ownBlock ≠ some b → (w6.setCell ⟨R, 3, none⟩ (.slice (some ⟨g6, 0, none⟩) (L.length + 1) c6)).heap[b]? = w.heap[b]? := fun b hb h1 h2 => by
    rw [Below.heap_setCell _ _ _ _ h1]
    exact hlo b hb h2
  have hgb : ∀ b, b < w.heap.size → (Value.slice xa L.length xc).ownBlock ≠ some b → g6 ≠ b := fun b hb hne e => by
    rcases hw with r | r
    · exact hne (by rw [r, e])
    · omega
  have howl : ∀ g, (Value.slice xa L.length xc).ownBlock = some g → wl.heap.size ≤ g ∧ g < w.heap.size := fun g e => h.row.lt g e
  have hbs := h.below.size
  have hls := h.lsize
  have hle := h.le
  have e1 : (L ++ [x]).length = L.length + 1 := by simp
  refine ⟨⟨{
      below := ⟨hg.os.trans (hbd.os.trans h.below.os), hg.tape.trans (hbd.tape.trans h.below.tape), hg.output.trans (hbd.output.trans h.below.output), by simpa using Nat.le_trans hbs hsz, fun b hb => by
        rw [hkeep b (by omega) (fun e => by have := h.geR; omega) (fun e => by have := howl _ e; omega)]
        exact h.below.block b hb⟩
      lsize := by simpa using Nat.le_trans hls hsz
      keep := fun b h1 h2 h3 => by
        rw [hkeep b (by omega) h2 (fun e => by have := howl _ e; omega)]
        exact h.keep b h1 h2 h3
      box := by
        rw [e1, heap_setCell_same _ R 3 _ _ _ hR6]
        rfl
      map := ((h.map.kept (row := none) ⟨hbd.os, hbd.tape, hbd.output, hbd.size, fun j hj _ => hbd.block j hj⟩ (by simp)).kept hg (fun e => h.ownM e.symm)).setCell (a := ⟨R, 3, none⟩) (fun e => h.RM e.symm) _
      mapb := h.mapb
      row := by
        rw [e1, List.flatMap_append]
        have := ownsRow_mono (w' := w6.setCell ⟨R, 3, none⟩ (.slice (some ⟨g6, 0, none⟩) (L.length + 1) c6)) hown (fun g e => by
          cases e
          exact Below.heap_setCell _ _ _ _ (hgb R hRl h.ownR))
        simpa using this
      geR := h.geR
      geM := h.geM
      lR := h.lR
      lM := h.lM
      le := h.le }, by simpa using hsz, fun b cs T fr h1 h2 h3 => ?_⟩, hR6⟩
  rw [hkeep b (Array.getElem?_eq_some_iff.1 h3).1 h1 (own_boxP h.row h3 (fun e => h2 e.symm))]
  exact h3
/-- the last pair is taken. -/
theorem AkS.pop {x : α} (h : AkS K w0 wl w R M C0 C1 D S xa xc (L ++ [x])) :
    AkS K w0 wl (w.setCell ⟨R, 3, none⟩ (.slice xa L.length xc)) R M C0 C1 D S xa xc L ∧ Kp K.TP R w (w.setCell ⟨R, 3, none⟩ (.slice xa L.length xc)) := by
  have hRl := h.ltR
  have hoR := h.ownR
  have e1 : (L ++ [x]).length = L.length + 1 := by simp
  have hrow : w.ownsRow wl.heap.size K.TP K.sz (.slice xa L.length xc) L.length (L.flatMap K.pc) := by
    have h1 := h.row
    rw [e1, List.flatMap_append] at h1
    have hl : (L.flatMap K.pc).length = L.length * K.sz := by
      clear h1 hoR hRl h e1
      induction L with
      | nil => simp
      | cons y L ih => rw [List.flatMap_cons, List.length_append, ih, K.len, List.length_cons, Nat.succ_mul]; omega
    rcases h1.2 with ⟨h2, -⟩ | ⟨g, cap, cur, h2, -⟩
    · cases h2
    · cases h2
      exact ownsRow_pop hl h1
  refine ⟨{ below := ?_, lsize := ?_, keep := ?_, box := ?_, map := h.map.setCell (a := ⟨R, 3, none⟩) (fun e => h.RM e.symm) _, mapb := h.mapb, row := ?_, geR := h.geR, geM := h.geM, lR := h.lR, lM := h.lM, le := h.le }, by simp, fun b cs T fr h1 h2 h3 => ?_⟩
  · exact ⟨h.below.os, h.below.tape, h.below.output, by simpa using h.below.size, fun b hb => by
      rw [Below.heap_setCell _ _ _ _ (fun e => by have := h.geR; have e2 : b = R := e; omega)]
      exact h.below.block b hb⟩
  · simpa using h.lsize
  · intro b h1 h2 h3
    rw [Below.heap_setCell _ _ _ _ h2]
    exact h.keep b h1 h2 h3
  · rw [heap_setCell_same _ R 3 _ _ _ h.box]
    rfl
  · refine ownsRow_mono hrow (fun g e => Below.heap_setCell _ _ _ _ (fun e2 => hoR ?_))
    cases xa with
    | none => cases e
    | some ad => cases e; simp [Value.ownBlock, e2]
  · rw [Below.heap_setCell _ _ _ _ h1]
    exact h3
/-- an asker as it lies, what was asked and what is left. -/
def AkT (K : AK α) (w0 wl : World) (R M : Nat) (C0 C1 : Value) (w : World) (SL : List α × List α) : Prop := WkN K.ok SL ∧ ∃ (D : DataW Unit) (xa : Option Addr) (xc : Nat), AkS K w0 wl w R M C0 C1 D SL.1 xa xc SL.2
theorem AkT.on {SL : List α × List α} (h : AkT K w0 wl R M C0 C1 w SL) (hb : Below w.heap.size w w') : AkT K w0 wl R M C0 C1 w' SL := by
  obtain ⟨h1, D, xa, xc, h2⟩ := h
  exact ⟨h1, D, xa, xc, h2.on hb⟩
theorem AkT.below {SL : List α × List α} (h : AkT K w0 wl R M C0 C1 w SL) : Below w0.heap.size w0 w := by
  obtain ⟨h1, D, xa, xc, h2⟩ := h
  exact h2.below
theorem AkT.keep {SL : List α × List α} (h : AkT K w0 wl R M C0 C1 w SL) : ∀ b, b < wl.heap.size → b ≠ R → b ≠ M → w.heap[b]? = wl.heap[b]? := by
  obtain ⟨h1, D, xa, xc, h2⟩ := h
  exact h2.keep
theorem AkT.lsize {SL : List α × List α} (h : AkT K w0 wl R M C0 C1 w SL) : wl.heap.size ≤ w.heap.size := by
  obtain ⟨h1, D, xa, xc, h2⟩ := h
  exact h2.lsize
theorem AkT.c0 {SL : List α × List α} (h : AkT K w0 wl R M C0 C1 w SL) : w.cell? ⟨R, 0, none⟩ = some C0 := by
  obtain ⟨h1, D, xa, xc, h2⟩ := h
  exact h2.c0
theorem AkT.c1 {SL : List α × List α} (h : AkT K w0 wl R M C0 C1 w SL) : w.cell? ⟨R, 1, none⟩ = some C1 := by
  obtain ⟨h1, D, xa, xc, h2⟩ := h
  exact h2.c1
theorem AkT.box {SL : List α × List α} (h : AkT K w0 wl R M C0 C1 w SL) : ∃ cs, w.heap[R]? = some (.cells cs K.TB (0, 0)) := by
  obtain ⟨h1, D, xa, xc, h2⟩ := h
  exact ⟨_, h2.box⟩
end
/-- alike's asker. -/
def pcA (p : Nat × Nat) : List Value := [.int .i64 (p.1 : Int), .int .i64 (p.2 : Int)]
abbrev akA : AK (Nat × Nat) where
  TB := 137
  TP := 141
  sz := 2
  kl := klA
  ok := okA
  pc := pcA
  len _ := rfl
  ne := by decide
  cap := 90000
  code p := p.1 * 300 + p.2
  codelt p h := by have h1 := h.1; have h2 := h.2; omega
  inj p q hp hq e := by
    obtain ⟨a, b⟩ := p
    obtain ⟨c, d⟩ := q
    have h1 := hp.1; have h2 := hp.2; have h3 := hq.1; have h4 := hq.2
    simp only at e h1 h2 h3 h4
    exact Prod.ext (by simp only; omega) (by simp only; omega)
  capLe := by decide
/-- below's asker. -/
def pcB (p : Nat × Nat × Bool) : List Value := [.int .i64 (p.1 : Int), .int .i64 (p.2.1 : Int), .bool p.2.2]
abbrev akB : AK (Nat × Nat × Bool) where
  TB := 123
  TP := 126
  sz := 3
  kl := klB
  ok := okB
  pc := pcB
  len _ := rfl
  ne := by decide
  cap := 45000
  code p := (p.1 * 150 + p.2.1) * 2 + p.2.2.toNat
  codelt p h := by have h1 := h.1; have h2 := h.2; have h3 := Bool.toNat_le p.2.2; omega
  inj p q hp hq e := by
    obtain ⟨a, b, s⟩ := p
    obtain ⟨c, d, t⟩ := q
    have h1 := hp.1; have h2 := hp.2; have h3 := hq.1; have h4 := hq.2
    simp only at e h1 h2 h3 h4
    have hs := Bool.toNat_le s
    have ht := Bool.toNat_le t
    have e3 : s.toNat = t.toNat := by omega
    have e4 : s = t := by cases s <;> cases t <;> simp_all
    subst e4
    exact Prod.ext (by simp only; omega) (Prod.ext (by simp only; omega) rfl)
  capLe := by decide
end Go.Proofs.YtifilhkkgkihpaaGreatDoor
