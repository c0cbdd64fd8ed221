/- Walks: slices.Clone of ints and the clone of a head, with the row that they own. Plain: the worlds of arena.Graph. Walks: arena.Graph. Walks: arena.At. -/
import Derived.Test.YtifilhkkgkihpaaGreatDoorGr10
import Derived.Deep.RegionLaw
set_option linter.unusedSimpArgs false
set_option linter.unusedVariables false
set_option linter.unusedSimpArgs false
set_option linter.unusedVariables false
namespace Go.Proofs.YtifilhkkgkihpaaGreatDoor
open Go.RowKit
theorem own_ints {w : World} {base : Nat} {b : Option Addr} {n d : Nat} {KS : List Int} (h : w.ownsRow base 3 1 (.slice b n d) n (KS.map (Value.int .i64))) : IntsAt w b n KS := by
  have hl : n = KS.length := by have := h.1; simp at this; omega
  refine ⟨hl, ?_⟩
  rcases h.2 with ⟨_, h0⟩ | ⟨g, cap, cur, e', hb', hg', -⟩
  · exact .inl h0
  · have ea : b = some ⟨g, 0, none⟩ := by injection e'
    subst ea
    refine .inr ⟨g, 0, rfl, (Array.getElem?_eq_some_iff.1 hg').1, fun i s hs => ?_⟩
    have hil := (List.getElem?_eq_some_iff.1 hs).1
    rw [h.cellAt (0 + i) (by omega), Nat.zero_add, List.getElem?_map, hs]
    rfl
/-- a row as it lies elsewhere, of another base. -/
theorem own_move {w w' : World} {base base' : Nat} {e : TypeId} {size n : Nat} {v : Value} {xs : List Value} (h : w.ownsRow base e size v n xs) (hk : ∀ g, v.ownBlock = some g → w'.heap[g]? = w.heap[g]? ∧ base' ≤ g) : w'.ownsRow base' e size v n xs := by
  refine ⟨h.1, h.2.imp id ?_⟩
  rintro ⟨g, cap, cur, rfl, h1, h2, h3⟩
  obtain ⟨k1, k2⟩ := hk g rfl
  exact ⟨g, cap, cur, rfl, k2, k1.trans h2, h3⟩
set_option maxRecDepth 20000 in
set_option maxHeartbeats 2000000 in
theorem clone_45o (w : World) (a : Option Addr) (n c : Nat) (XS : List Int) (h : IntsAt w a n XS) (hc : a = none → c = 0) (hn : n ≤ 100000) :
    Calls Tryz.prog 67 #[.slice a n c] w fun e w' => ∃ a' c', e = .returned (.slice a' n c') ∧ w'.ownsRow w.heap.size 3 1 (.slice a' n c') n (XS.map (Value.int .i64)) ∧ (a' = none → c' = 0) ∧ (∀ ad, a' = some ad → w.heap.size ≤ ad.block) ∧ Below w.heap.size w w' := by
  cases a with
  | none =>
    have hc0 := hc rfl
    subst hc0
    have hn0 : n = 0 := h.2.elim id (fun ⟨g, o, e, _⟩ => by cases e)
    subst hn0
    have HH := Lib.hid h
    clear h
    have hq := Lib.run_eql_slice_nil (P := Tryz.prog) w 31 3 none 0 0 0 0 Tryz.underlying31
    simp only [Option.isNone] at hq
    go_enter Tryz.func67, Tryz.ntmps67
    go_wp2
    go_ret
    exact ⟨none, 0, rfl, (by have h0 : XS = [] := List.length_eq_zero_iff.1 HH.out.1.symm; rw [h0]; exact ⟨rfl, .inl ⟨rfl, rfl⟩⟩), fun _ => rfl, fun _ e => (by cases e), Below.refl _ _⟩
  | some ad =>
    obtain ⟨i0, hi, hz0, hz1, hz2⟩ := info_parts Tryz.info3b
    have HH := Lib.hid h
    have hown0 : (w.alloc (.cells #[] 3)).ownsRow w.heap.size 3 1 (.slice (some ⟨w.heap.size, 0, none⟩) 0 0) 0 [] := World.ownsRow_made w #[] 0 (Nat.le_refl _) (by decide) rfl
    have HO := Lib.hid hown0
    have HN : Hid (∀ j u, (XS.map (fun k => Value.int .i64 k))[j]? = some u → (w.alloc (.cells #[] 3)).cell? (ad.add j) = some u) := Lib.hid (by
      intro j u hj
      rcases h.2 with h0 | ⟨g, o, e, hg, hcell⟩
      · have := h.1
        rw [h0] at this
        have : XS = [] := List.length_eq_zero_iff.1 this.symm
        subst this
        simp at hj
      · cases e
        rw [List.getElem?_map] at hj
        cases hx : XS[j]? with
        | none => rw [hx] at hj; simp at hj
        | some x =>
          rw [hx] at hj
          simp only [Option.map_some, Option.some.injEq] at hj
          subst hj
          rw [show ((⟨g, o, none⟩ : Addr).add j) = ⟨g, o + j, none⟩ from by unfold Addr.add; split <;> simp_all, ← hcell j x hx]
          exact ((Below.refl w.heap.size w).alloc (Nat.le_refl _) _).cell (p := ⟨g, o + j, none⟩) hg)
    have HL : Hid ((XS.map (fun k => Value.int .i64 k)).length = n * 1) := Lib.hid (by rw [List.length_map, h.1, Nat.mul_one])
    have HONE : Hid (∀ u ∈ XS.map (fun k => Value.int .i64 k), u.oneCell' = true) := Lib.hid (by
      intro u hu
      obtain ⟨x, _, rfl⟩ := List.mem_map.1 hu
      rfl)
    clear h hown0
    have hq := Lib.run_eql_slice_nil (P := Tryz.prog) w 31 3 (some ad) n c 0 0 Tryz.underlying31
    simp only [Option.isNone] at hq
    go_enter Tryz.func67, Tryz.ntmps67
    go_wp2_with (at_builtin; refine wpList_append_own _ rfl _ _ 31 rfl w.heap.size 3 i0 (.int .i64 0) 1 8 Tryz.underlying31 hi hz0 hz1 hz2 rfl (by decide) _ 0 _ rfl HO.out ad n c (XS.map (fun k => Value.int .i64 k)) rfl HL.out HN.out HONE.out (by unfold maxLen; omega) (by omega) (by simp) ?_; intro v' w5 hown hgr hnil)
    go_ret
    obtain ⟨a', c', rfl⟩ := own_slice hown
    have hlen := HH.out.1
    rw [Nat.zero_add] at hown
    simp only [List.nil_append] at hown
    refine ⟨a', c', by simp, hown, ?_, fun ad' e => (hown.lt ad'.block (by rw [e]; rfl)).1, ((Below.refl _ _).alloc (Nat.le_refl _) _).grown hgr (by simp) (fun q hq => by cases hq; exact Nat.le_refl _)⟩
    · intro e
      subst e
      rcases hown.2 with ⟨e', _⟩ | ⟨g, cap, cur, e', _⟩
      · injection e'
      · injection e' with e1
        cases e1
def ClonePostO (w : World) (kd : Int) (nn : Nat) (NS : List ByteArray) (kn : Nat) (KS : List Int) (op : Bool) (e : Ending) (w' : World) : Prop :=
  ∃ a' c' b' d', e = .returned (.agg #[.int .i64 kd, .slice a' nn c', .slice b' kn d', .bool op]) ∧ NamesAt w' a' nn NS ∧ w'.ownsRow w.heap.size 3 1 (.slice b' kn d') kn (KS.map (Value.int .i64)) ∧ (∀ ad bd, a' = some ad → nn ≠ 0 → b' = some bd → ad.block ≠ bd.block) ∧ (a' = none → c' = 0) ∧ (b' = none → d' = 0) ∧ (∀ ad, a' = some ad → w.heap.size ≤ ad.block) ∧ (∀ ad, b' = some ad → w.heap.size ≤ ad.block) ∧ Below w.heap.size w w'
set_option maxRecDepth 20000 in
set_option maxHeartbeats 4000000 in
theorem clone_heado (w : World) (kd : Int) (na : Option Addr) (nn nc : Nat) (NS : List ByteArray) (ka : Option Addr) (kn kc : Nat) (KS : List Int) (op : Bool) (hN : NamesAt w na nn NS) (hK : IntsAt w ka kn KS) (hn : nn ≤ 100000) (hk : kn ≤ 100000) (hnc : na = none → nc = 0) (hkc : ka = none → kc = 0) :
    Calls Tryz.prog 66 #[.agg #[.int .i64 kd, .slice na nn nc, .slice ka kn kc, .bool op]] w (ClonePostO w kd nn NS kn KS op) := by
  have HN := Lib.hid hN
  have HK := Lib.hid hK
  have HC55 : Hid (∀ w', Below w.heap.size w w' → Calls Tryz.prog 91 #[.slice na nn nc] w' fun e w'' => ∃ a' c', e = .returned (.slice a' nn c') ∧ NamesAt w'' a' nn NS ∧ (a' = none → c' = 0) ∧ (∀ ad, a' = some ad → w'.heap.size ≤ ad.block) ∧ Below w'.heap.size w' w'') := Lib.hid (fun w' hb => clone_55 w' na nn nc NS (HN.out.on hb) hnc hn)
  have HC45 : Hid (∀ w', Below w.heap.size w w' → Calls Tryz.prog 67 #[.slice ka kn kc] w' fun e w'' => ∃ a' c', e = .returned (.slice a' kn c') ∧ w''.ownsRow w'.heap.size 3 1 (.slice a' kn c') kn (KS.map (Value.int .i64)) ∧ (a' = none → c' = 0) ∧ (∀ ad, a' = some ad → w'.heap.size ≤ ad.block) ∧ Below w'.heap.size w' w'') := Lib.hid (fun w' hb => clone_45o w' ka kn kc KS (HK.out.on hb) hkc hk)
  have HB : Hid (Below w.heap.size w ((w.alloc (.cells #[.int .i64 kd, .slice na nn nc, .slice ka kn kc, .bool op] 33)).alloc (.cells #[.int .i64 0, .slice none 0 0, .slice none 0 0, .bool false] 33))) := Lib.hid (((Below.refl _ _).alloc (Nat.le_refl _) _).alloc (by simp) _)
  have HX : Hid (((w.alloc (.cells #[.int .i64 kd, .slice na nn nc, .slice ka kn kc, .bool op] 33)).alloc (.cells #[.int .i64 0, .slice none 0 0, .slice none 0 0, .bool false] 33)).heap[w.heap.size]? = some (.cells #[.int .i64 kd, .slice na nn nc, .slice ka kn kc, .bool op] 33 (0, 0))) := Lib.hid (by rw [Below.heap_alloc _ _ _ (by simp)]; exact heap_alloc_new w _)
  have HY : Hid (((w.alloc (.cells #[.int .i64 kd, .slice na nn nc, .slice ka kn kc, .bool op] 33)).alloc (.cells #[.int .i64 0, .slice none 0 0, .slice none 0 0, .bool false] 33)).heap[w.heap.size + 1]? = some (.cells #[.int .i64 0, .slice none 0 0, .slice none 0 0, .bool false] 33 (0, 0))) := Lib.hid (by
    have := heap_alloc_new (w.alloc (.cells #[.int .i64 kd, .slice na nn nc, .slice ka kn kc, .bool op] 33)) (.cells #[.int .i64 0, .slice none 0 0, .slice none 0 0, .bool false] 33)
    simpa using this)
  clear hN hK hnc hkc
  go_enter Tryz.func66, Tryz.ntmps66
  go_upto_region 1 with (fail)
  generalize ((w.alloc (.cells #[.int .i64 kd, .slice na nn nc, .slice ka kn kc, .bool op] 33)).alloc (.cells #[.int .i64 0, .slice none 0 0, .slice none 0 0, .bool false] 33)) = w1 at *
  have a1 : w1.cell? ⟨w.heap.size, 1, none⟩ = some (.slice na nn nc) := (by rw [cell_of_row _ _ 1 _ 33 _ HX.out]; rfl)
  have a2 : w1.cell? ⟨w.heap.size, 2, none⟩ = some (.slice ka kn kc) := (by rw [cell_of_row _ _ 2 _ 33 _ HX.out]; rfl)
  have HS1 : Hid (w.heap.size + 1 < w1.heap.size) := Lib.hid (Array.getElem?_eq_some_iff.1 HY.out).1
  go_region_law
    (first
      | (go_simp; go_at_call 91; (with_reducible refine (HC55.out _ (by exact HB.out.drew)).mono ?_); rintro e w5 ⟨a5, c5, rfl, hn5, hz5, hg5, hb5⟩; have HN5 := Lib.hid hn5; have HZ5 := Lib.hid hz5; have HG5 : Hid (∀ ad, a5 = some ad → w1.heap.size ≤ ad.block) := Lib.hid hg5; have HL5 : Hid (∀ ad, a5 = some ad → nn ≠ 0 → ad.block < w5.heap.size) := Lib.hid (fun ad e h0 => (by rcases hn5.2 with h9 | ⟨g, o, e2, hl, _⟩; exact absurd h9 h0; rw [e2] at e; cases e; exact hl)); have HB5 := Lib.hid (show Below w1.heap.size w1 w5 from (Below.refl _ _).drew.trans hb5); have HX5 := Lib.hid ((HB5.out.block w.heap.size (by have := HS1.out; omega)).trans HX.out); have d1 : w5.cell? ⟨w.heap.size, 1, none⟩ = some (.slice na nn nc) := (by rw [cell_of_row _ _ 1 _ 33 _ HX5.out]; rfl); have d2 : w5.cell? ⟨w.heap.size, 2, none⟩ = some (.slice ka kn kc) := (by rw [cell_of_row _ _ 2 _ 33 _ HX5.out]; rfl); clear hn5 hz5 hg5 hb5)
      | (go_simp; go_at_call 67; (with_reducible refine (HC45.out _ (by exact HB.out.trans (HB5.out.mono HB.out.size))).mono ?_); rintro e w6 ⟨b6, c6, rfl, hk6, hz6, hg6, hb6⟩; have HK6 := Lib.hid hk6; have HZ6 := Lib.hid hz6; have HAP : Hid (∀ ad bd, a5 = some ad → nn ≠ 0 → b6 = some bd → ad.block ≠ bd.block) := Lib.hid (fun ad bd e h0 e2 => (by have h8 := HL5.out ad e h0; have h9 := hg6 bd e2; omega)); have HG6 : Hid (∀ ad, b6 = some ad → w1.heap.size ≤ ad.block) := Lib.hid (fun ad e => Nat.le_trans HB5.out.size (hg6 ad e)); have HN6 := Lib.hid (HN5.out.on hb6); have HB6 := Lib.hid (show Below w1.heap.size w1 w6 from HB5.out.trans (hb6.mono HB5.out.size)); have HX6 := Lib.hid ((HB6.out.block w.heap.size (by have := HS1.out; omega)).trans HX.out); have e1 : w6.cell? ⟨w.heap.size, 1, none⟩ = some (.slice na nn nc) := (by rw [cell_of_row _ _ 1 _ 33 _ HX6.out]; rfl); have e2 : w6.cell? ⟨w.heap.size, 2, none⟩ = some (.slice ka kn kc) := (by rw [cell_of_row _ _ 2 _ 33 _ HX6.out]; rfl); have e0 : w6.cell? ⟨w.heap.size, 0, none⟩ = some (.int .i64 kd) := (by rw [cell_of_row _ _ 0 _ 33 _ HX6.out]; rfl); have e3 : w6.cell? ⟨w.heap.size, 3, none⟩ = some (.bool op) := (by rw [cell_of_row _ _ 3 _ 33 _ HX6.out]; rfl); have HY6 := Lib.hid ((HB6.out.block (w.heap.size + 1) HS1.out).trans HY.out); have f1 : w6.frozen? ⟨w.heap.size, 1, none⟩ = false := frozen_of_row _ _ 1 _ 33 HX6.out; have f2 : w6.frozen? ⟨w.heap.size, 2, none⟩ = false := frozen_of_row _ _ 2 _ 33 HX6.out; have l6 : w.heap.size < w6.heap.size := (Array.getElem?_eq_some_iff.1 HX6.out).1; clear hk6 hz6 hg6 hb6)
      | fail)
  all_goals
    go_wp2_with (refine wpList_store_row rfl 33 _ _ rfl (w.heap.size + 1) _ rfl rfl 33 _ ((Below.heap_setCell _ _ _ _ (by simp)).trans ((Below.heap_setCell _ _ _ _ (by simp)).trans HY6.out)) (by kernel_rfl) rfl (by simp [Value.oneCell']) ?_)
    (try simp only [Exit.inBlock, Exit.then])
    exact bodyPost_ret (v := .agg #[.int .i64 kd, .slice a5 nn c5, .slice b6 kn c6, .bool op]) (results_cell_row (P := Tryz.prog) rfl _ _ (w.heap.size + 1) 33 _ (0, 0) _ rfl (setRow_heap _ _ _ _ _ _ ((Below.heap_setCell _ _ _ _ (by simp)).trans ((Below.heap_setCell _ _ _ _ (by simp)).trans HY6.out))) Tryz.underlying33 rfl (by kernel_rfl)) rfl
      (show ClonePostO w kd nn NS kn KS op _ _ from ⟨a5, c5, b6, c6, rfl,
        HN6.out.kept (fun ad e => by have h1 := HG5.out ad e; have h2 := HS1.out; exact (setRow_other _ _ _ _ (by omega)).trans ((Below.heap_setCell _ _ _ _ (by simp; omega)).trans (Below.heap_setCell _ _ _ _ (by simp; omega)))) (by rw [setRow_size]; simp),
        own_move HK6.out (fun g e => by have h1 := (HK6.out.lt g e).1; have h2 := HS1.out; have h3 := HB5.out.size; exact ⟨(setRow_other _ _ _ _ (by omega)).trans ((Below.heap_setCell _ _ _ _ (by simp; omega)).trans (Below.heap_setCell _ _ _ _ (by simp; omega))), by omega⟩),
        HAP.out,
        HZ5.out, HZ6.out, fun ad e => Nat.le_trans HB.out.size (HG5.out ad e), fun ad e => Nat.le_trans HB.out.size (HG6.out ad e),
        by
          have hb := HB.out.trans (HB6.out.mono HB.out.size)
          exact ⟨hb.os, hb.tape, hb.output, by rw [setRow_size]; simp; exact hb.size, fun k hk => ((setRow_other _ _ _ _ (by omega)).trans ((Below.heap_setCell _ _ _ _ (by simp; omega)).trans (Below.heap_setCell _ _ _ _ (by simp; omega)))).trans (hb.block k hk)⟩⟩)
end Go.Proofs.YtifilhkkgkihpaaGreatDoor
set_option linter.unusedSimpArgs false
set_option linter.unusedVariables false
namespace Go.Proofs.YtifilhkkgkihpaaGreatDoor
open Go.RowKit
def pcells (x : Hd) : List Value := [.int .i64 x.kd, .slice x.na x.nn x.nc, .slice x.ka x.kn x.kc, .bool x.op, .bool false, .int .i64 0, .slice none 0 0, .slice none 0 0, .map none]
/-- a head as the arena keeps it: its kids are told from the arena's start. -/
structure Moved (ln : Nat) (x y : Hd) : Prop where
  kd : y.kd = x.kd
  op : y.op = x.op
  ns : y.NS = x.NS
  ks : y.KS = x.KS.map (· + (ln : Int))
structure GSt (w2 wr : World) (A base : Nat) (own : Option Nat) (la' : Option Addr) (ln lc' : Nat) (most : Int) (ps : List Value) (OS YS : List Hd) : Prop where
  arena : ArenaAt wr A base la' (ln + YS.length) lc' most (ps ++ YS.flatMap pcells)
  le : YS.length ≤ OS.length
  rel : ∀ (i : Nat) x y, OS[i]? = some x → YS[i]? = some y → Moved ln x y
  heads : ∀ y ∈ YS, HdOk wr y ∧ (y.na = none → y.nc = 0) ∧ (y.ka = none → y.kc = 0)
  sep : ∀ y ∈ YS, ∀ ad, blkOf y ad → base ≤ ad.block ∧ ad.block < wr.heap.size ∧ (Value.slice la' (ln + YS.length) lc').ownBlock ≠ some ad.block
  ownp : ∀ g, (Value.slice la' (ln + YS.length) lc').ownBlock = some g → own = some g ∨ w2.heap.size ≤ g
  acts : Acts w2 wr A own
section
variable {w2 wr w' : World} {A base : Nat} {own : Option Nat} {la' : Option Addr} {ln lc' : Nat} {most : Int} {ps : List Value} {OS YS : List Hd}
theorem GSt.on (h : GSt w2 wr A base own la' ln lc' most ps OS YS) (hb : Below wr.heap.size wr w') : GSt w2 w' A base own la' ln lc' most ps OS YS where
  arena := h.arena.on hb
  le := h.le
  rel := h.rel
  heads y hy := ⟨(h.heads y hy).1.on hb, (h.heads y hy).2⟩
  sep y hy ad e := by
    obtain ⟨h1, h2, h3⟩ := h.sep y hy ad e
    exact ⟨h1, Nat.lt_of_lt_of_le h2 hb.size, h3⟩
  ownp := h.ownp
  acts := ⟨hb.os.trans h.acts.os, hb.tape.trans h.acts.tape, hb.output.trans h.acts.output, Nat.le_trans h.acts.size hb.size, fun b h1 h2 h3 => (hb.block b (Nat.lt_of_lt_of_le h1 h.acts.size)).trans (h.acts.block b h1 h2 h3)⟩
theorem GSt.step (h : GSt w2 wr A base own la' ln lc' most ps OS YS) {x y : Hd} (hx : OS[YS.length]? = some x) (hm : Moved ln x y) (hy : HdOk wr y) (hyn : (y.na = none → y.nc = 0) ∧ (y.ka = none → y.kc = 0)) (hys : ∀ ad, blkOf y ad → base ≤ ad.block ∧ ad.block < wr.heap.size ∧ (Value.slice la' (ln + YS.length) lc').ownBlock ≠ some ad.block) {wd : World} (hd : Below wr.heap.size wr wd) {o : Obj} {w6 : World} {g6 c6 : Nat}
    (hg : (wd.alloc o).grownBy w6 (Value.slice la' (ln + YS.length) lc').ownBlock) (hown : w6.ownsRow base 96 9 (.slice (some ⟨g6, 0, none⟩) (ln + YS.length + 1) c6) (ln + YS.length + 1) ((ps ++ YS.flatMap pcells) ++ pcells y)) (hw : (Value.slice la' (ln + YS.length) lc').ownBlock = some g6 ∨ g6 = (wd.alloc o).heap.size) :
    GSt w2 (w6.setCell ⟨A, 0, none⟩ (.slice (some ⟨g6, 0, none⟩) (ln + YS.length + 1) c6)) A base own (some ⟨g6, 0, none⟩) ln c6 most ps OS (YS ++ [y]) := by
  have hbd : Below wr.heap.size wr (wd.alloc o) := hd.alloc hd.size _
  obtain ⟨ha, hac⟩ := h.arena.acts hbd (Below.refl wr.heap.size wr) h.arena.le hown hg
  have hAlt := h.arena.lt
  have hle := h.arena.le
  have hkeep : ∀ b, b < wr.heap.size → b ≠ A → (Value.slice la' (ln + YS.length) lc').ownBlock ≠ some b → (w6.setCell ⟨A, 0, none⟩ (.slice (some ⟨g6, 0, none⟩) (ln + YS.length + 1) c6)).heap[b]? = wr.heap[b]? := hac.block
  have e1 : ln + (YS ++ [y]).length = ln + YS.length + 1 := by simp [Nat.add_assoc]
  have hgb : ∀ b, b < wr.heap.size → (Value.slice la' (ln + YS.length) lc').ownBlock ≠ some b → g6 ≠ b := fun b hb hne e => by
    rcases hw with r | r
    · exact hne (by rw [r, e])
    · have := hbd.size; omega
  have hhd : ∀ z : Hd, HdOk wr z → (∀ ad, blkOf z ad → base ≤ ad.block ∧ ad.block < wr.heap.size ∧ (Value.slice la' (ln + YS.length) lc').ownBlock ≠ some ad.block) → HdOk (w6.setCell ⟨A, 0, none⟩ (.slice (some ⟨g6, 0, none⟩) (ln + YS.length + 1) c6)) z := fun z hz hs =>
    hd_kept hz (fun ad e _ => by obtain ⟨s1, s2, s3⟩ := hs ad e; exact hkeep _ s2 (by omega) s3) hac.size
  exact {
    arena := by
      rw [e1, List.flatMap_append, ← List.append_assoc]
      simpa using ha
    le := by
      have := (List.getElem?_eq_some_iff.1 hx).1
      simp; omega
    rel := fun i x' y' h1 h2 => by
      rcases Nat.lt_or_ge i YS.length with h3 | h3
      · rw [List.getElem?_append_left h3] at h2
        exact h.rel i x' y' h1 h2
      · rw [List.getElem?_append_right h3] at h2
        have h4 : i - YS.length = 0 := by
          have := (List.getElem?_eq_some_iff.1 h2).1
          simp at this
          omega
        obtain rfl : i = YS.length := by omega
        rw [hx] at h1
        cases h1
        simp at h2
        rw [← h2]
        exact hm
    heads := fun z hz => by
      rcases List.mem_append.1 hz with r | r
      · exact ⟨hhd z (h.heads z r).1 (h.sep z r), (h.heads z r).2⟩
      · obtain rfl : z = y := by simpa using r
        exact ⟨hhd z hy hys, hyn⟩
    sep := fun z hz ad e => by
      have hall : base ≤ ad.block ∧ ad.block < wr.heap.size ∧ (Value.slice la' (ln + YS.length) lc').ownBlock ≠ some ad.block := by
        rcases List.mem_append.1 hz with r | r
        · exact h.sep z r ad e
        · obtain rfl : z = y := by simpa using r
          exact hys ad e
      obtain ⟨s1, s2, s3⟩ := hall
      exact ⟨s1, Nat.lt_of_lt_of_le s2 hac.size, fun e2 => hgb _ s2 s3 (by cases e2; rfl)⟩
    ownp := fun g e => by
      obtain rfl : g6 = g := by cases e; rfl
      rcases hw with r | r
      · exact h.ownp _ r
      · right
        have := hbd.size
        have := h.acts.size
        omega
    acts := ⟨hac.os.trans h.acts.os, hac.tape.trans h.acts.tape, hac.output.trans h.acts.output, Nat.le_trans h.acts.size hac.size, fun b h1 h2 h3 => by
      rw [hkeep b (Nat.lt_of_lt_of_le h1 h.acts.size) h2 (fun e => by
        rcases h.ownp b e with r | r
        · exact h3 r
        · omega)]
      exact h.acts.block b h1 h2 h3⟩ }
end
def shTo (ln : Nat) (KS : List Int) (j : Nat) : List Int := (KS.take j).map (· + (ln : Int)) ++ KS.drop j
theorem shTo_zero (ln : Nat) (KS : List Int) : shTo ln KS 0 = KS := by simp [shTo]
theorem shTo_all (ln : Nat) (KS : List Int) : shTo ln KS KS.length = KS.map (· + (ln : Int)) := by simp [shTo]
theorem shTo_at (ln : Nat) (KS : List Int) (j : Nat) (x : Int) (h : KS[j]? = some x) : (shTo ln KS j)[j]? = some x := by
  have hj := (List.getElem?_eq_some_iff.1 h).1
  unfold shTo
  rw [List.getElem?_append_right (by simp; omega)]
  simp [Nat.min_eq_left (Nat.le_of_lt hj), h]
theorem shTo_set (ln : Nat) (KS : List Int) (j : Nat) (x : Int) (h : KS[j]? = some x) : (shTo ln KS j).set j (x + (ln : Int)) = shTo ln KS (j + 1) := by
  have hj := (List.getElem?_eq_some_iff.1 h).1
  unfold shTo
  rw [List.set_append_right _ _ (by simp; omega)]
  have hd : KS.drop j = x :: KS.drop (j + 1) := by
    rw [List.drop_eq_getElem_cons hj]
    congr 1
    exact (List.getElem?_eq_some_iff.1 h).2
  rw [hd, List.take_add_one, h]
  simp [Nat.min_eq_left (Nat.le_of_lt hj)]
end Go.Proofs.YtifilhkkgkihpaaGreatDoor
set_option linter.unusedSimpArgs false
set_option linter.unusedVariables false
namespace Go.Proofs.YtifilhkkgkihpaaGreatDoor
open Go.RowKit
theorem NPl.kids_lt {HS : List Hd} {cl : List Nat} {root : Nat} {ord : List Nat} {OS : List Hd} {KK : List Int} (h : NPl HS cl root ord OS KK) : ∀ x ∈ OS, ∀ k ∈ x.KS, 0 ≤ k ∧ k < (ord.length : Int) := by
  intro x hx k hk
  obtain ⟨i, hi⟩ := List.getElem?_of_mem hx
  obtain ⟨r, y, _, _, _, _, _, h6, h7⟩ := (h.heads i x hi).of
  rw [h6] at hk
  obtain ⟨z, hz, rfl⟩ := List.mem_map.1 hk
  obtain ⟨p, hp⟩ := Option.isSome_iff_exists.1 (h7 z hz)
  have := (List.getElem?_eq_some_iff.1 (idxN_some ord _ p hp)).1
  unfold posN
  rw [hp]
  simp
  omega
theorem GSt.start {w4 : World} {A base : Nat} {la : Option Addr} {ln lc : Nat} {most : Int} {ps : List Value} {OS : List Hd} (h : ArenaAt w4 A base la ln lc most ps) : GSt w4 w4 A base (Value.slice la ln lc).ownBlock la ln lc most ps OS [] where
  arena := by simpa using h
  le := Nat.zero_le _
  rel i x y _ h2 := by simp at h2
  heads y hy := by cases hy
  sep y hy := by cases hy
  ownp g e := .inl (by simpa [Value.ownBlock] using e)
  acts := Acts.refl _ _ _
theorem GSt.from' {w w2 wr : World} {A base : Nat} {own : Option Nat} {la' : Option Addr} {ln lc' : Nat} {most : Int} {ps : List Value} {OS YS : List Hd} (h : GSt w2 wr A base own la' ln lc' most ps OS YS) (hb : Below w.heap.size w w2) : GSt w wr A base own la' ln lc' most ps OS YS where
  arena := h.arena
  le := h.le
  rel := h.rel
  heads := h.heads
  sep := h.sep
  ownp g e := (h.ownp g e).imp id (Nat.le_trans hb.size)
  acts := ⟨h.acts.os.trans hb.os, h.acts.tape.trans hb.tape, h.acts.output.trans hb.output, Nat.le_trans hb.size h.acts.size, fun b h1 h2 h3 => (h.acts.block b (Nat.lt_of_lt_of_le h1 hb.size) h2 h3).trans (hb.block b h1)⟩
def GraphPost (w : World) (A base : Nat) (own : Option Nat) (ln : Nat) (most : Int) (ps : List Value) (HS : List Hd) (root : Nat) (e : Ending) (w' : World) : Prop := ∃ (la' : Option Addr) (lc' : Nat) (OS YS : List Hd) (cl ord : List Nat), e = .returned (.tuple #[.int .i64 (ln : Int), .int .i64 0]) ∧ GSt w w' A base own la' ln lc' most ps OS YS ∧ YS.length = OS.length ∧ cl.length = HS.length ∧ Stands HS cl ∧ Coarse HS cl ∧ NPl HS cl root ord OS [] ∧ OS.length = ord.length
set_option maxRecDepth 20000 in
set_option maxHeartbeats 8000000 in
theorem graph_ok (w : World) (A base : Nat) (la : Option Addr) (ln lc : Nat) (most : Int) (ps : List Value) (hA : ArenaAt w A base la ln lc most ps) (ga : Option Addr) (gn gc root : Nat) (HS : List Hd) (hH : HeadsIn w ga gn HS) (hf : HS.all fewH = true) (h1 : root < gn) (h25 : gn ≤ 100) (hg : graphB (root : Int) HS = true) (hnc : ∀ x ∈ HS, x.na = none → x.nc = 0) (hm : (ln : Int) + 100 ≤ most) (hmm : most ≤ 1048576) :
    Calls Tryz.prog 60 #[.pointer (some ⟨A, 0, none⟩), .agg #[.slice ga gn gc, .int .i64 (root : Int)]] w (GraphPost w A base (Value.slice la ln lc).ownBlock ln most ps HS root) := by
  have HA := Lib.hid hA
  have hb0 : Below w.heap.size w (w.alloc (.cells #[.slice ga gn gc, .int .i64 (root : Int)] 36)) := (Below.refl _ _).alloc (Nat.le_refl _) _
  have HB0 := Lib.hid hb0
  have HX1 : Hid ((w.alloc (.cells #[.slice ga gn gc, .int .i64 (root : Int)] 36)).heap[w.heap.size]? = some (.cells #[.slice ga gn gc, .int .i64 (root : Int)] 36 (0, 0))) := Lib.hid (heap_alloc_new w _)
  have HNR := Lib.hid (normal_ok _ ga gn gc root HS (hH.on hb0) hf h1 h25 hg hnc)
  have hlnm : (ln : Int) ≤ 1048576 := by omega
  have HAL : Hid (A < w.heap.size) := Lib.hid (Nat.lt_of_lt_of_le hA.lt hA.le)
  have HOWN : Hid (∀ g, (Value.slice la ln lc).ownBlock = some g → g < w.heap.size) := Lib.hid (fun g e => (hA.own.lt g e).2)
  clear hb0 hA hH hf hg hnc
  go_enter Tryz.func60, Tryz.ntmps60
  go_upto_region 1 with (fail)
  generalize (w.alloc (.cells #[.slice ga gn gc, .int .i64 (root : Int)] 36)) = w1 at *
  have hl1 : w.heap.size < w1.heap.size := (Array.getElem?_eq_some_iff.1 HX1.out).1
  have HL1 := Lib.hid hl1
  have a0 : w1.cell? ⟨w.heap.size, 0, none⟩ = some (.slice ga gn gc) := (by rw [cell_of_row _ _ 0 _ 36 _ HX1.out]; rfl)
  have a1 : w1.cell? ⟨w.heap.size, 1, none⟩ = some (.int .i64 (root : Int)) := (by rw [cell_of_row _ _ 1 _ 36 _ HX1.out]; rfl)
  go_upto_region 6 with (first
    | (go_at_call 40; (with_reducible refine HNR.out.mono ?_); rintro e w2 ⟨g2, c2, OS, cl, ord, rfl, hg3, hH3, hO3, hcl3, hst3, hco3, hnp3, hll3, hb3⟩; have HG3 := Lib.hid hg3; have HH3 := Lib.hid hH3; have HO3 := Lib.hid hO3; have HCL3 := Lib.hid hcl3; have HST3 := Lib.hid hst3; have HCO3 := Lib.hid hco3; have HNP3 := Lib.hid hnp3; have HLL3 := Lib.hid hll3; have HB3 := Lib.hid hb3; have HX3 := Lib.hid ((hb3.block _ HL1.out).trans HX1.out); clear hg3 hH3 hO3 hcl3 hst3 hco3 hnp3 hll3 hb3)
    | (refine wpList_store_row rfl 36 _ _ rfl w.heap.size _ rfl rfl 36 _ HX3.out (by kernel_rfl) rfl (by simp [Value.oneCell']) ?_))
  clear a0 a1 hl1
  have HSZ2 : Hid (w.heap.size < w2.heap.size) := Lib.hid (Nat.lt_of_lt_of_le HL1.out HB3.out.size)
  have HBB : Hid (Below w.heap.size w (w2.setRow w.heap.size #[.slice (some ⟨g2, 0, none⟩) OS.length c2, .int .i64 0])) := Lib.hid (below_row (HB0.out.trans (HB3.out.mono HB0.out.size)) (Nat.le_refl _))
  have HX4 : Hid ((w2.setRow w.heap.size #[.slice (some ⟨g2, 0, none⟩) OS.length c2, .int .i64 0]).heap[w.heap.size]? = some (.cells #[.slice (some ⟨g2, 0, none⟩) OS.length c2, .int .i64 0] 36 (0, 0))) := Lib.hid (setRow_heap _ _ _ _ _ _ HX3.out)
  have HH4 := Lib.hid (HH3.out.row w.heap.size #[.slice (some ⟨g2, 0, none⟩) OS.length c2, .int .i64 0] (by have := HG3.out; have := HL1.out; omega) (fun x hx ad e => by have := (HO3.out x hx).2.2 ad e; have := HL1.out; omega))
  generalize (w2.setRow w.heap.size #[.slice (some ⟨g2, 0, none⟩) OS.length c2, .int .i64 0]) = w3 at *
  have hol : OS.length ≤ 100 := by rw [HLL3.out]; exact nodup_len 100 ord HNP3.out.nodup HNP3.out.lt
  have hol2 : (OS.length : Int) ≤ 100 := by omega
  have HA3 := Lib.hid (HA.out.on HBB.out)
  have HR := Lib.hid (room_any w3 A la ln lc most (OS.length : Int) HA3.out.box (by simp only [maxLen]; omega) (by omega))
  rw [if_neg (show ¬ most < (ln : Int) + OS.length by omega)] at HR
  have b0 : w3.cell? ⟨w.heap.size, 0, none⟩ = some (.slice (some ⟨g2, 0, none⟩) OS.length c2) := (by rw [cell_of_row _ _ 0 _ 36 _ HX4.out]; rfl)
  go_upto_region 9 with (go_at_call 89; (with_reducible refine HR.out.mono ?_); rintro e w4 ⟨rfl, hb4⟩; have HB4 := Lib.hid hb4; clear hb4)
  clear b0
  have HL3 : Hid (w.heap.size < w3.heap.size) := Lib.hid (Array.getElem?_eq_some_iff.1 HX4.out).1
  have HX5 := Lib.hid ((HB4.out.block _ HL3.out).trans HX4.out)
  have HA4 := Lib.hid (HA3.out.on HB4.out)
  have HH5 := Lib.hid (HH4.out.on HB4.out)
  have HBW : Hid (Below w.heap.size w w4) := Lib.hid (HBB.out.trans (HB4.out.mono HBB.out.size))
  have HG0 := Lib.hid (GSt.start (OS := OS) HA4.out)
  have HSRC : Hid (∀ wr, Acts w4 wr A (Value.slice la ln lc).ownBlock → ∀ k x, OS[k]? = some x → HdIn wr g2 0 k x) := Lib.hid (fun wr ha k x hx => by
    rcases HH5.out.2 with r | ⟨g', o, e, hl, hc⟩
    · have := (List.getElem?_eq_some_iff.1 hx).1; omega
    · cases e
      obtain ⟨k0, k1, k2, k3, ok⟩ := hc k x hx
      have hg2 := HG3.out
      have hl1 := HL1.out
      have hal := HAL.out
      have hk : ∀ j, wr.cell? ⟨g2, j, none⟩ = w4.cell? ⟨g2, j, none⟩ := fun j => World.cell?_of_block (w := w4) (a := ⟨g2, j, none⟩) (ha.block g2 hl (by omega) (fun e => by have := HOWN.out g2 e; omega))
      exact ⟨(hk _).trans k0, (hk _).trans k1, (hk _).trans k2, (hk _).trans k3, hd_kept ok (fun ad e hlt => ha.block _ hlt (by have := (HO3.out x (List.mem_of_getElem? hx)).2.2 ad e; omega) (fun e2 => by have := HOWN.out _ e2; have := (HO3.out x (List.mem_of_getElem? hx)).2.2 ad e; omega)) ha.size⟩)
  have d0 : w4.cell? ⟨A, 0, none⟩ = some (.slice la ln lc) := (by rw [cell_of_row _ _ 0 _ 84 _ HA4.out.box]; rfl)
  have d1 : w4.cell? ⟨w.heap.size, 0, none⟩ = some (.slice (some ⟨g2, 0, none⟩) OS.length c2) := (by rw [cell_of_row _ _ 0 _ 36 _ HX5.out]; rfl)
  have HKB := Lib.hid HNP3.out.kids_lt
  go_upto_region 11 with (fail)
  clear d0 d1
  go_loopw [38] (fun s38 wr => ∃ (YS : List Hd) (la' : Option Addr) (lc' : Nat), s38 = .int .i64 (YS.length : Int) ∧ Hid (GSt w4 wr A base (Value.slice la ln lc).ownBlock la' ln lc' most ps OS YS)) (fun s38 _ => OS.length - (intOf s38).toNat)
  case atStart => exact ⟨[], la, lc, rfl, HG0⟩
  case round =>
    obtain ⟨YS, la', lc', rfl, HG⟩ := hrel
    obtain ⟨wi, rfl⟩ : ∃ wi : World, wi = wr := ⟨_, rfl⟩
    have hyl := HG.out.le
    have hwy : IntKind.i64.wrap ((YS.length : Int) + 1) = (YS.length : Int) + 1 := by rw [IntKind.wrap_i64]; omega
    by_cases hk : YS.length < OS.length
    · have hk2 : (YS.length : Int) < OS.length := by omega
      obtain ⟨x, hx⟩ : ∃ x, OS[YS.length]? = some x := ⟨_, List.getElem?_eq_getElem hk⟩
      have HX := Lib.hid hx
      have hin := HSRC.out wi HG.out.acts _ _ hx
      have HIN := Lib.hid hin.ok
      have HXN := Lib.hid (HO3.out x (List.mem_of_getElem? hx))
      have HKX := Lib.hid (HKB.out x (List.mem_of_getElem? hx))
      have b0 : wi.cell? ⟨g2, 0 + YS.length * 4, none⟩ = some (.int .i64 x.kd) := hin.c0
      have b1 : wi.cell? ⟨g2, 0 + YS.length * 4 + 1, none⟩ = some (.slice x.na x.nn x.nc) := hin.c1
      have b2 : wi.cell? ⟨g2, 0 + YS.length * 4 + 2, none⟩ = some (.slice x.ka x.kn x.kc) := hin.c2
      have b3 : wi.cell? ⟨g2, 0 + YS.length * 4 + 3, none⟩ = some (.bool x.op) := hin.c3
      rw [Nat.zero_add] at b0 b1 b2 b3
      clear hin hx
      have HY : Hid ((wi.alloc (.cells #[.int .i64 x.kd, .slice x.na x.nn x.nc, .slice x.ka x.kn x.kc, .bool x.op] 33)).heap[wi.heap.size]? = some (.cells #[.int .i64 x.kd, .slice x.na x.nn x.nc, .slice x.ka x.kn x.kc, .bool x.op] 33 (0, 0))) := Lib.hid (heap_alloc_new wi _)
      have HBY : Hid (Below wi.heap.size wi (wi.alloc (.cells #[.int .i64 x.kd, .slice x.na x.nn x.nc, .slice x.ka x.kn x.kc, .bool x.op] 33))) := Lib.hid ((Below.refl _ _).alloc (Nat.le_refl _) _)
      go_upto_region 13 with (fail)
      clear b0 b1 b2 b3
      obtain ⟨w6, hw6⟩ : ∃ w6, wi.alloc (.cells #[.int .i64 x.kd, .slice x.na x.nn x.nc, .slice x.ka x.kn x.kc, .bool x.op] 33) = w6 := ⟨_, rfl⟩
      rw [hw6] at HY HBY ⊢
      clear hw6
      have HYL : Hid (wi.heap.size < w6.heap.size) := Lib.hid (Array.getElem?_eq_some_iff.1 HY.out).1
      have c0 : w6.cell? ⟨wi.heap.size, 0, none⟩ = some (.int .i64 x.kd) := (by rw [cell_of_row _ _ 0 _ 33 _ HY.out]; rfl)
      have c1 : w6.cell? ⟨wi.heap.size, 1, none⟩ = some (.slice x.na x.nn x.nc) := (by rw [cell_of_row _ _ 1 _ 33 _ HY.out]; rfl)
      have c2 : w6.cell? ⟨wi.heap.size, 2, none⟩ = some (.slice x.ka x.kn x.kc) := (by rw [cell_of_row _ _ 2 _ 33 _ HY.out]; rfl)
      have c3 : w6.cell? ⟨wi.heap.size, 3, none⟩ = some (.bool x.op) := (by rw [cell_of_row _ _ 3 _ 33 _ HY.out]; rfl)
      have HCN := Lib.hid (clone_heado w6 x.kd x.na x.nn x.nc x.NS x.ka x.kn x.kc x.KS x.op (HIN.out.on HBY.out).names (HIN.out.on HBY.out).kids HIN.out.nnb (by have := HIN.out.knb; omega) HXN.out.1 HXN.out.2.1)
      go_upto_region 14 with (first
        | (go_at_call 66; (with_reducible refine HCN.out.mono ?_); rintro e w7 ⟨a7, c7, b7, d7, rfl, hn7, hk7, hap7, hza7, hzb7, hga7, hgb7, hb7⟩; have HN7 := Lib.hid hn7; have HK7 := Lib.hid hk7; have HAP7 := Lib.hid hap7; have HZA7 := Lib.hid hza7; have HZB7 := Lib.hid hzb7; have HGA7 := Lib.hid hga7; have HGB7 := Lib.hid hgb7; have HB7 := Lib.hid hb7; have HY7 := Lib.hid ((hb7.block _ HYL.out).trans HY.out); clear hn7 hk7 hap7 hza7 hzb7 hga7 hgb7 hb7)
        | (refine wpList_store_row rfl 33 _ _ rfl wi.heap.size _ rfl rfl 33 _ HY7.out (by kernel_rfl) rfl (by simp [Value.oneCell']) ?_))
      clear c0 c1 c2 c3
      have hkn := HIN.out.knb
      have hkn2 : (x.kn : Int) ≤ 1000 := by omega
      have HKN : Hid (x.kn = x.KS.length) := Lib.hid HIN.out.kids.1
      obtain ⟨w8, hw8⟩ : ∃ w8, w7.setRow wi.heap.size #[.int .i64 x.kd, .slice a7 x.nn c7, .slice b7 x.kn d7, .bool x.op] = w8 := ⟨_, rfl⟩
      have HB8 : Hid (Below wi.heap.size wi w8) := Lib.hid (by rw [← hw8]; exact below_row (HBY.out.trans (HB7.out.mono HBY.out.size)) (Nat.le_refl _))
      have HY8 : Hid (w8.heap[wi.heap.size]? = some (.cells #[.int .i64 x.kd, .slice a7 x.nn c7, .slice b7 x.kn d7, .bool x.op] 33 (0, 0))) := Lib.hid (by rw [← hw8]; exact setRow_heap _ _ _ _ _ _ HY7.out)
      have HN8 : Hid (NamesAt w8 a7 x.nn x.NS) := Lib.hid (by
        rw [← hw8]
        exact HN7.out.kept0 (fun ad e h0 hl => setRow_other _ _ _ _ (by have := HGA7.out ad e; have := HYL.out; omega)) (by rw [setRow_size]; exact Nat.le_refl _))
      have HK8 : Hid (w8.ownsRow w6.heap.size 3 1 (.slice b7 x.kn d7) x.kn ((shTo ln x.KS 0).map (Value.int .i64))) := Lib.hid (by
        rw [← hw8, shTo_zero]
        exact own_move HK7.out (fun g e => ⟨setRow_other _ _ _ _ (by have := (HK7.out.lt g e).1; have := HYL.out; omega), (HK7.out.lt g e).1⟩))
      rw [hw8]
      clear hw8
      have e2 : w8.cell? ⟨wi.heap.size, 2, none⟩ = some (.slice b7 x.kn d7) := (by rw [cell_of_row _ _ 2 _ 33 _ HY8.out]; rfl)
      go_upto_region 15 with (fail)
      clear e2
      go_loopw [47] (fun s47 wr => ∃ j : Nat, s47 = .int .i64 (j : Int) ∧ j ≤ x.kn ∧ Hid (wr.ownsRow w6.heap.size 3 1 (.slice b7 x.kn d7) x.kn ((shTo ln x.KS j).map (Value.int .i64))) ∧ Hid (w8.grownBy wr (Value.slice b7 x.kn d7).ownBlock)) (fun s47 _ => x.kn - (intOf s47).toNat)
      case atStart => exact ⟨0, rfl, Nat.zero_le _, HK8, Lib.hid (World.grownBy.refl _ _)⟩
      case round =>
        obtain ⟨j, rfl, hj, HKJ, HGJ⟩ := hrel
        obtain ⟨wj, rfl⟩ : ∃ wj : World, wj = wr := ⟨_, rfl⟩
        have hwj : IntKind.i64.wrap ((j : Int) + 1) = (j : Int) + 1 := by rw [IntKind.wrap_i64]; omega
        have HYJ : Hid (wj.heap[wi.heap.size]? = some (.cells #[.int .i64 x.kd, .slice a7 x.nn c7, .slice b7 x.kn d7, .bool x.op] 33 (0, 0))) := Lib.hid ((HGJ.out.block _ (Array.getElem?_eq_some_iff.1 HY8.out).1 (fun e => by have := (HKJ.out.lt _ e.symm).1; have := HYL.out; omega)).trans HY8.out)
        have e2 : wj.cell? ⟨wi.heap.size, 2, none⟩ = some (.slice b7 x.kn d7) := (by rw [cell_of_row _ _ 2 _ 33 _ HYJ.out]; rfl)
        by_cases hjk : j < x.kn
        · have hjk2 : (j : Int) < x.kn := by omega
          obtain ⟨q, hq⟩ : ∃ q, x.KS[j]? = some q := ⟨_, List.getElem?_eq_getElem (by rw [← HKN.out]; exact hjk)⟩
          have hqr := HKX.out q (List.mem_of_getElem? hq)
          have HSH := Lib.hid (shTo_set ln x.KS j q hq)
          have HSA := Lib.hid (shTo_at ln x.KS j q hq)
          obtain ⟨gb, cap, hbe, hgb, hgl⟩ := HKJ.out.form (by omega)
          have hwq : IntKind.i64.wrap (q + (ln : Int)) = q + (ln : Int) := by rw [IntKind.wrap_i64]; have := HLL3.out; omega
          rw [hbe] at HKJ e2 HGJ
          have kc : wj.cell? ⟨gb, j, none⟩ = some (.int .i64 q) := by
            rw [HKJ.out.cellAt j (by omega), List.getElem?_map, HSA.out]
            rfl
          have kf : wj.frozen? ⟨gb, j, none⟩ = false := HKJ.out.frozenAt j
          have HST := Lib.hid (HKJ.out.stored j (.int .i64 (q + (ln : Int))))
          rw [← List.map_set, HSH.out] at HST
          have HGN : Hid (w8.grownBy (wj.setCell ⟨gb, j, none⟩ (.int .i64 (q + (ln : Int)))) (some gb)) := Lib.hid ⟨HST.out.2.os.trans HGJ.out.os, HST.out.2.tape.trans HGJ.out.tape, HST.out.2.output.trans HGJ.out.output, Nat.le_trans HGJ.out.size HST.out.2.size, fun k h1 h2 => (HST.out.2.block k (Nat.lt_of_lt_of_le h1 HGJ.out.size) h2).trans (HGJ.out.block k h1 h2)⟩
          have HBE := Lib.hid hbe
          clear hq hbe
          go_wp2
          go_roundw
          case rel => exact ⟨j + 1, by go_num, by omega, Lib.hid (by rw [HBE.out]; exact HST.out.1), Lib.hid (by rw [HBE.out]; exact HGN.out)⟩
          case measure => simp [intOf]; omega
        · have hjk2 : ¬ (j : Int) < x.kn := by omega
          obtain rfl : j = x.kn := by omega
          have HBQ : Hid (Below wi.heap.size wi wj) := Lib.hid (below_grow HB8.out HGJ.out HB8.out.size (fun g e => by have := (HKJ.out.lt g e).1; have := HYL.out; omega))
          have HGQ := Lib.hid (HG.out.on HBQ.out)
          have HKF : Hid (wj.ownsRow w6.heap.size 3 1 (.slice b7 x.kn d7) x.kn ((x.KS.map (· + (ln : Int))).map (Value.int .i64))) := Lib.hid (by have h9 := HKJ.out; rw [HKN.out, shTo_all, ← HKN.out] at h9; exact h9)
          have HKI := Lib.hid (own_ints HKF.out)
          have HNQ : Hid (NamesAt wj a7 x.nn x.NS) := Lib.hid (HN8.out.kept0 (fun ad e h0 hl => HGJ.out.block _ hl (fun e2 => by
            cases b7 with
            | none => cases e2
            | some bd => exact HAP7.out ad bd e h0 rfl (by simpa [Value.ownBlock] using e2))) HGJ.out.size)
          have HYO : Hid (HdOk wj ⟨x.kd, a7, x.nn, c7, x.NS, b7, x.kn, d7, x.KS.map (· + (ln : Int)), x.op⟩) := Lib.hid ⟨HNQ.out, HKI.out, HIN.out.nnb, HIN.out.knb, HIN.out.small⟩
          have HOWI : Hid (∀ g, (Value.slice la' (ln + YS.length) lc').ownBlock = some g → g < wi.heap.size) := Lib.hid (fun g e => (HG.out.arena.own.lt g e).2)
          have HBS : Hid (base ≤ wi.heap.size) := Lib.hid HG.out.arena.le
          have HYS : Hid (∀ ad, blkOf ⟨x.kd, a7, x.nn, c7, x.NS, b7, x.kn, d7, x.KS.map (· + (ln : Int)), x.op⟩ ad → base ≤ ad.block ∧ ad.block < wj.heap.size ∧ (Value.slice la' (ln + YS.length) lc').ownBlock ≠ some ad.block) := Lib.hid (fun ad e => by
            have hyl := HYL.out
            have hbs := HBS.out
            rcases e with ⟨e, h0⟩ | ⟨e, h0⟩
            · have h3 := HGA7.out ad e
              refine ⟨by omega, ?_, fun e2 => by have := HOWI.out _ e2; omega⟩
              rcases HNQ.out.2 with r | ⟨g, o, e2, hl, _⟩
              · exact absurd r h0
              · rw [e2] at e; cases e; exact hl
            · have h3 := HGB7.out ad e
              refine ⟨by omega, ?_, fun e2 => by have := HOWI.out _ e2; omega⟩
              rcases HKI.out.2 with r | ⟨g, o, e2, hl, _⟩
              · exact absurd r h0
              · rw [e2] at e; cases e; exact hl)
          have HMV : Hid (Moved ln x ⟨x.kd, a7, x.nn, c7, x.NS, b7, x.kn, d7, x.KS.map (· + (ln : Int)), x.op⟩) := Lib.hid ⟨rfl, rfl, rfl, rfl⟩
          have HDR : Hid (Below wj.heap.size wj wj.drew) := Lib.hid (Below.refl _ _).drew
          have HARR := Lib.hid HGQ.out.arena
          have HOD : Hid (wj.drew.ownsRow base 96 9 (.slice la' (ln + YS.length) lc') (ln + YS.length) (ps ++ YS.flatMap pcells)) := Lib.hid (ownsRow_mono HARR.out.own (fun g hg => HDR.out.block g (HARR.out.own.lt g hg).2))
          obtain ⟨i0, hi9, hz0, hz1, hz2⟩ := info_parts Tryz.info96
          have HI := Lib.hid hi9
          have HI0 := Lib.hid hz0
          have HI1 := Lib.hid hz1
          have HI2 := Lib.hid hz2
          have HLE : Hid (base ≤ (wj.drew.alloc (.cells #[.int .i64 x.kd, .slice a7 x.nn c7, .slice b7 x.kn d7, .bool x.op, .bool false, .int .i64 0, .slice none 0 0, .slice none 0 0, .map none] 96)).heap.size) := Lib.hid (by have := HARR.out.le; have := HDR.out.size; simp; omega)
          have HONE : Hid (∀ u ∈ ([.int .i64 x.kd, .slice a7 x.nn c7, .slice b7 x.kn d7, .bool x.op, .bool false, .int .i64 0, .slice none 0 0, .slice none 0 0, .map none] : List Value), u.oneCell' = true) := Lib.hid (by
            intro u hu
            simp only [List.mem_cons, List.not_mem_nil, or_false] at hu
            rcases hu with rfl | rfl | rfl | rfl | rfl | rfl | rfl | rfl | rfl <;> rfl)
          have HBX : Hid (∀ w5' : World, (wj.drew.alloc (.cells #[.int .i64 x.kd, .slice a7 x.nn c7, .slice b7 x.kn d7, .bool x.op, .bool false, .int .i64 0, .slice none 0 0, .slice none 0 0, .map none] 96)).grownBy w5' (Value.slice la' (ln + YS.length) lc').ownBlock → w5'.heap[A]? = some (.cells #[.slice la' (ln + YS.length) lc', .int .i64 most] 84 (0, 0))) := Lib.hid (fun w5' hg => by
            have hs := HARR.out.le
            have hl := HARR.out.lt
            have hds := HDR.out.size
            rw [hg.block A (by simp; omega) (fun e => by have := ownsRow_ge HARR.out.own A e.symm; omega), Below.heap_alloc _ _ _ (by omega), HDR.out.block A (by omega)]
            exact HARR.out.box)
          have q0 : wj.cell? ⟨A, 0, none⟩ = some (.slice la' (ln + YS.length) lc') := (by rw [cell_of_row _ _ 0 _ 84 _ HARR.out.box]; rfl)
          have q1 : (wj.alloc (.cells #[.int .i64 x.kd, .slice a7 x.nn c7, .slice b7 x.kn d7, .bool x.op, .bool false, .int .i64 0, .slice none 0 0, .slice none 0 0, .map none] 96)).cell? ⟨A, 0, none⟩ = some (.slice la' (ln + YS.length) lc') := (by rw [cell_of_row _ _ 0 _ 84 _ ((Below.heap_alloc _ _ _ (by have := HARR.out.le; have := HARR.out.lt; omega)).trans HARR.out.box)]; rfl)
          have p0 : wj.cell? ⟨wi.heap.size, 0, none⟩ = some (.int .i64 x.kd) := (by rw [cell_of_row _ _ 0 _ 33 _ HYJ.out]; rfl)
          have p1 : wj.cell? ⟨wi.heap.size, 1, none⟩ = some (.slice a7 x.nn c7) := (by rw [cell_of_row _ _ 1 _ 33 _ HYJ.out]; rfl)
          have p3 : wj.cell? ⟨wi.heap.size, 3, none⟩ = some (.bool x.op) := (by rw [cell_of_row _ _ 3 _ 33 _ HYJ.out]; rfl)
          clear hi9 hz0 hz1 hz2
          go_upto_region 19 with (fail)
          go_region_law
            (first
              | (refine step_append_lies (wj.drew.alloc (.cells #[.int .i64 x.kd, .slice a7 x.nn c7, .slice b7 x.kn d7, .bool x.op, .bool false, .int .i64 0, .slice none 0 0, .slice none 0 0, .map none] 96)) rfl _ _ 82 rfl base 96 i0 (.agg #[.int .i64 0, .slice none 0 0, .slice none 0 0, .bool false, .bool false, .int .i64 0, .slice none 0 0, .slice none 0 0, .map none]) 9 136 Tryz.underlying82 HI.out HI0.out HI1.out HI2.out rfl (by decide) (.slice la' (ln + YS.length) lc') (ln + YS.length) (ps ++ YS.flatMap pcells) rfl (HOD.out.alloc _) ⟨wj.heap.size, 0, none⟩ 1 1 [.int .i64 x.kd, .slice a7 x.nn c7, .slice b7 x.kn d7, .bool x.op, .bool false, .int .i64 0, .slice none 0 0, .slice none 0 0, .map none] rfl rfl (news_of (heap_alloc_new wj.drew _)) HONE.out (by decide) (by unfold maxLen; omega) (by omega) HLE.out _ rfl ?_; intro g5 cc5 w6' hown5 hgr5 hat5 hlt5; have hA5 := HBX.out w6' hgr5; have a5 : w6'.cell? ⟨A, 0, none⟩ = some (.slice la' (ln + YS.length) lc') := (by rw [cell_of_row _ _ 0 _ 84 _ hA5]; rfl); have f5 : w6'.frozen? ⟨A, 0, none⟩ = false := frozen_of_row _ _ 0 _ 84 hA5; have HSTEP := Lib.hid (HGQ.out.step HX.out HMV.out HYO.out ⟨HZA7.out, HZB7.out⟩ HYS.out HDR.out hgr5 hown5 hat5); clear hA5 hlt5 hown5 hgr5 hat5)
              | fail)
          all_goals
            clear a5 f5 q0 q1 p0 p1 p3 e2
            go_wp2
            go_roundw
            case rel => exact ⟨YS ++ [⟨x.kd, a7, x.nn, c7, x.NS, b7, x.kn, d7, x.KS.map (· + (ln : Int)), x.op⟩], some ⟨g5, 0, none⟩, cc5, by simp, HSTEP⟩
            case measure => simp [intOf]; omega
    · have hk2 : ¬ (YS.length : Int) < OS.length := by omega
      have hyo : YS.length = OS.length := by omega
      have HYO := Lib.hid hyo
      clear hyo
      go_wp2
      go_ret2
      exact ⟨la', lc', OS, YS, cl, ord, rfl, HG.out.from' HBW.out, HYO.out, HCL3.out, HST3.out, HCO3.out, HNP3.out, HLL3.out⟩
end Go.Proofs.YtifilhkkgkihpaaGreatDoor
set_option linter.unusedSimpArgs false
set_option linter.unusedVariables false
namespace Go.Proofs.YtifilhkkgkihpaaGreatDoor
open Go.RowKit
theorem results_38 {fn : Func} {p u : Tmp} (h : fn.results = #[.cell p 33, .tmp u]) (tmps : Array Value) (w : World) (g : Nat) (cs : Array Value) (hp : tmps.getD p undef = .pointer (some ⟨g, 0, none⟩)) (hg : w.heap[g]? = some (.cells cs 33 (0, 0))) (hs : cs.size = 4) :
    (results fn tmps).run Tryz.prog w = .ok (.tuple #[.agg cs, tmps.getD u undef]) w := by
  have hi2 : (Tryz.prog.info? 33).map (·.size) = some cs.size := by rw [hs]; kernel_rfl
  rw [results_cell_tmp h, hp]
  simp [asAddr, run_loadVar_row w g 33 33 cs (0, 0) _ hg Tryz.underlying33 rfl hi2]
def AtPost (w : World) (y : Hd) (e : Ending) (w' : World) : Prop :=
  ∃ a' c' b' d', e = .returned (.tuple #[.agg #[.int .i64 y.kd, .slice a' y.nn c', .slice b' y.kn d', .bool y.op], .bool true]) ∧ NamesAt w' a' y.nn y.NS ∧ w'.ownsRow w.heap.size 3 1 (.slice b' y.kn d') y.kn (y.KS.map (Value.int .i64)) ∧ (∀ ad bd, a' = some ad → y.nn ≠ 0 → b' = some bd → ad.block ≠ bd.block) ∧ (a' = none → c' = 0) ∧ (b' = none → d' = 0) ∧ (∀ ad, a' = some ad → w.heap.size ≤ ad.block) ∧ (∀ ad, b' = some ad → w.heap.size ≤ ad.block) ∧ Below w.heap.size w w'
set_option maxRecDepth 20000 in
set_option maxHeartbeats 4000000 in
theorem at_ok (w : World) (A base : Nat) (la : Option Addr) (ln lc : Nat) (most : Int) (ps : List Value) (i : Nat) (y : Hd) (hA : ArenaAt w A base la ln lc most ps) (hi : i < ln) (hp : ∀ j, j < 9 → ps[i * 9 + j]? = (pcells y)[j]?) (hy : HdOk w y) (hyn : (y.na = none → y.nc = 0) ∧ (y.ka = none → y.kc = 0)) (hln : ln ≤ maxLen) :
    Calls Tryz.prog 24 #[.pointer (some ⟨A, 0, none⟩), .int .i64 (i : Int)] w (AtPost w y) := by
  have hb0 : Below w.heap.size w (w.alloc (.cells #[.int .i64 0, .slice none 0 0, .slice none 0 0, .bool false] 33)) := (Below.refl _ _).alloc (Nat.le_refl _) _
  have HB0 := Lib.hid hb0
  have HX0 : Hid ((w.alloc (.cells #[.int .i64 0, .slice none 0 0, .slice none 0 0, .bool false] 33)).heap[w.heap.size]? = some (.cells #[.int .i64 0, .slice none 0 0, .slice none 0 0, .bool false] 33 (0, 0))) := Lib.hid (heap_alloc_new w _)
  have HA1 := Lib.hid (hA.on hb0)
  have HT := Lib.hid (there_any _ A la ln lc most (i : Int) HA1.out.box)
  have hi2 : (i : Int) < ln := by omega
  have hi3 : (decide (0 ≤ (i : Int)) && decide ((i : Int) < ln)) = true := by simp [hi2]
  rw [hi3] at HT
  have HCN := Lib.hid (clone_heado (w.alloc (.cells #[.int .i64 0, .slice none 0 0, .slice none 0 0, .bool false] 33)) y.kd y.na y.nn y.nc y.NS y.ka y.kn y.kc y.KS y.op (hy.on hb0).names (hy.on hb0).kids hy.nnb (by have := hy.knb; omega) hyn.1 hyn.2)
  obtain ⟨g, cap, hla, hge, hgl⟩ := HA1.out.own.form (by omega)
  cases hla
  have hc : ∀ j, j < 9 → (w.alloc (.cells #[.int .i64 0, .slice none 0 0, .slice none 0 0, .bool false] 33)).cell? ⟨g, i * 9 + j, none⟩ = (pcells y)[j]? := fun j hj => by
    rw [HA1.out.own.cellAt (i * 9 + j) (by omega)]
    exact hp j hj
  have k0 := hc 0 (by omega)
  have k1 := hc 1 (by omega)
  have k2 := hc 2 (by omega)
  have k3 := hc 3 (by omega)
  have k4 := hc 4 (by omega)
  simp only [pcells, List.getElem?_cons_zero, List.getElem?_cons_succ, Nat.add_zero] at k0 k1 k2 k3 k4
  clear hA hp hy hyn hb0 hc hgl hge
  go_enter Tryz.func24, Tryz.ntmps24
  go_upto_region 1 with (fail)
  generalize (w.alloc (.cells #[.int .i64 0, .slice none 0 0, .slice none 0 0, .bool false] 33)) = w1 at *
  have HL1 : Hid (w.heap.size < w1.heap.size) := Lib.hid (Array.getElem?_eq_some_iff.1 HX0.out).1
  have a0 : w1.cell? ⟨A, 0, none⟩ = some (.slice (some ⟨g, 0, none⟩) ln lc) := (by rw [cell_of_row _ _ 0 _ 84 _ HA1.out.box]; rfl)
  go_upto_region 3 with (go_at_call 65; (with_reducible refine HT.out.mono ?_); rintro e w2 ⟨rfl, rfl⟩)
  go_wp2_with (first
    | (go_at_call 66; (with_reducible refine HCN.out.mono ?_); rintro e w7 ⟨a7, c7, b7, d7, rfl, hn7, hk7, hap7, hza7, hzb7, hga7, hgb7, hb7⟩; have HN7 := Lib.hid hn7; have HK7 := Lib.hid hk7; have HAP7 := Lib.hid hap7; have HZA7 := Lib.hid hza7; have HZB7 := Lib.hid hzb7; have HGA7 := Lib.hid hga7; have HGB7 := Lib.hid hgb7; have HB7 := Lib.hid hb7; have HX7 := Lib.hid ((hb7.block _ HL1.out).trans HX0.out); clear hn7 hk7 hap7 hza7 hzb7 hga7 hgb7 hb7)
    | (refine wpList_store_row rfl 33 _ _ rfl w.heap.size _ rfl rfl 33 _ HX7.out (by kernel_rfl) rfl (by simp [Value.oneCell']) ?_))
  (try simp only [Exit.inBlock, Exit.then])
  exact bodyPost_ret (v := .tuple #[.agg #[.int .i64 y.kd, .slice a7 y.nn c7, .slice b7 y.kn d7, .bool y.op], .bool true]) (results_38 (fn := Tryz.f24) (p := 4) (u := 5) rfl _ _ w.heap.size _ rfl (setRow_heap _ _ _ _ _ _ HX7.out) rfl) rfl
    ⟨a7, c7, b7, d7, rfl, HN7.out.kept0 (fun ad e h0 hl => setRow_other _ _ _ _ (by have := HGA7.out ad e; have := HL1.out; omega)) (by rw [setRow_size]; exact Nat.le_refl _),
      own_move HK7.out (fun g e => by have h3 := (HK7.out.lt g e).1; have h4 := HL1.out; exact ⟨setRow_other _ _ _ _ (by omega), by omega⟩), HAP7.out, HZA7.out, HZB7.out,
      fun ad e => Nat.le_trans (Nat.le_of_lt HL1.out) (HGA7.out ad e), fun ad e => Nat.le_trans (Nat.le_of_lt HL1.out) (HGB7.out ad e), below_row (HB0.out.trans (HB7.out.mono HB0.out.size)) (Nat.le_refl _)⟩
end Go.Proofs.YtifilhkkgkihpaaGreatDoor
