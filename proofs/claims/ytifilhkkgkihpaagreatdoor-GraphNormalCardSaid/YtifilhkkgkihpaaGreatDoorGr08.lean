/- Walks: arena.Head. -/
import Derived.Test.YtifilhkkgkihpaaGreatDoorGr07
set_option linter.unusedSimpArgs false
set_option linter.unusedVariables false
set_option linter.unusedSimpArgs false
set_option linter.unusedVariables false
namespace Go.Proofs.YtifilhkkgkihpaaGreatDoor
open Go.RowKit
def lvTo (LV : List Int) (KS : List Int) (j : Nat) : Int := (KS.take j).foldl (fun m k => max m (LV.getD k.toNat 0)) 0
theorem lvTo_succ (LV KS : List Int) (j : Nat) (x : Int) (h : KS[j]? = some x) : lvTo LV KS (j + 1) = max (lvTo LV KS j) (LV.getD x.toNat 0) := by
  unfold lvTo
  rw [List.take_add_one, h]
  simp
theorem Acts.refl (w : World) (A : Nat) (o : Option Nat) : Acts w w A o := ⟨rfl, rfl, rfl, Nat.le_refl _, fun _ _ _ _ => rfl⟩
theorem Acts.below {w w' : World} {P : Nat} {o : Option Nat} (h : Acts w w' P o) {n : Nat} (h1 : n ≤ w.heap.size) (h2 : n ≤ P) (h3 : ∀ k, o = some k → n ≤ k) : Below n w w' :=
  ⟨h.os, h.tape, h.output, h.size, fun b hb => h.block b (by omega) (by omega) (fun e => by have := h3 b e; omega)⟩
theorem NamesAt.kept0 {w w' : World} {an : Option Addr} {n : Nat} {NS : List ByteArray} (h : NamesAt w an n NS) (hk : ∀ ad, an = some ad → n ≠ 0 → ad.block < w.heap.size → w'.heap[ad.block]? = w.heap[ad.block]?) (hs : w.heap.size ≤ w'.heap.size) : NamesAt w' an n NS := by
  refine ⟨h.1, ?_⟩
  by_cases h0 : n = 0
  · exact Or.inl h0
  rcases h.2 with h' | ⟨gn, on, e, hg, hc⟩
  · exact Or.inl h'
  · exact Or.inr ⟨gn, on, e, Nat.lt_of_lt_of_le hg hs, fun i s hi => by rw [← hc i s hi]; exact World.cell?_of_block (w := w) (a := ⟨gn, on + i, none⟩) (hk ⟨gn, on, none⟩ e h0 hg)⟩
theorem IntsAt.kept0 {w w' : World} {an : Option Addr} {n : Nat} {NS : List Int} (h : IntsAt w an n NS) (hk : ∀ ad, an = some ad → n ≠ 0 → ad.block < w.heap.size → w'.heap[ad.block]? = w.heap[ad.block]?) (hs : w.heap.size ≤ w'.heap.size) : IntsAt w' an n NS := by
  refine ⟨h.1, ?_⟩
  by_cases h0 : n = 0
  · exact Or.inl h0
  rcases h.2 with h' | ⟨gn, on, e, hg, hc⟩
  · exact Or.inl h'
  · exact Or.inr ⟨gn, on, e, Nat.lt_of_lt_of_le hg hs, fun i s hi => by rw [← hc i s hi]; exact World.cell?_of_block (w := w) (a := ⟨gn, on + i, none⟩) (hk ⟨gn, on, none⟩ e h0 hg)⟩
theorem Acts.set {w w' : World} {P : Nat} {o : Option Nat} (h : Acts w w' P o) (i : Nat) (v : Value) : Acts w (w'.setCell ⟨P, i, none⟩ v).drew P o := by
  have hd : Below w'.heap.size (w'.setCell ⟨P, i, none⟩ v) (w'.setCell ⟨P, i, none⟩ v).drew := (Below.refl _ _).drew
  exact ⟨hd.os.trans h.os, hd.tape.trans h.tape, hd.output.trans h.output, by have h1 := h.size; have h2 := hd.size; have e : (w'.setCell ⟨P, i, none⟩ v).heap.size = w'.heap.size := (by simp); rw [e] at h2; exact Nat.le_trans h1 h2, fun b hb h1 h2 => by rw [hd.block b (by have := h.size; omega), Below.heap_setCell _ _ _ _ h1]; exact h.block b hb h1 h2⟩
def HeadPost (w : World) (A base : Nat) (la : Option Addr) (ln lc : Nat) (most : Int) (ps : List Value) (lv kd : Int) (nn : Nat) (NS : List ByteArray) (kn : Nat) (KS : List Int) (op : Bool) (e : Ending) (w' : World) : Prop :=
  ∃ la' lc' a4 c4 b4 d4, e = .returned (.tuple #[.int .i64 (ln : Int), .int .i64 0]) ∧ ArenaAt w' A base la' (ln + 1) lc' most (ps ++ [.int .i64 kd, .slice a4 nn c4, .slice b4 kn d4, .bool op, .bool false, .int .i64 (lv), .slice none 0 0, .slice none 0 0, .map none]) ∧ NamesAt w' a4 nn NS ∧ IntsAt w' b4 kn KS ∧ (a4 = none → c4 = 0) ∧ (b4 = none → d4 = 0) ∧ (∀ ad, a4 = some ad → w.heap.size ≤ ad.block) ∧ (∀ ad, b4 = some ad → w.heap.size ≤ ad.block) ∧ Acts w w' A (Value.slice la ln lc).ownBlock
set_option maxRecDepth 20000 in
set_option maxHeartbeats 4000000 in
theorem head_ok (w : World) (A base : Nat) (la : Option Addr) (ln lc : Nat) (most : Int) (ps : List Value) (LV : List Int) (kd : Int) (na : Option Addr) (nn nc : Nat) (NS : List ByteArray) (ka : Option Addr) (kn kc : Nat) (KS : List Int) (op : Bool) (hA : ArenaAt w A base la ln lc most ps) (hN : NamesAt w na nn NS) (hK : IntsAt w ka kn KS) (hn : nn ≤ 100000) (hk : kn ≤ 1000) (hz : ∀ s ∈ NS, s.size ≤ 100000) (hnc : na = none → nc = 0) (hkc : ka = none → kc = 0)
    (hr : rightB kd op ln NS KS = true) (hm : (ln : Int) + 1 ≤ most) (hmm : most ≤ 1048576) (hLV : ∀ i : Nat, i < ln → ps[i * 9 + 5]? = some (.int .i64 (LV.getD i 0))) :
    Calls Tryz.prog 58 #[.pointer (some ⟨A, 0, none⟩), .agg #[.int .i64 kd, .slice na nn nc, .slice ka kn kc, .bool op]] w (HeadPost w A base la ln lc most ps (lvTo LV KS kn) kd nn NS kn KS op) := by
  have hln : (ln : Int) + 1 ≤ 1048576 := by omega
  have HNC := Lib.hid hnc
  have HKC := Lib.hid hkc
  have HKL := Lib.hid hK.1
  have HLV := Lib.hid hLV
  have HZ := Lib.hid hz
  have HB1 : Hid (Below w.heap.size w (w.alloc (.cells #[.int .i64 kd, .slice na nn nc, .slice ka kn kc, .bool op] 33))) := Lib.hid ((Below.refl _ _).alloc (Nat.le_refl _) _)
  have HX1 : Hid ((w.alloc (.cells #[.int .i64 kd, .slice na nn nc, .slice ka kn kc, .bool op] 33)).heap[w.heap.size]? = some (.cells #[.int .i64 kd, .slice na nn nc, .slice ka kn kc, .bool op] 33 (0, 0))) := Lib.hid (heap_alloc_new w _)
  have HA1 := Lib.hid (hA.on HB1.out)
  have HN1 := Lib.hid (hN.on HB1.out)
  have HK1 := Lib.hid (hK.on HB1.out)
  have HLE0 : Hid (base ≤ w.heap.size) := Lib.hid hA.le
  have HAL : Hid (A < w.heap.size) := Lib.hid (Nat.lt_of_lt_of_le hA.lt hA.le)
  have HOWN : Hid (∀ g, (Value.slice la ln lc).ownBlock = some g → g < w.heap.size) := Lib.hid (fun g e => (hA.own.lt g e).2)
  have HKA : Hid (∀ i k, KS[i]? = some k → 0 ≤ k ∧ k < (ln : Int)) := Lib.hid (fun i k hi => by
    unfold rightB at hr
    simp only [Bool.and_eq_true, List.all_eq_true, decide_eq_true_eq] at hr
    exact hr.1 k (List.mem_of_getElem? hi))
  have HRT := Lib.hid (right_any (w.alloc (.cells #[.int .i64 kd, .slice na nn nc, .slice ka kn kc, .bool op] 33)) A base la ln lc most ps kd na nn nc NS ka kn kc KS op HA1.out HN1.out HK1.out hn hk hz (by omega))
  rw [hr] at HRT
  have hw1 : IntKind.i64.wrap ((ln : Int) + 1 - 1) = (ln : Int) := by rw [IntKind.wrap_i64]; omega
  clear hA hN hK hz hr hLV hnc hkc
  go_enter Tryz.func58, Tryz.ntmps58
  go_upto_region 1 with (fail)
  generalize hW1 : (w.alloc (.cells #[.int .i64 kd, .slice na nn nc, .slice ka kn kc, .bool op] 33)) = w1 at *
  have HW1 := Lib.hid hW1
  clear hW1
  have a0 : w1.cell? ⟨w.heap.size, 0, none⟩ = some (.int .i64 kd) := (by rw [cell_of_row _ _ 0 _ 33 _ HX1.out]; rfl)
  have a1 : w1.cell? ⟨w.heap.size, 1, none⟩ = some (.slice na nn nc) := (by rw [cell_of_row _ _ 1 _ 33 _ HX1.out]; rfl)
  have a2 : w1.cell? ⟨w.heap.size, 2, none⟩ = some (.slice ka kn kc) := (by rw [cell_of_row _ _ 2 _ 33 _ HX1.out]; rfl)
  have a3 : w1.cell? ⟨w.heap.size, 3, none⟩ = some (.bool op) := (by rw [cell_of_row _ _ 3 _ 33 _ HX1.out]; rfl)
  go_upto_region 5 with (go_at_call 90; (with_reducible refine HRT.out.mono ?_); rintro e w2 ⟨rfl, hb2⟩)
  clear a0 a1 a2 a3 HRT
  have HB2 : Hid (Below w1.heap.size w1 w2) := Lib.hid hb2
  have HA2 := Lib.hid (HA1.out.on hb2)
  have HR := Lib.hid (room_any w2 A la ln lc most 1 HA2.out.box (by simp only [maxLen]; omega) (by omega))
  rw [if_neg (show ¬ most < (ln : Int) + 1 by omega)] at HR
  clear hb2
  go_upto_region 8 with (go_at_call 89; (with_reducible refine HR.out.mono ?_); rintro e w3 ⟨rfl, hb3⟩)
  have HB3 : Hid (Below w1.heap.size w1 w3) := Lib.hid (HB2.out.trans (hb3.mono HB2.out.size))
  have HX3 := Lib.hid ((HB3.out.block w.heap.size (Array.getElem?_eq_some_iff.1 HX1.out).1).trans HX1.out)
  clear hb3 HR
  have a0 : w3.cell? ⟨w.heap.size, 0, none⟩ = some (.int .i64 kd) := (by rw [cell_of_row _ _ 0 _ 33 _ HX3.out]; rfl)
  have a1 : w3.cell? ⟨w.heap.size, 1, none⟩ = some (.slice na nn nc) := (by rw [cell_of_row _ _ 1 _ 33 _ HX3.out]; rfl)
  have a2 : w3.cell? ⟨w.heap.size, 2, none⟩ = some (.slice ka kn kc) := (by rw [cell_of_row _ _ 2 _ 33 _ HX3.out]; rfl)
  have a3 : w3.cell? ⟨w.heap.size, 3, none⟩ = some (.bool op) := (by rw [cell_of_row _ _ 3 _ 33 _ HX3.out]; rfl)
  have HCL := Lib.hid (clone_head w3 kd na nn nc NS ka kn kc KS op (HN1.out.on HB3.out) (HK1.out.on HB3.out) hn (by omega) HNC.out HKC.out)
  go_upto_region 9 with (go_at_call 66; (with_reducible refine HCL.out.mono ?_); rintro e w4 ⟨a4, c4, b4, d4, rfl, hn4, hk4, hza, hzb, hga, hgb, hb4⟩; have hgna : ∀ ad, a4 = some ad → nn ≠ 0 → ad.block ≠ w4.heap.size := (fun ad e h0 => (by rcases hn4.2 with h | ⟨g, o, e2, hl, _⟩; exact absurd h h0; rw [e2] at e; cases e; exact Nat.ne_of_lt hl)); have hgnb : ∀ ad, b4 = some ad → kn ≠ 0 → ad.block ≠ w4.heap.size := (fun ad e h0 => (by rcases hk4.2 with h | ⟨g, o, e2, hl, _⟩; exact absurd h h0; rw [e2] at e; cases e; exact Nat.ne_of_lt hl)))
  have HP5 : Hid ((w4.alloc (.cells #[.int .i64 kd, .slice a4 nn c4, .slice b4 kn d4, .bool op, .bool false, .int .i64 (0), .slice none 0 0, .slice none 0 0, .map none] 96)).heap[w4.heap.size]? = some (.cells #[.int .i64 kd, .slice a4 nn c4, .slice b4 kn d4, .bool op, .bool false, .int .i64 (0), .slice none 0 0, .slice none 0 0, .map none] 96 (0, 0))) := Lib.hid (heap_alloc_new w4 _)
  have HB5 : Hid (Below w1.heap.size w1 (w4.alloc (.cells #[.int .i64 kd, .slice a4 nn c4, .slice b4 kn d4, .bool op, .bool false, .int .i64 (0), .slice none 0 0, .slice none 0 0, .map none] 96))) := Lib.hid ((HB3.out.trans (hb4.mono HB3.out.size)).alloc (Nat.le_trans HB3.out.size hb4.size) _)
  have HN5 : Hid (NamesAt (w4.alloc (.cells #[.int .i64 kd, .slice a4 nn c4, .slice b4 kn d4, .bool op, .bool false, .int .i64 (0), .slice none 0 0, .slice none 0 0, .map none] 96)) a4 nn NS) := Lib.hid (hn4.on ((Below.refl _ _).alloc (Nat.le_refl _) _))
  have HK5 : Hid (IntsAt (w4.alloc (.cells #[.int .i64 kd, .slice a4 nn c4, .slice b4 kn d4, .bool op, .bool false, .int .i64 (0), .slice none 0 0, .slice none 0 0, .map none] 96)) b4 kn KS) := Lib.hid (hk4.on ((Below.refl _ _).alloc (Nat.le_refl _) _))
  have HP4 : Hid (w1.heap.size ≤ w4.heap.size) := Lib.hid (Nat.le_trans HB3.out.size hb4.size)
  have HZA := Lib.hid hza
  have HZB := Lib.hid hzb
  have HGA : Hid (∀ ad, a4 = some ad → w1.heap.size ≤ ad.block ∧ (nn ≠ 0 → ad.block ≠ w4.heap.size)) := Lib.hid (fun ad e => ⟨Nat.le_trans HB3.out.size (hga ad e), hgna ad e⟩)
  have HGB : Hid (∀ ad, b4 = some ad → w1.heap.size ≤ ad.block ∧ (kn ≠ 0 → ad.block ≠ w4.heap.size)) := Lib.hid (fun ad e => ⟨Nat.le_trans HB3.out.size (hgb ad e), hgnb ad e⟩)
  clear a0 a1 a2 a3 HCL hn4 hk4 hza hzb hga hgb hb4 hgna hgnb
  generalize (w4.alloc (.cells #[.int .i64 kd, .slice a4 nn c4, .slice b4 kn d4, .bool op, .bool false, .int .i64 (0), .slice none 0 0, .slice none 0 0, .map none] 96)) = w5 at *
  generalize w4.heap.size = P at *
  have HA5 := Lib.hid (HA1.out.on HB5.out)
  have HX5 := Lib.hid ((HB5.out.block w.heap.size (Array.getElem?_eq_some_iff.1 HX1.out).1).trans HX1.out)
  have HKO := Lib.hid (HK1.out.on HB5.out)
  have HPS : Hid (P < w5.heap.size) := Lib.hid (Array.getElem?_eq_some_iff.1 HP5.out).1
  have HW1S : Hid (w.heap.size < w1.heap.size) := Lib.hid (Array.getElem?_eq_some_iff.1 HX1.out).1
  have c2 : w5.cell? ⟨w.heap.size, 2, none⟩ = some (.slice ka kn kc) := (by rw [cell_of_row _ _ 2 _ 33 _ HX5.out]; rfl)
  have hki : (kn : Int) ≤ 1000 := by omega
  go_wp2
  clear c2
  go_loopw [29] (fun s29 wr => ∃ j : Nat, s29 = .int .i64 (j : Int) ∧ j ≤ kn ∧ Hid (wr.heap[P]? = some (.cells #[.int .i64 kd, .slice a4 nn c4, .slice b4 kn d4, .bool op, .bool false, .int .i64 (lvTo LV KS j), .slice none 0 0, .slice none 0 0, .map none] 96 (0, 0))) ∧ Hid (Acts w5 wr P none)) (fun s29 _ => kn - (intOf s29).toNat)
  case atStart => exact ⟨0, rfl, Nat.zero_le _, HP5, Lib.hid (Acts.refl _ _ _)⟩
  case round =>
    obtain ⟨j, rfl, hj, HPJ, HAC⟩ := hrel
    have hwj : IntKind.i64.wrap ((j : Int) + 1) = (j : Int) + 1 := by rw [IntKind.wrap_i64]; omega
    have HJ := Lib.hid hj
    have hab : A ≠ P := by have := HAL.out; have := HP4.out; have := HW1S.out; omega
    have HAR : Hid (wr.heap[A]? = some (.cells #[.slice la ln lc, .int .i64 most] 84 (0, 0))) := Lib.hid ((HAC.out.block A (by have := HAL.out; have := HPS.out; have := HP4.out; have := HW1S.out; omega) hab (by simp)).trans HA5.out.box)
    have b0 : wr.cell? ⟨A, 0, none⟩ = some (.slice la ln lc) := (by rw [cell_of_row _ _ 0 _ 84 _ HAR.out]; rfl)
    by_cases hjk : j < kn
    · have hjk2 : (j : Int) < kn := by omega
      obtain ⟨x, hx⟩ : ∃ x, KS[j]? = some x := ⟨_, List.getElem?_eq_getElem (by rw [← HKL.out]; exact hjk)⟩
      obtain ⟨gk, ok, rfl, hgk, hck⟩ := HK1.out.2.resolve_left (by omega)
      have ac : wr.cell? ⟨gk, ok + j, none⟩ = some (.int .i64 x) := by
        rw [← hck j x hx, ← HB5.out.cell (p := ⟨gk, ok + j, none⟩) hgk]
        exact World.cell?_of_block (w := w5) (a := ⟨gk, ok + j, none⟩) (HAC.out.block gk (Nat.lt_of_lt_of_le hgk HB5.out.size) (by have := HP4.out; omega) (by simp))
      obtain ⟨hx0, hx1⟩ := HKA.out j x hx
      obtain ⟨m, rfl⟩ : ∃ m : Nat, x = (m : Int) := ⟨x.toNat, by omega⟩
      have hmn : m < ln := by omega
      have HSX := Lib.hid (lvTo_succ LV KS j _ hx)
      have hown := HA5.out.own
      rcases hown.2 with ⟨h, _⟩ | ⟨g, cap, cur, h, hbg, hg, -⟩
      · cases h; omega
      · cases h
        have am : wr.cell? ⟨g, m * 9 + 5, none⟩ = some (.int .i64 (LV.getD m 0)) := by
          rw [← HLV.out m hmn, ← hown.cellAt (m * 9 + 5) (by omega)]
          exact World.cell?_of_block (w := w5) (a := ⟨g, m * 9 + 5, none⟩) (HAC.out.block g (Array.getElem?_eq_some_iff.1 hg).1 (by have := HOWN.out g rfl; have := HP4.out; have := HW1S.out; omega) (by simp))
        have p5 : wr.cell? ⟨P, 5, none⟩ = some (.int .i64 (lvTo LV KS j)) := (by rw [cell_of_row _ _ 5 _ 96 _ HPJ.out]; rfl)
        have q5 : wr.frozen? ⟨P, 5, none⟩ = false := frozen_of_row _ _ 5 _ 96 HPJ.out
        have HPN : Hid (∀ v : Int, v = max (lvTo LV KS j) (LV.getD m 0) → (wr.setCell ⟨P, 5, none⟩ (.int .i64 v)).drew.heap[P]? = some (.cells #[.int .i64 kd, .slice a4 nn c4, .slice b4 kn d4, .bool op, .bool false, .int .i64 (lvTo LV KS (j + 1)), .slice none 0 0, .slice none 0 0, .map none] 96 (0, 0))) := Lib.hid (by
          intro v hv
          have hd : Below wr.heap.size (wr.setCell ⟨P, 5, none⟩ (.int .i64 v)) (wr.setCell ⟨P, 5, none⟩ (.int .i64 v)).drew := (Below.refl _ _).drew
          rw [hd.block P (Array.getElem?_eq_some_iff.1 HPJ.out).1, heap_setCell_same _ P 5 _ 96 _ HPJ.out, hv, HSX.out]
          rfl)
        have HACN : Hid (∀ v : Int, Acts w5 (wr.setCell ⟨P, 5, none⟩ (.int .i64 v)).drew P none) := Lib.hid (fun v => HAC.out.set 5 (.int .i64 v))
        clear hx hck hown hg
        generalize LV.getD m 0 = lm at *
        rcases (by omega : lvTo LV KS j < lm ∨ lm ≤ lvTo LV KS j) with hmx | hmx
        · go_upto_region 12 with (fail)
          go_region
          go_wp2
          go_roundw
          case rel => exact ⟨j + 1, by go_num, by omega, Lib.hid (HPN.out _ (by first | omega | (split <;> omega))), Lib.hid (HACN.out _)⟩
          case measure => simp [intOf]; omega
        · go_upto_region 12 with (fail)
          go_region
          go_wp2
          go_roundw
          case rel => exact ⟨j + 1, by go_num, by omega, Lib.hid (HPN.out _ (by first | omega | (split <;> omega))), Lib.hid (HACN.out _)⟩
          case measure => simp [intOf]; omega
    · have hjk2 : ¬ (j : Int) < kn := by omega
      obtain rfl : kn = j := by omega
      have hbr : Below w.heap.size w wr := (HB1.out.trans (HB5.out.mono HB1.out.size)).trans (HAC.out.below (by have := HPS.out; have := HP4.out; have := HW1S.out; omega) (by have := HP4.out; have := HW1S.out; omega) (fun k e => by cases e))
      have HBR := Lib.hid hbr
      have harr : ArenaAt wr A base la ln lc most ps := ⟨HAR.out, ownsRow_mono HA5.out.own (fun g e => HAC.out.block g (HA5.out.own.lt g e).2 (by have := HOWN.out g e; have := HP4.out; have := HW1S.out; omega) (by simp)), HA5.out.lt, Nat.le_trans HA5.out.le HAC.out.size⟩
      have HARR := Lib.hid harr
      have hdr : Below wr.heap.size wr wr.drew := (Below.refl _ _).drew
      have HDR := Lib.hid hdr
      have HOD := Lib.hid (ownsRow_mono harr.own (fun g e => hdr.block g (harr.own.lt g e).2))
      obtain ⟨i0, hi, hz0, hz1, hz2⟩ := info_parts Tryz.info96
      have HI := Lib.hid hi
      have HI0 := Lib.hid hz0
      have HI1 := Lib.hid hz1
      have HI2 := Lib.hid hz2
      have HLE : Hid (base ≤ (wr.drew.alloc (.cells #[.int .i64 kd, .slice a4 nn c4, .slice b4 kn d4, .bool op, .bool false, .int .i64 (lvTo LV KS kn), .slice none 0 0, .slice none 0 0, .map none] 96)).heap.size) := Lib.hid (by have := harr.le; have := hdr.size; simp; omega)
      have HONE : Hid (∀ u ∈ ([.int .i64 kd, .slice a4 nn c4, .slice b4 kn d4, .bool op, .bool false, .int .i64 (lvTo LV KS kn), .slice none 0 0, .slice none 0 0, .map none] : List Value), u.oneCell' = true) := Lib.hid (by
        generalize lvTo LV KS kn = l
        intro u hu
        simp only [List.mem_cons, List.not_mem_nil, or_false] at hu
        rcases hu with rfl | rfl | rfl | rfl | rfl | rfl | rfl | rfl | rfl <;> rfl)
      have HB5' : Hid (∀ w5', (wr.drew.alloc (.cells #[.int .i64 kd, .slice a4 nn c4, .slice b4 kn d4, .bool op, .bool false, .int .i64 (lvTo LV KS kn), .slice none 0 0, .slice none 0 0, .map none] 96)).grownBy w5' (Value.slice la ln lc).ownBlock → w5'.heap[A]? = some (.cells #[.slice la ln lc, .int .i64 most] 84 (0, 0))) := Lib.hid (fun w5' hg => by
        have hs := HARR.out.le
        have hl := HARR.out.lt
        have hds := HDR.out.size
        rw [hg.block A (by simp; omega) (fun e => by have := ownsRow_ge HARR.out.own A e.symm; omega), Below.heap_alloc _ _ _ (by omega), HDR.out.block A (by omega)]
        exact HARR.out.box)
      have b02 : (wr.alloc (.cells #[.int .i64 kd, .slice a4 nn c4, .slice b4 kn d4, .bool op, .bool false, .int .i64 (lvTo LV KS kn), .slice none 0 0, .slice none 0 0, .map none] 96)).cell? ⟨A, 0, none⟩ = some (.slice la ln lc) := (by rw [cell_of_row _ _ 0 _ 84 _ ((Below.heap_alloc _ _ _ (by have := HARR.out.le; have := HARR.out.lt; omega)).trans HAR.out)]; rfl)
      have p0 : wr.cell? ⟨P, 0, none⟩ = some (.int .i64 kd) := (by rw [cell_of_row _ _ 0 _ 96 _ HPJ.out]; rfl)
      have p1 : wr.cell? ⟨P, 1, none⟩ = some (.slice a4 nn c4) := (by rw [cell_of_row _ _ 1 _ 96 _ HPJ.out]; rfl)
      have p2 : wr.cell? ⟨P, 2, none⟩ = some (.slice b4 kn d4) := (by rw [cell_of_row _ _ 2 _ 96 _ HPJ.out]; rfl)
      have p3 : wr.cell? ⟨P, 3, none⟩ = some (.bool op) := (by rw [cell_of_row _ _ 3 _ 96 _ HPJ.out]; rfl)
      have p4 : wr.cell? ⟨P, 4, none⟩ = some (.bool false) := (by rw [cell_of_row _ _ 4 _ 96 _ HPJ.out]; rfl)
      have p5 : wr.cell? ⟨P, 5, none⟩ = some (.int .i64 (lvTo LV KS kn)) := (by rw [cell_of_row _ _ 5 _ 96 _ HPJ.out]; rfl)
      have p6 : wr.cell? ⟨P, 6, none⟩ = some (.slice none 0 0) := (by rw [cell_of_row _ _ 6 _ 96 _ HPJ.out]; rfl)
      have p7 : wr.cell? ⟨P, 7, none⟩ = some (.slice none 0 0) := (by rw [cell_of_row _ _ 7 _ 96 _ HPJ.out]; rfl)
      have p8 : wr.cell? ⟨P, 8, none⟩ = some (.map none) := (by rw [cell_of_row _ _ 8 _ 96 _ HPJ.out]; rfl)
      clear hbr harr hdr hi hz0 hz1 hz2
      generalize hlk : lvTo LV KS kn = lk at *
      go_upto_region 14 with (fail)
      go_region_law
        (first
          | (refine step_append_lies (wr.drew.alloc (.cells #[.int .i64 kd, .slice a4 nn c4, .slice b4 kn d4, .bool op, .bool false, .int .i64 (lk), .slice none 0 0, .slice none 0 0, .map none] 96)) rfl _ _ 82 rfl base 96 i0 (.agg #[.int .i64 0, .slice none 0 0, .slice none 0 0, .bool false, .bool false, .int .i64 0, .slice none 0 0, .slice none 0 0, .map none]) 9 136 Tryz.underlying82 HI.out HI0.out HI1.out HI2.out rfl (by decide) (.slice la ln lc) ln ps rfl (HOD.out.alloc _) ⟨wr.heap.size, 0, none⟩ 1 1 [.int .i64 kd, .slice a4 nn c4, .slice b4 kn d4, .bool op, .bool false, .int .i64 (lk), .slice none 0 0, .slice none 0 0, .map none] rfl rfl (news_of (heap_alloc_new wr.drew _)) HONE.out (by decide) (by unfold maxLen; omega) (by omega) HLE.out _ rfl ?_; intro g5 cc5 w6 hown hgr hat hlt; have hA5 := HB5'.out w6 hgr; have a5 : w6.cell? ⟨A, 0, none⟩ = some (.slice la ln lc) := (by rw [cell_of_row _ _ 0 _ 84 _ hA5]; rfl); have f5 : w6.frozen? ⟨A, 0, none⟩ = false := frozen_of_row _ _ 0 _ 84 hA5; clear hA5 hat hlt; have HOW := Lib.hid hown; have HGR := Lib.hid hgr; clear hown hgr)
          | fail)
      all_goals
        have hfin := HARR.out.acts (wb := wr.drew.alloc (.cells #[.int .i64 kd, .slice a4 nn c4, .slice b4 kn d4, .bool op, .bool false, .int .i64 (lk), .slice none 0 0, .slice none 0 0, .map none] 96)) (HDR.out.alloc HDR.out.size _) HBR.out HLE0.out HOW.out HGR.out
        have hfr : ∀ b, b < w5.heap.size → b ≠ P → w1.heap.size ≤ b → (w6.setCell ⟨A, 0, none⟩ (.slice (some ⟨g5, 0, none⟩) (ln + 1) cc5)).heap[b]? = w5.heap[b]? := fun b hb h1 h2 => by
          have hs1 := HW1S.out
          have hal := HAL.out
          have hac := HAC.out.size
          have hds := HDR.out.size
          rw [Below.heap_setCell _ _ _ _ (by simp; omega), HGR.out.block b (by simp; omega) (fun e => by have := HOWN.out b e.symm; omega), Below.heap_alloc _ _ _ (by omega), HDR.out.block b (by omega)]
          exact HAC.out.block b hb h1 (by simp)
        have hsz : w5.heap.size ≤ (w6.setCell ⟨A, 0, none⟩ (.slice (some ⟨g5, 0, none⟩) (ln + 1) cc5)).heap.size := by
          have hac := HAC.out.size
          have hds := HDR.out.size
          have := HGR.out.size
          simp only [World.size_alloc] at this
          simp
          omega
        have HNF := Lib.hid (HN5.out.kept0 (fun ad e h0 hl => hfr _ hl ((HGA.out ad e).2 h0) (HGA.out ad e).1) hsz)
        have HKF := Lib.hid (HK5.out.kept0 (fun ad e h0 hl => hfr _ hl ((HGB.out ad e).2 h0) (HGB.out ad e).1) hsz)
        have HFIN := Lib.hid hfin
        clear hfin hfr hsz HGR HOW a5 f5 b0 b02 p0 p1 p2 p3 p4 p5 p6 p7 p8
        generalize (w6.setCell ⟨A, 0, none⟩ (.slice (some ⟨g5, 0, none⟩) (ln + 1) cc5)) = w7 at *
        have a7 : w7.cell? ⟨A, 0, none⟩ = some (.slice (some ⟨g5, 0, none⟩) (ln + 1) cc5) := (by rw [cell_of_row _ _ 0 _ 84 _ HFIN.out.1.box]; rfl)
        go_wp2
        go_ret2
        exact ⟨some ⟨g5, 0, none⟩, cc5, a4, c4, b4, d4, by simp [IntKind.wrap_i64] <;> omega, HFIN.out.1, HNF.out, HKF.out, HZA.out, HZB.out, fun ad e => Nat.le_trans HB1.out.size (HGA.out ad e).1, fun ad e => Nat.le_trans HB1.out.size (HGB.out ad e).1, HFIN.out.2⟩
end Go.Proofs.YtifilhkkgkihpaaGreatDoor
