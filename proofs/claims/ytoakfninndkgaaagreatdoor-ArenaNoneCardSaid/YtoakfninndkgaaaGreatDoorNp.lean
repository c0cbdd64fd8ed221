/- Walks: arena.right. -/
import Derived.Test.YtoakfninndkgaaaGreatDoorNo
set_option linter.unusedVariables false
namespace Go.Proofs.YtoakfninndkgaaaGreatDoor
open Go.RowKit
def zerosTo (j : Nat) : List Value := List.replicate j (.int .i64 0)
theorem zerosTo_succ (j : Nat) : zerosTo (j + 1) = zerosTo j ++ [.int .i64 0] := List.replicate_succ'
structure RightLoop (w1 wr : World) (R G : Nat) (kd : Int) (na : Option Addr) (nn nc : Nat) (op : Bool) (j : Nat) (aq : Option Addr) (cq : Nat) : Prop where
  g : wr.heap[G]? = some (.cells #[.int .i64 kd, .slice na nn nc, .slice aq j cq, .bool op] 38 (0, 0))
  o : wr.ownsRow R 3 1 (.slice aq j cq) j (zerosTo j)
  keep : ∀ b, b < R → b ≠ G → wr.heap[b]? = w1.heap[b]?
  lg : G < R
  size : R ≤ wr.heap.size
  os : wr.os = w1.os
  tape : wr.tape = w1.tape
  output : wr.output = w1.output
theorem RightLoop.lo5 {w1 wr w5 : World} {R G : Nat} {kd : Int} {na : Option Addr} {nn nc : Nat} {op : Bool} {j : Nat} {aq : Option Addr} {cq : Nat} {o : Obj} (h : RightLoop w1 wr R G kd na nn nc op j aq cq) (hg : (wr.drew.alloc o).grownBy w5 (Value.slice aq j cq).ownBlock) : w5.heap[G]? = some (.cells #[.int .i64 kd, .slice na nn nc, .slice aq j cq, .bool op] 38 (0, 0)) := by
  have hs := h.size
  have l := h.lg
  have hd : Below wr.heap.size wr wr.drew := (Below.refl _ _).drew
  have hds := hd.size
  rw [hg.block G (by simp; omega) (fun e => by have := ownsRow_ge h.o G e.symm; omega), Below.heap_alloc _ _ _ (by omega)]
  exact (hd.block G (by omega)).trans h.g
theorem RightLoop.lo6 {w1 wr w5 : World} {R G : Nat} {kd : Int} {na : Option Addr} {nn nc : Nat} {op : Bool} {j : Nat} {aq : Option Addr} {cq : Nat} {o : Obj} (h : RightLoop w1 wr R G kd na nn nc op j aq cq) (hg : (wr.drew.alloc o).grownBy w5 (Value.slice aq j cq).ownBlock) {b : Nat} (hb : b < R) (hn : b ≠ G) : w5.heap[b]? = w1.heap[b]? := by
  have hs := h.size
  have hd : Below wr.heap.size wr wr.drew := (Below.refl _ _).drew
  have hds := hd.size
  rw [hg.block b (by simp; omega) (fun e => by have := ownsRow_ge h.o b e.symm; omega), Below.heap_alloc _ _ _ (by omega)]
  exact (hd.block b (by omega)).trans (h.keep b hb hn)
theorem RightLoop.step {w1 wr w5 : World} {R G : Nat} {kd : Int} {na : Option Addr} {nn nc : Nat} {op : Bool} {j : Nat} {aq : Option Addr} {cq : Nat} {o : Obj} {a2 : Option Addr} {c2 : Nat} (h : RightLoop w1 wr R G kd na nn nc op j aq cq)
    (hown : w5.ownsRow R 3 1 (.slice a2 (j + 1) c2) (j + 1) (zerosTo j ++ [.int .i64 0])) (hg : (wr.drew.alloc o).grownBy w5 (Value.slice aq j cq).ownBlock) : RightLoop w1 (w5.setCell ⟨G, 2, none⟩ (.slice a2 (j + 1) c2)) R G kd na nn nc op (j + 1) a2 c2 := by
  have hs := h.size
  have hd : Below wr.heap.size wr wr.drew := (Below.refl _ _).drew
  have hds := hd.size
  have hlo : ∀ b, b < R → w5.heap[b]? = wr.heap[b]? := fun b hb => by
    rw [hg.block b (by simp; omega) (fun e => by have := ownsRow_ge h.o b e.symm; omega), Below.heap_alloc _ _ _ (by omega)]
    exact hd.block b (by omega)
  have hsz : wr.drew.heap.size + 1 ≤ w5.heap.size := by have := hg.size; simpa using this
  refine ⟨?_, ?_, fun b hb h1 => ?_, h.lg, by simp; omega, ?_, ?_, ?_⟩
  · rw [heap_setCell_same _ G 2 _ 38 _ ((hlo G h.lg).trans h.g)]
    rfl
  · rw [zerosTo_succ]
    exact ownsRow_setCell_below hown h.lg _
  · rw [Below.heap_setCell _ _ _ _ h1, hlo b hb]
    exact h.keep b hb h1
  · exact hg.os.trans (hd.os.trans h.os)
  · exact hg.tape.trans (hd.tape.trans h.tape)
  · exact hg.output.trans (hd.output.trans h.output)
theorem RightLoop.below {w1 w w0 : World} {R G : Nat} {kd : Int} {na : Option Addr} {nn nc : Nat} {op : Bool} {j : Nat} {aq : Option Addr} {cq : Nat} (h : RightLoop w1 w R G kd na nn nc op j aq cq) {n : Nat} (hb : Below n w0 w1) (h7 : n ≤ G) (hr : w1.heap.size ≤ R) : Below n w0 w := by
  have hs := h.size
  have l7 := h.lg
  have hb2 := hb.size
  exact ⟨h.os.trans hb.os, h.tape.trans hb.tape, h.output.trans hb.output, by omega, fun i hi => (h.keep i (by omega) (by omega)).trans (hb.block i hi)⟩
theorem RightLoop.kids {w1 w : World} {R G : Nat} {kd : Int} {na : Option Addr} {nn nc : Nat} {op : Bool} {j : Nat} {aq : Option Addr} {cq : Nat} (h : RightLoop w1 w R G kd na nn nc op j aq cq) : IntsAt w aq j (List.replicate j 0) := by
  refine ⟨by simp, ?_⟩
  rcases h.o.2 with ⟨_, hz⟩ | ⟨gq, cap2, cur2, e', hb', hg', -⟩
  · exact Or.inl hz
  · right
    have ea : aq = some ⟨gq, 0, none⟩ := by injection e'
    subst ea
    refine ⟨gq, 0, rfl, (Array.getElem?_eq_some_iff.1 hg').1, fun i k hi => ?_⟩
    have hl := (List.getElem?_eq_some_iff.1 hi).1
    simp only [List.length_replicate] at hl
    rw [h.o.cellAt (0 + i) (by omega), Nat.zero_add]
    rw [List.getElem?_replicate, if_pos hl] at hi
    cases hi
    unfold zerosTo
    rw [List.getElem?_replicate, if_pos hl]
/-- may a head be, with kids that are parts? -/
def rightB (kd : Int) (op : Bool) (n : Nat) (NS : List ByteArray) (KS : List Int) : Bool := KS.all (fun k => decide (0 ≤ k) && decide (k < (n : Int))) && headB kd op 1 NS (List.replicate KS.length 0)
set_option maxRecDepth 20000 in
set_option maxHeartbeats 4000000 in
theorem right_any (w : World) (A base : Nat) (la : Option Addr) (ln lc : Nat) (most : Int) (ps : List Value) (kd : Int) (na : Option Addr) (nn nc : Nat) (NS : List ByteArray) (ka : Option Addr) (kn kc : Nat) (KS : List Int) (op : Bool) (hA : ArenaAt w A base la ln lc most ps) (hN : NamesAt w na nn NS) (hK : IntsAt w ka kn KS) (hn : nn ≤ 100000) (hk : kn ≤ 1000) (hz : ∀ s ∈ NS, s.size ≤ 100000) (hln : (ln : Int) ≤ 9000000000000000) :
    Calls Tryz.prog 46 #[.pointer (some ⟨A, 0, none⟩), .agg #[.int .i64 kd, .slice na nn nc, .slice ka kn kc, .bool op]] w (BoolPost w (rightB kd op ln NS KS)) := by
  have HA0 := Lib.hid hA
  have HN0 := Lib.hid hN
  have HK0 := Lib.hid hK
  have HZ := Lib.hid hz
  have HL := Lib.hid (show A < w.heap.size from Nat.lt_of_lt_of_le hA.lt hA.le)
  have HB1 : Hid (Below w.heap.size w (((w.alloc (.cells #[.int .i64 kd, .slice na nn nc, .slice ka kn kc, .bool op] 38)).alloc (.cells #[.int .i64 kd, .slice na nn nc, .slice none 0 0, .bool op] 38)).alloc (.cells #[.slice (some ⟨w.heap.size + 1, 0, none⟩) 1 1, .int .i64 0] 24))) := Lib.hid ((((Below.refl _ _).alloc (Nat.le_refl _) _).alloc (by simp) _).alloc (by simp <;> omega) _)
  have HX1 : Hid ((((w.alloc (.cells #[.int .i64 kd, .slice na nn nc, .slice ka kn kc, .bool op] 38)).alloc (.cells #[.int .i64 kd, .slice na nn nc, .slice none 0 0, .bool op] 38)).alloc (.cells #[.slice (some ⟨w.heap.size + 1, 0, none⟩) 1 1, .int .i64 0] 24)).heap[w.heap.size]? = some (.cells #[.int .i64 kd, .slice na nn nc, .slice ka kn kc, .bool op] 38 (0, 0))) := Lib.hid (by rw [Below.heap_alloc _ _ _ (by simp <;> omega), Below.heap_alloc _ _ _ (by simp)]; exact heap_alloc_new w _)
  have HG1 : Hid ((((w.alloc (.cells #[.int .i64 kd, .slice na nn nc, .slice ka kn kc, .bool op] 38)).alloc (.cells #[.int .i64 kd, .slice na nn nc, .slice none 0 0, .bool op] 38)).alloc (.cells #[.slice (some ⟨w.heap.size + 1, 0, none⟩) 1 1, .int .i64 0] 24)).heap[w.heap.size + 1]? = some (.cells #[.int .i64 kd, .slice na nn nc, .slice none 0 0, .bool op] 38 (0, 0))) := Lib.hid (by
    rw [Below.heap_alloc _ _ _ (by simp)]
    have := heap_alloc_new (w.alloc (.cells #[.int .i64 kd, .slice na nn nc, .slice ka kn kc, .bool op] 38)) (.cells #[.int .i64 kd, .slice na nn nc, .slice none 0 0, .bool op] 38)
    simpa using this)
  have HT1 : Hid ((((w.alloc (.cells #[.int .i64 kd, .slice na nn nc, .slice ka kn kc, .bool op] 38)).alloc (.cells #[.int .i64 kd, .slice na nn nc, .slice none 0 0, .bool op] 38)).alloc (.cells #[.slice (some ⟨w.heap.size + 1, 0, none⟩) 1 1, .int .i64 0] 24)).heap[w.heap.size + 1 + 1]? = some (.cells #[.slice (some ⟨w.heap.size + 1, 0, none⟩) 1 1, .int .i64 0] 24 (0, 0))) := Lib.hid (by
    have := heap_alloc_new ((w.alloc (.cells #[.int .i64 kd, .slice na nn nc, .slice ka kn kc, .bool op] 38)).alloc (.cells #[.int .i64 kd, .slice na nn nc, .slice none 0 0, .bool op] 38)) (.cells #[.slice (some ⟨w.heap.size + 1, 0, none⟩) 1 1, .int .i64 0] 24)
    simpa using this)
  have HS1 : Hid ((((w.alloc (.cells #[.int .i64 kd, .slice na nn nc, .slice ka kn kc, .bool op] 38)).alloc (.cells #[.int .i64 kd, .slice na nn nc, .slice none 0 0, .bool op] 38)).alloc (.cells #[.slice (some ⟨w.heap.size + 1, 0, none⟩) 1 1, .int .i64 0] 24)).heap.size = w.heap.size + 3) := Lib.hid (by simp)
  have HKL := Lib.hid hK.1
  clear hA hN hK hz
  go_enter Tryz.func46, Tryz.ntmps46
  have a0 : (w.alloc (.cells #[.int .i64 kd, .slice na nn nc, .slice ka kn kc, .bool op] 38)).cell? ⟨w.heap.size, 0, none⟩ = some (.int .i64 kd) := (by rw [cell_of_row _ _ 0 _ 38 _ (heap_alloc_new w _)]; rfl)
  have a1 : (w.alloc (.cells #[.int .i64 kd, .slice na nn nc, .slice ka kn kc, .bool op] 38)).cell? ⟨w.heap.size, 1, none⟩ = some (.slice na nn nc) := (by rw [cell_of_row _ _ 1 _ 38 _ (heap_alloc_new w _)]; rfl)
  have a3 : (w.alloc (.cells #[.int .i64 kd, .slice na nn nc, .slice ka kn kc, .bool op] 38)).cell? ⟨w.heap.size, 3, none⟩ = some (.bool op) := (by rw [cell_of_row _ _ 3 _ 38 _ (heap_alloc_new w _)]; rfl)
  go_upto_region 2 with (fail)
  clear a0 a1 a3
  generalize (((w.alloc (.cells #[.int .i64 kd, .slice na nn nc, .slice ka kn kc, .bool op] 38)).alloc (.cells #[.int .i64 kd, .slice na nn nc, .slice none 0 0, .bool op] 38)).alloc (.cells #[.slice (some ⟨w.heap.size + 1, 0, none⟩) 1 1, .int .i64 0] 24)) = w1 at *
  have b2 : w1.cell? ⟨w.heap.size, 2, none⟩ = some (.slice ka kn kc) := (by rw [cell_of_row _ _ 2 _ 38 _ HX1.out]; rfl)
  have hki : (kn : Int) ≤ 1000 := by omega
  go_wp2
  clear b2
  have HL0 : Hid (RightLoop w1 w1 w1.heap.size (w.heap.size + 1) kd na nn nc op 0 none 0) := Lib.hid ⟨HG1.out, World.ownsRow_nil _ _ _ _, fun _ _ _ => rfl, by have := HS1.out; omega, Nat.le_refl _, rfl, rfl, rfl⟩
  obtain ⟨i3, hi3, hz30, hz31, hz32⟩ := info_parts Tryz.info3
  have HI3 := Lib.hid hi3
  have HI30 := Lib.hid hz30
  have HI31 := Lib.hid hz31
  have HI32 := Lib.hid hz32
  clear hi3 hz30 hz31 hz32
  go_loopw [20] (fun s20 wr => ∃ (j : Nat) (aq : Option Addr) (cq : Nat), s20 = .int .i64 (j : Int) ∧ j ≤ kn ∧ Hid (RightLoop w1 wr w1.heap.size (w.heap.size + 1) kd na nn nc op j aq cq) ∧ Hid (∀ i k, i < j → KS[i]? = some k → 0 ≤ k ∧ k < (ln : Int))) (fun s20 _ => kn - (intOf s20).toNat)
  case atStart => exact ⟨0, none, 0, rfl, Nat.zero_le _, HL0, Lib.hid (fun i k h => by omega)⟩
  case round =>
    obtain ⟨j, aq, cq, rfl, hj, HLP, HA⟩ := hrel
    have HBR : Hid (Below w.heap.size w wr) := Lib.hid (HLP.out.below HB1.out (by omega) (Nat.le_refl _))
    have HSR : Hid (w1.heap.size ≤ wr.heap.size) := Lib.hid HLP.out.size
    have hwj : IntKind.i64.wrap ((j : Int) + 1) = (j : Int) + 1 := by rw [IntKind.wrap_i64]; omega
    have HJ := Lib.hid hj
    by_cases hjk : j < kn
    · have hjk2 : (j : Int) < kn := by omega
      obtain ⟨x, hx⟩ : ∃ x, KS[j]? = some x := ⟨_, List.getElem?_eq_getElem (by rw [← HKL.out]; exact hjk)⟩
      obtain ⟨gk, ok, rfl, hgk, hck⟩ := (HK0.out.on HBR.out).2.resolve_left (by omega)
      have ac := hck j x hx
      have HXX := Lib.hid hx
      have d0 : wr.cell? ⟨A, 0, none⟩ = some (.slice la ln lc) := (by rw [cell_of_row _ _ 0 _ 79 _ ((HBR.out.block A HL.out).trans HA0.out.box)]; rfl)
      clear hx hck hgk
      by_cases h0 : 0 ≤ x ∧ x < (ln : Int)
      · obtain ⟨h1, h2⟩ := h0
        have h3 : ¬ x < 0 := by omega
        have h4 : ¬ (ln : Int) ≤ x := by omega
        have t0 : wr.cell? ⟨w.heap.size + 1 + 1, 0, none⟩ = some (.slice (some ⟨w.heap.size + 1, 0, none⟩) 1 1) := (by rw [cell_of_row _ _ 0 _ 24 _ ((HLP.out.keep _ (by have := HS1.out; omega) (by omega)).trans HT1.out)]; rfl)
        have g2 : wr.cell? ⟨w.heap.size + 1, 2, none⟩ = some (.slice aq j cq) := (by rw [cell_of_row _ _ 2 _ 38 _ HLP.out.g]; rfl)
        have t02 : (wr.alloc (.cells #[.int .i64 0] 3)).cell? ⟨w.heap.size + 1 + 1, 0, none⟩ = some (.slice (some ⟨w.heap.size + 1, 0, none⟩) 1 1) := (by rw [cell_of_row _ _ 0 _ 24 _ ((Below.heap_alloc _ _ _ (by have := HSR.out; have := HS1.out; omega)).trans ((HLP.out.keep _ (by have := HS1.out; omega) (by omega)).trans HT1.out))]; rfl)
        have g22 : (wr.alloc (.cells #[.int .i64 0] 3)).cell? ⟨w.heap.size + 1, 2, none⟩ = some (.slice aq j cq) := (by rw [cell_of_row _ _ 2 _ 38 _ ((Below.heap_alloc _ _ _ (by have := HSR.out; have := HS1.out; omega)).trans HLP.out.g)]; rfl)
        go_upto_region 7 with (fail)
        clear d0 ac
        go_region_law
          (first
            | (refine step_append_lies (wr.drew.alloc (.cells #[.int .i64 0] 3)) rfl _ _ 36 rfl w1.heap.size 3 i3 (.int .i64 0) 1 8 Tryz.underlying36 HI3.out HI30.out HI31.out HI32.out rfl (by decide) (.slice aq j cq) j (zerosTo j) rfl ((ownsRow_mono HLP.out.o (fun g hg => ((Below.refl _ _).drew).block g (HLP.out.o.lt g hg).2)).alloc _) ⟨wr.heap.size, 0, none⟩ 1 1 [.int .i64 0] rfl rfl (news_of (heap_alloc_new wr.drew _)) (by simp [Value.oneCell']) (by decide) (by unfold maxLen; omega) (by omega) (by have := HSR.out; have h5 : Below wr.heap.size wr wr.drew := (Below.refl _ _).drew; have := h5.size; simp; omega) _ rfl ?_; intro g5 c5 w5 hown hgr hat hlt; have hG5 := HLP.out.lo5 hgr; have m5 : w5.cell? ⟨w.heap.size + 1, 2, none⟩ = some (.slice aq j cq) := (by rw [cell_of_row _ _ 2 _ 38 _ hG5]; rfl); have f5 : w5.frozen? ⟨w.heap.size + 1, 2, none⟩ = false := frozen_of_row _ _ 2 _ 38 hG5; have m0 : w5.cell? ⟨w.heap.size + 1 + 1, 0, none⟩ = some (.slice (some ⟨w.heap.size + 1, 0, none⟩) 1 1) := (by rw [cell_of_row _ _ 0 _ 24 _ ((HLP.out.lo6 hgr (by have := HS1.out; omega) (by omega)).trans HT1.out)]; rfl))
            | fail)
        all_goals
          have HLQ := Lib.hid (HLP.out.step hown hgr)
          clear hown hgr hat hlt m5 f5 hG5 m0
          go_wp2
          go_roundw
          case rel => exact ⟨j + 1, _, _, by go_num, by omega, HLQ, Lib.hid (fun i k hi hk' => by
            by_cases he : i = j
            · subst he
              have := hk'.symm.trans HXX.out
              cases this
              exact ⟨h1, h2⟩
            · exact HA.out i k (by omega) hk')⟩
          case measure => simp [intOf]; omega
      · have hf : rightB kd op ln NS KS = false := by
          unfold rightB
          have : (KS.all fun k => decide (0 ≤ k) && decide (k < (ln : Int))) = false := List.all_eq_false.2 ⟨x, List.mem_of_getElem? HXX.out, by simp; omega⟩
          rw [this]
          simp
        have HF := Lib.hid hf
        clear hf
        rcases (by omega : x < 0 ∨ (0 ≤ x ∧ (ln : Int) ≤ x)) with h1 | ⟨h1, h2⟩
        · clear h0
          go_wp2
          go_ret
          exact ⟨by rw [HF.out]; rfl, HBR.out⟩
        · clear h0
          have h3 : ¬ x < 0 := by omega
          go_wp2
          go_ret
          exact ⟨by rw [HF.out]; rfl, HBR.out⟩
    · have hjk2 : ¬ (j : Int) < kn := by omega
      obtain rfl : kn = j := by omega
      have hall : (KS.all fun k => decide (0 ≤ k) && decide (k < (ln : Int))) = true := List.all_eq_true.2 (fun x hx => by
        obtain ⟨i, hi⟩ := List.getElem?_of_mem hx
        have := HA.out i x (by rw [HKL.out]; exact (List.getElem?_eq_some_iff.1 hi).1) hi
        simp [this.1, this.2])
      have hin : HeadsIn wr (some ⟨w.heap.size + 1, 0, none⟩) 1 [⟨kd, na, nn, nc, NS, aq, kn, cq, List.replicate kn 0, op⟩] := ⟨rfl, Or.inr ⟨w.heap.size + 1, 0, rfl, by have := HSR.out; have := HS1.out; omega, fun i h hi => by
        cases i with
        | zero =>
          cases hi
          exact ⟨by rw [cell_of_row _ _ _ _ 38 _ HLP.out.g]; rfl, by rw [cell_of_row _ _ _ _ 38 _ HLP.out.g]; rfl, by rw [cell_of_row _ _ _ _ 38 _ HLP.out.g]; rfl, by rw [cell_of_row _ _ _ _ 38 _ HLP.out.g]; rfl, ⟨HN0.out.on HBR.out, HLP.out.kids, hn, hk, HZ.out⟩⟩
        | succ i => simp at hi⟩⟩
      have hck := check_any wr _ 1 1 0 _ hin (by decide)
      have hg : graphB 0 [⟨kd, na, nn, nc, NS, aq, kn, cq, List.replicate kn 0, op⟩] = rightB kd op ln NS KS := by
        unfold graphB rightB
        rw [hall, ← HKL.out]
        simp
      rw [hg] at hck
      have HCK := Lib.hid hck
      have t0 : wr.cell? ⟨w.heap.size + 1 + 1, 0, none⟩ = some (.slice (some ⟨w.heap.size + 1, 0, none⟩) 1 1) := (by rw [cell_of_row _ _ 0 _ 24 _ ((HLP.out.keep _ (by have := HS1.out; omega) (by omega)).trans HT1.out)]; rfl)
      have t1 : wr.cell? ⟨w.heap.size + 1 + 1, 1, none⟩ = some (.int .i64 0) := (by rw [cell_of_row _ _ 1 _ 24 _ ((HLP.out.keep _ (by have := HS1.out; omega) (by omega)).trans HT1.out)]; rfl)
      clear hck hg hin hall
      generalize rightB kd op ln NS KS = tb at *
      cases tb with
      | false =>
        go_wp2_with (go_at_call 50; (with_reducible refine HCK.out.mono ?_); rintro e w12 ⟨rfl, hb12⟩; simp only [errB])
        go_ret
        exact ⟨rfl, HBR.out.trans (hb12.mono HBR.out.size)⟩
      | true =>
        go_wp2_with (go_at_call 50; (with_reducible refine HCK.out.mono ?_); rintro e w12 ⟨rfl, hb12⟩; simp only [errB])
        go_ret
        exact ⟨rfl, HBR.out.trans (hb12.mono HBR.out.size)⟩
end Go.Proofs.YtoakfninndkgaaaGreatDoor
