/- Walks: ValueWeighs. -/
import Derived.Test.YtpefajgllapicaaDoorUf
set_option linter.unusedVariables false
namespace Go.Proofs.YtpefajgllapicaaDoor.valueWeighs
open Go.RowKit
set_option maxRecDepth 20000 in
theorem made_long (w : World) (a : Option Addr) (n c : Nat) (h20 : 20 < n) : Calls Tryd.prog 6 #[.slice a n c] w (MadePost w) := by
  have hn2 : (20 : Int) < n := by omega
  have hn0 : ((n : Int) == 0) = false := by simp; omega
  have HRB : Hid ((w.alloc (.cells #[.int .i64 0, .int .i64 0, .int .u64 0, .string ⟨#[]⟩, .slice none 0 0, .slice none 0 0, .pointer none, .int .i64 0] 28)).heap[w.heap.size]? = some (.cells #[.int .i64 0, .int .i64 0, .int .u64 0, .string ⟨#[]⟩, .slice none 0 0, .slice none 0 0, .pointer none, .int .i64 0] 28 (0, 0))) := Lib.hid (heap_alloc_new w _)
  have HBX : Hid (Below w.heap.size w (w.alloc (.cells #[.int .i64 0, .int .i64 0, .int .u64 0, .string ⟨#[]⟩, .slice none 0 0, .slice none 0 0, .pointer none, .int .i64 0] 28))) := Lib.hid ((Below.refl _ _).alloc (Nat.le_refl _) _)
  go_enter Tryd.func6, Tryd.ntmps6
  go_upto_region 1 with (fail)
  generalize (w.alloc (.cells #[.int .i64 0, .int .i64 0, .int .u64 0, .string ⟨#[]⟩, .slice none 0 0, .slice none 0 0, .pointer none, .int .i64 0] 28)) = w3 at *
  go_wp2_with (refine wpList_store_row rfl 28 _ _ rfl w.heap.size #[.int .i64 0, .int .i64 0, .int .u64 0, .string ⟨#[]⟩, .slice none 0 0, .slice none 0 0, .pointer none, .int .i64 0] rfl rfl 28 _ HRB.out (by kernel_rfl) rfl (by simp [Value.oneCell']) ?_)
  (try simp only [Exit.inBlock, Exit.then])
  exact bodyPost_ret (v := .tuple #[.agg #[.int .i64 0, .int .i64 0, .int .u64 0, .string ⟨#[]⟩, .slice none 0 0, .slice none 0 0, .pointer none, .int .i64 0], .bool false]) (results_6 (fn := Tryd.f6) (p := 2) (u := 3) rfl _ _ w.heap.size #[.int .i64 0, .int .i64 0, .int .u64 0, .string ⟨#[]⟩, .slice none 0 0, .slice none 0 0, .pointer none, .int .i64 0] rfl (setRow_heap _ _ _ _ _ _ HRB.out) rfl) rfl ⟨keep_set HBX.out (Nat.le_refl _), Or.inl rfl⟩
set_option maxRecDepth 20000 in
theorem made_zero (w : World) (a : Option Addr) (n c : Nat) (h0 : n = 0) : Calls Tryd.prog 6 #[.slice a n c] w (MadePost w) := by
  have hn0 : ((n : Int) == 0) = true := by simp [h0]
  clear h0
  have HRB : Hid ((w.alloc (.cells #[.int .i64 0, .int .i64 0, .int .u64 0, .string ⟨#[]⟩, .slice none 0 0, .slice none 0 0, .pointer none, .int .i64 0] 28)).heap[w.heap.size]? = some (.cells #[.int .i64 0, .int .i64 0, .int .u64 0, .string ⟨#[]⟩, .slice none 0 0, .slice none 0 0, .pointer none, .int .i64 0] 28 (0, 0))) := Lib.hid (heap_alloc_new w _)
  have HBX : Hid (Below w.heap.size w (w.alloc (.cells #[.int .i64 0, .int .i64 0, .int .u64 0, .string ⟨#[]⟩, .slice none 0 0, .slice none 0 0, .pointer none, .int .i64 0] 28))) := Lib.hid ((Below.refl _ _).alloc (Nat.le_refl _) _)
  go_enter Tryd.func6, Tryd.ntmps6
  go_upto_region 1 with (fail)
  generalize (w.alloc (.cells #[.int .i64 0, .int .i64 0, .int .u64 0, .string ⟨#[]⟩, .slice none 0 0, .slice none 0 0, .pointer none, .int .i64 0] 28)) = w3 at *
  go_wp2_with (refine wpList_store_row rfl 28 _ _ rfl w.heap.size #[.int .i64 0, .int .i64 0, .int .u64 0, .string ⟨#[]⟩, .slice none 0 0, .slice none 0 0, .pointer none, .int .i64 0] rfl rfl 28 _ HRB.out (by kernel_rfl) rfl (by simp [Value.oneCell']) ?_)
  (try simp only [Exit.inBlock, Exit.then])
  exact bodyPost_ret (v := .tuple #[.agg #[.int .i64 0, .int .i64 0, .int .u64 0, .string ⟨#[]⟩, .slice none 0 0, .slice none 0 0, .pointer none, .int .i64 0], .bool false]) (results_6 (fn := Tryd.f6) (p := 2) (u := 3) rfl _ _ w.heap.size #[.int .i64 0, .int .i64 0, .int .u64 0, .string ⟨#[]⟩, .slice none 0 0, .slice none 0 0, .pointer none, .int .i64 0] rfl (setRow_heap _ _ _ _ _ _ HRB.out) rfl) rfl ⟨keep_set HBX.out (Nat.le_refl _), Or.inl rfl⟩
set_option maxRecDepth 20000 in
set_option maxHeartbeats 4000000 in
theorem weighs_any (w : World) (l : Value) (tag : ByteArray) (hM : Calls Tryd.prog 6 #[l] w (MadePost w)) : Calls Tryd.prog 3 #[l, .string tag] w fun e w' => e = .returned (.bool true) ∧ Below w.heap.size w w' := by
  have HM := Lib.hid hM
  clear hM
  go_enter Tryd.func3, Tryd.ntmps3
  go_wp2_with fail
  refine HM.out.mono ?_
  rintro e w1 ⟨hb1, hor⟩
  have HB1 := Lib.hid hb1
  clear hb1
  rcases hor with rfl | ⟨k, F, h, rfl, hvt, hF, hh⟩
  · go_upto_region 2 with (fail)
    have HBA : Hid (Below w.heap.size w (w1.alloc (.cells #[.int .i64 0, .int .i64 0, .int .u64 0, .string ⟨#[]⟩, .slice none 0 0, .slice none 0 0, .pointer none, .int .i64 0] 28))) := Lib.hid (HB1.out.alloc HB1.out.size _)
    generalize (w1.alloc (.cells #[.int .i64 0, .int .i64 0, .int .u64 0, .string ⟨#[]⟩, .slice none 0 0, .slice none 0 0, .pointer none, .int .i64 0] 28)) = wa at *
    go_upto_region 3 with (go_at_call 7; refine (lives_true _).mono ?_; rintro e w2 ⟨rfl, h2⟩)
    have HB2 := Lib.hid (HBA.out.trans (h2.mono HBA.out.size))
    clear h2
    go_wp2_with (go_at_call 7; refine (lives_true _).mono ?_; rintro e w3 ⟨rfl, h3⟩)
    go_ret
    exact ⟨rfl, HB2.out.trans (h3.mono HB2.out.size)⟩
  · have hww := hvt.weighs hF
    have HW9 := Lib.hid hww.1
    have HW10 := Lib.hid hww.2
    have hpos := hvt.pos
    have HHH := Lib.hid hh
    clear hww hvt hF
    obtain ⟨xd, xi, xb, xt, xna, xnn, xnc, xka, xkn, xkc, xfp, xhv⟩ := k
    unfold Kid.val
    go_upto_region 2 with (fail)
    have HBA : Hid (Below w1.heap.size w1 (w1.alloc (.cells #[.int .i64 xd, .int .i64 xi, .int .u64 xb, .string xt, .slice xna xnn xnc, .slice xka xkn xkc, .pointer xfp, .int .i64 xhv] 28))) := Lib.hid ((Below.refl _ _).alloc (Nat.le_refl _) _)
    have HVA : Hid ((w1.alloc (.cells #[.int .i64 xd, .int .i64 xi, .int .u64 xb, .string xt, .slice xna xnn xnc, .slice xka xkn xkc, .pointer xfp, .int .i64 xhv] 28)).heap[w1.heap.size]? = some (.cells #[.int .i64 xd, .int .i64 xi, .int .u64 xb, .string xt, .slice xna xnn xnc, .slice xka xkn xkc, .pointer xfp, .int .i64 xhv] 28 (0, 0))) := Lib.hid (heap_alloc_new w1 _)
    have HSA : Hid ((w1.alloc (.cells #[.int .i64 xd, .int .i64 xi, .int .u64 xb, .string xt, .slice xna xnn xnc, .slice xka xkn xkc, .pointer xfp, .int .i64 xhv] 28)).heap.size = w1.heap.size + 1) := Lib.hid (by simp)
    generalize (w1.alloc (.cells #[.int .i64 xd, .int .i64 xi, .int .u64 xb, .string xt, .slice xna xnn xnc, .slice xka xkn xkc, .pointer xfp, .int .i64 xhv] 28)) = wa at *
    by_cases htg : tag.size ≤ 50
    · have htg2 : (tag.size : Int) ≤ 50 := by omega
      go_upto_region 4 with (go_at_call 7; refine (lives_true _).mono ?_; rintro e w2 ⟨rfl, h2⟩)
      have HB2 := Lib.hid h2
      have hv2 := (h2.block w1.heap.size (by have := HSA.out; omega)).trans HVA.out
      have HVB2 := Lib.hid hv2
      have a0 : w2.cell? ⟨w1.heap.size, 0, none⟩ = some (.int .i64 xd) := by rw [cell_of_row _ _ 0 _ 28 _ hv2]; rfl
      have a1 : w2.cell? ⟨w1.heap.size, 1, none⟩ = some (.int .i64 xi) := by rw [cell_of_row _ _ 1 _ 28 _ hv2]; rfl
      have a2 : w2.cell? ⟨w1.heap.size, 2, none⟩ = some (.int .u64 xb) := by rw [cell_of_row _ _ 2 _ 28 _ hv2]; rfl
      have a3 : w2.cell? ⟨w1.heap.size, 3, none⟩ = some (.string xt) := by rw [cell_of_row _ _ 3 _ 28 _ hv2]; rfl
      have a4 : w2.cell? ⟨w1.heap.size, 4, none⟩ = some (.slice xna xnn xnc) := by rw [cell_of_row _ _ 4 _ 28 _ hv2]; rfl
      have a5 : w2.cell? ⟨w1.heap.size, 5, none⟩ = some (.slice xka xkn xkc) := by rw [cell_of_row _ _ 5 _ 28 _ hv2]; rfl
      have a6 : w2.cell? ⟨w1.heap.size, 6, none⟩ = some (.pointer xfp) := by rw [cell_of_row _ _ 6 _ 28 _ hv2]; rfl
      have a7 : w2.cell? ⟨w1.heap.size, 7, none⟩ = some (.int .i64 xhv) := by rw [cell_of_row _ _ 7 _ 28 _ hv2]; rfl
      have HTG : Hid (Calls Tryd.prog 8 #[.string tag, .agg #[.int .i64 xd, .int .i64 xi, .int .u64 xb, .string xt, .slice xna xnn xnc, .slice xka xkn xkc, .pointer xfp, .int .i64 xhv]] w2 (TagPost w2 tag h ⟨xd, xi, xb, xt, xna, xnn, xnc, xka, xkn, xkc, xfp, xhv⟩)) := Lib.hid (tag_any w2 tag ⟨xd, xi, xb, xt, xna, xnn, xnc, xka, xkn, xkc, xfp, xhv⟩ h (HW9.out.on (HBA.out.trans (h2.mono HBA.out.size))) (by have := HHH.out; omega))
      clear h2 hv2
      go_wp2_with fail
      refine HTG.out.mono ?_
      rintro e w3 ⟨g, rfl, hg1, hg2, hb3⟩
      rw [show ((1 + h : Nat) : Int) = (h : Int) + 1 by omega]
      go_upto_region 5 with (fail)
      have HVB : Hid ((w3.alloc (.cells #[.int .i64 5, .int .i64 0, .int .u64 0, .string tag, .slice none 0 0, .slice (some ⟨g, 0, none⟩) 1 1, .pointer none, .int .i64 ((h : Int) + 1)] 28)).heap[w1.heap.size]? = some (.cells #[.int .i64 xd, .int .i64 xi, .int .u64 xb, .string xt, .slice xna xnn xnc, .slice xka xkn xkc, .pointer xfp, .int .i64 xhv] 28 (0, 0))) := Lib.hid (by
        have h1 := (Array.getElem?_eq_some_iff.1 HVB2.out).1
        rw [Below.heap_alloc _ _ _ (by have := hb3.size; omega), hb3.block _ h1]
        exact HVB2.out)
      have HTB : Hid ((w3.alloc (.cells #[.int .i64 5, .int .i64 0, .int .u64 0, .string tag, .slice none 0 0, .slice (some ⟨g, 0, none⟩) 1 1, .pointer none, .int .i64 ((h : Int) + 1)] 28)).heap[w3.heap.size]? = some (.cells #[.int .i64 5, .int .i64 0, .int .u64 0, .string tag, .slice none 0 0, .slice (some ⟨g, 0, none⟩) 1 1, .pointer none, .int .i64 ((h : Int) + 1)] 28 (0, 0))) := Lib.hid (heap_alloc_new w3 _)
      have HSB : Hid (w1.heap.size < (w3.alloc (.cells #[.int .i64 5, .int .i64 0, .int .u64 0, .string tag, .slice none 0 0, .slice (some ⟨g, 0, none⟩) 1 1, .pointer none, .int .i64 ((h : Int) + 1)] 28)).heap.size ∧ w3.heap.size < (w3.alloc (.cells #[.int .i64 5, .int .i64 0, .int .u64 0, .string tag, .slice none 0 0, .slice (some ⟨g, 0, none⟩) 1 1, .pointer none, .int .i64 ((h : Int) + 1)] 28)).heap.size) := Lib.hid (by
        have h1 := (Array.getElem?_eq_some_iff.1 HVB.out).1
        have h2 := (Array.getElem?_eq_some_iff.1 HTB.out).1
        exact ⟨h1, h2⟩)
      have HBB : Hid (Below w.heap.size w (w3.alloc (.cells #[.int .i64 5, .int .i64 0, .int .u64 0, .string tag, .slice none 0 0, .slice (some ⟨g, 0, none⟩) 1 1, .pointer none, .int .i64 ((h : Int) + 1)] 28))) := Lib.hid (((HB1.out.trans (HBA.out.mono HB1.out.size)).trans ((HB2.out.trans (hb3.mono HB2.out.size)).mono (by have h1 := HB1.out.size; have h2 := HBA.out.size; omega))).alloc (by have h1 := HB1.out.size; have h2 := HBA.out.size; have h3 := HB2.out.size; have h4 := hb3.size; omega) _)
      have HW9B : Hid (∀ w', Below (w3.alloc (.cells #[.int .i64 5, .int .i64 0, .int .u64 0, .string tag, .slice none 0 0, .slice (some ⟨g, 0, none⟩) 1 1, .pointer none, .int .i64 ((h : Int) + 1)] 28)).heap.size (w3.alloc (.cells #[.int .i64 5, .int .i64 0, .int .u64 0, .string tag, .slice none 0 0, .slice (some ⟨g, 0, none⟩) 1 1, .pointer none, .int .i64 ((h : Int) + 1)] 28)) w' → Calls Tryd.prog 9 #[.agg #[.int .i64 xd, .int .i64 xi, .int .u64 xb, .string xt, .slice xna xnn xnc, .slice xka xkn xkc, .pointer xfp, .int .i64 xhv]] w' fun e w'' => e = .returned (.int .i64 (h : Int)) ∧ Below w'.heap.size w' w'') := Lib.hid (HW9.out.on (((HBA.out.trans (HB2.out.mono HBA.out.size)).trans (hb3.mono (by have h2 := HBA.out.size; have h3 := HB2.out.size; omega))).alloc (by have h2 := HBA.out.size; have h3 := HB2.out.size; have h4 := hb3.size; omega) _))
      have HW10B : Hid (∀ w', Below (w3.alloc (.cells #[.int .i64 5, .int .i64 0, .int .u64 0, .string tag, .slice none 0 0, .slice (some ⟨g, 0, none⟩) 1 1, .pointer none, .int .i64 ((h : Int) + 1)] 28)).heap.size (w3.alloc (.cells #[.int .i64 5, .int .i64 0, .int .u64 0, .string tag, .slice none 0 0, .slice (some ⟨g, 0, none⟩) 1 1, .pointer none, .int .i64 ((h : Int) + 1)] 28)) w' → Calls Tryd.prog 10 #[.agg #[.int .i64 xd, .int .i64 xi, .int .u64 xb, .string xt, .slice xna xnn xnc, .slice xka xkn xkc, .pointer xfp, .int .i64 xhv]] w' fun e w'' => e = .returned (.int .i64 (h : Int)) ∧ Below w'.heap.size w' w'') := Lib.hid (HW10.out.on (((HBA.out.trans (HB2.out.mono HBA.out.size)).trans (hb3.mono (by have h2 := HBA.out.size; have h3 := HB2.out.size; omega))).alloc (by have h2 := HBA.out.size; have h3 := HB2.out.size; have h4 := hb3.size; omega) _))
      have HWTB : Hid (∀ w', Below (w3.alloc (.cells #[.int .i64 5, .int .i64 0, .int .u64 0, .string tag, .slice none 0 0, .slice (some ⟨g, 0, none⟩) 1 1, .pointer none, .int .i64 ((h : Int) + 1)] 28)).heap.size (w3.alloc (.cells #[.int .i64 5, .int .i64 0, .int .u64 0, .string tag, .slice none 0 0, .slice (some ⟨g, 0, none⟩) 1 1, .pointer none, .int .i64 ((h : Int) + 1)] 28)) w' → Calls Tryd.prog 9 #[.agg #[.int .i64 5, .int .i64 0, .int .u64 0, .string tag, .slice none 0 0, .slice (some ⟨g, 0, none⟩) 1 1, .pointer none, .int .i64 ((h : Int) + 1)]] w' fun e w'' => e = .returned (.int .i64 ((h : Int) + 1)) ∧ Below w'.heap.size w' w'') := Lib.hid (by
        have := weigh_heavy (w3.alloc (.cells #[.int .i64 5, .int .i64 0, .int .u64 0, .string tag, .slice none 0 0, .slice (some ⟨g, 0, none⟩) 1 1, .pointer none, .int .i64 ((h : Int) + 1)] 28)) (.int .i64 5) (.int .i64 0) (.int .u64 0) (.string tag) (.slice none 0 0) (.slice (some ⟨g, 0, none⟩) 1 1) (.pointer none) (h + 1) (by omega) (by have := HHH.out; omega)
        exact this)
      have hh6 : (h : Int) ≤ 6200 := by have := HHH.out; omega
      have hhw : IntKind.i64.wrap ((h : Int) + 1) = (h : Int) + 1 := by rw [IntKind.wrap_i64]; omega
      generalize hwb : (w3.alloc (.cells #[.int .i64 5, .int .i64 0, .int .u64 0, .string tag, .slice none 0 0, .slice (some ⟨g, 0, none⟩) 1 1, .pointer none, .int .i64 ((h : Int) + 1)] 28)) = wB at *
      clear hwb hg1 hg2 hb3 hpos
      generalize w1.heap.size = X1 at *
      generalize w3.heap.size = X3 at *
      have p0 : wB.cell? ⟨X1, 0, none⟩ = some (.int .i64 xd) := by rw [cell_of_row _ _ 0 _ 28 _ HVB.out]; rfl
      have p1 : wB.cell? ⟨X1, 1, none⟩ = some (.int .i64 xi) := by rw [cell_of_row _ _ 1 _ 28 _ HVB.out]; rfl
      have p2 : wB.cell? ⟨X1, 2, none⟩ = some (.int .u64 xb) := by rw [cell_of_row _ _ 2 _ 28 _ HVB.out]; rfl
      have p3 : wB.cell? ⟨X1, 3, none⟩ = some (.string xt) := by rw [cell_of_row _ _ 3 _ 28 _ HVB.out]; rfl
      have p4 : wB.cell? ⟨X1, 4, none⟩ = some (.slice xna xnn xnc) := by rw [cell_of_row _ _ 4 _ 28 _ HVB.out]; rfl
      have p5 : wB.cell? ⟨X1, 5, none⟩ = some (.slice xka xkn xkc) := by rw [cell_of_row _ _ 5 _ 28 _ HVB.out]; rfl
      have p6 : wB.cell? ⟨X1, 6, none⟩ = some (.pointer xfp) := by rw [cell_of_row _ _ 6 _ 28 _ HVB.out]; rfl
      have p7 : wB.cell? ⟨X1, 7, none⟩ = some (.int .i64 xhv) := by rw [cell_of_row _ _ 7 _ 28 _ HVB.out]; rfl
      have r0 : wB.cell? ⟨X3, 0, none⟩ = some (.int .i64 5) := by rw [cell_of_row _ _ 0 _ 28 _ HTB.out]; rfl
      have r1 : wB.cell? ⟨X3, 1, none⟩ = some (.int .i64 0) := by rw [cell_of_row _ _ 1 _ 28 _ HTB.out]; rfl
      have r2 : wB.cell? ⟨X3, 2, none⟩ = some (.int .u64 0) := by rw [cell_of_row _ _ 2 _ 28 _ HTB.out]; rfl
      have r3 : wB.cell? ⟨X3, 3, none⟩ = some (.string tag) := by rw [cell_of_row _ _ 3 _ 28 _ HTB.out]; rfl
      have r4 : wB.cell? ⟨X3, 4, none⟩ = some (.slice none 0 0) := by rw [cell_of_row _ _ 4 _ 28 _ HTB.out]; rfl
      have r5 : wB.cell? ⟨X3, 5, none⟩ = some (.slice (some ⟨g, 0, none⟩) 1 1) := by rw [cell_of_row _ _ 5 _ 28 _ HTB.out]; rfl
      have r6 : wB.cell? ⟨X3, 6, none⟩ = some (.pointer none) := by rw [cell_of_row _ _ 6 _ 28 _ HTB.out]; rfl
      have r7 : wB.cell? ⟨X3, 7, none⟩ = some (.int .i64 ((h : Int) + 1)) := by rw [cell_of_row _ _ 7 _ 28 _ HTB.out]; rfl
      go_region_held3 (fun w' => w'.cell? ⟨X1, 0, none⟩ = some (.int .i64 xd) ∧ w'.cell? ⟨X1, 1, none⟩ = some (.int .i64 xi) ∧ w'.cell? ⟨X1, 2, none⟩ = some (.int .u64 xb) ∧ w'.cell? ⟨X1, 3, none⟩ = some (.string xt) ∧ w'.cell? ⟨X1, 4, none⟩ = some (.slice xna xnn xnc) ∧ w'.cell? ⟨X1, 5, none⟩ = some (.slice xka xkn xkc) ∧ w'.cell? ⟨X1, 6, none⟩ = some (.pointer xfp) ∧ w'.cell? ⟨X1, 7, none⟩ = some (.int .i64 xhv) ∧ w'.cell? ⟨X3, 0, none⟩ = some (.int .i64 5) ∧ w'.cell? ⟨X3, 1, none⟩ = some (.int .i64 0) ∧ w'.cell? ⟨X3, 2, none⟩ = some (.int .u64 0) ∧ w'.cell? ⟨X3, 3, none⟩ = some (.string tag) ∧ w'.cell? ⟨X3, 4, none⟩ = some (.slice none 0 0) ∧ w'.cell? ⟨X3, 5, none⟩ = some (.slice (some ⟨g, 0, none⟩) 1 1) ∧ w'.cell? ⟨X3, 6, none⟩ = some (.pointer none) ∧ w'.cell? ⟨X3, 7, none⟩ = some (.int .i64 ((h : Int) + 1))) (first | exact ⟨p0, p1, p2, p3, p4, p5, p6, p7, r0, r1, r2, r3, r4, r5, r6, r7⟩ | exact ⟨p50, p51, p52, p53, p54, p55, p56, p57, r50, r51, r52, r53, r54, r55, r56, r57⟩ | exact ⟨p60, p61, p62, p63, p64, p65, p66, p67, r60, r61, r62, r63, r64, r65, r66, r67⟩ | exact ⟨p70, p71, p72, p73, p74, p75, p76, p77, r70, r71, r72, r73, r74, r75, r76, r77⟩ | exact ⟨p80, p81, p82, p83, p84, p85, p86, p87, r80, r81, r82, r83, r84, r85, r86, r87⟩)
        (first
          | (go_at_call 9; (with_reducible refine (HW9B.out _ (by exact (Below.refl _ _).drew)).mono ?_); rintro e w5 ⟨rfl, hb5⟩; have HC5 := Lib.hid (show Below wB.heap.size wB w5 from (Below.refl _ _).drew.trans hb5); have hv5 := (HC5.out.block X1 (by have := HSB.out; omega)).trans HVB.out; have ht5 := (HC5.out.block X3 (by have := HSB.out; omega)).trans HTB.out; have p50 : w5.cell? ⟨X1, 0, none⟩ = some (.int .i64 xd) := (by rw [cell_of_row _ _ 0 _ 28 _ hv5]; rfl); have p51 : w5.cell? ⟨X1, 1, none⟩ = some (.int .i64 xi) := (by rw [cell_of_row _ _ 1 _ 28 _ hv5]; rfl); have p52 : w5.cell? ⟨X1, 2, none⟩ = some (.int .u64 xb) := (by rw [cell_of_row _ _ 2 _ 28 _ hv5]; rfl); have p53 : w5.cell? ⟨X1, 3, none⟩ = some (.string xt) := (by rw [cell_of_row _ _ 3 _ 28 _ hv5]; rfl); have p54 : w5.cell? ⟨X1, 4, none⟩ = some (.slice xna xnn xnc) := (by rw [cell_of_row _ _ 4 _ 28 _ hv5]; rfl); have p55 : w5.cell? ⟨X1, 5, none⟩ = some (.slice xka xkn xkc) := (by rw [cell_of_row _ _ 5 _ 28 _ hv5]; rfl); have p56 : w5.cell? ⟨X1, 6, none⟩ = some (.pointer xfp) := (by rw [cell_of_row _ _ 6 _ 28 _ hv5]; rfl); have p57 : w5.cell? ⟨X1, 7, none⟩ = some (.int .i64 xhv) := (by rw [cell_of_row _ _ 7 _ 28 _ hv5]; rfl); have r50 : w5.cell? ⟨X3, 0, none⟩ = some (.int .i64 5) := (by rw [cell_of_row _ _ 0 _ 28 _ ht5]; rfl); have r51 : w5.cell? ⟨X3, 1, none⟩ = some (.int .i64 0) := (by rw [cell_of_row _ _ 1 _ 28 _ ht5]; rfl); have r52 : w5.cell? ⟨X3, 2, none⟩ = some (.int .u64 0) := (by rw [cell_of_row _ _ 2 _ 28 _ ht5]; rfl); have r53 : w5.cell? ⟨X3, 3, none⟩ = some (.string tag) := (by rw [cell_of_row _ _ 3 _ 28 _ ht5]; rfl); have r54 : w5.cell? ⟨X3, 4, none⟩ = some (.slice none 0 0) := (by rw [cell_of_row _ _ 4 _ 28 _ ht5]; rfl); have r55 : w5.cell? ⟨X3, 5, none⟩ = some (.slice (some ⟨g, 0, none⟩) 1 1) := (by rw [cell_of_row _ _ 5 _ 28 _ ht5]; rfl); have r56 : w5.cell? ⟨X3, 6, none⟩ = some (.pointer none) := (by rw [cell_of_row _ _ 6 _ 28 _ ht5]; rfl); have r57 : w5.cell? ⟨X3, 7, none⟩ = some (.int .i64 ((h : Int) + 1)) := (by rw [cell_of_row _ _ 7 _ 28 _ ht5]; rfl); clear hv5 ht5)
          | (go_at_call 10; (with_reducible refine (HW10B.out _ (by exact HC5.out)).mono ?_); rintro e w6 ⟨rfl, hb6⟩; have HC6 := Lib.hid (show Below wB.heap.size wB w6 from HC5.out.trans (hb6.mono HC5.out.size)); have hv6 := (HC6.out.block X1 (by have := HSB.out; omega)).trans HVB.out; have ht6 := (HC6.out.block X3 (by have := HSB.out; omega)).trans HTB.out; have p60 : w6.cell? ⟨X1, 0, none⟩ = some (.int .i64 xd) := (by rw [cell_of_row _ _ 0 _ 28 _ hv6]; rfl); have p61 : w6.cell? ⟨X1, 1, none⟩ = some (.int .i64 xi) := (by rw [cell_of_row _ _ 1 _ 28 _ hv6]; rfl); have p62 : w6.cell? ⟨X1, 2, none⟩ = some (.int .u64 xb) := (by rw [cell_of_row _ _ 2 _ 28 _ hv6]; rfl); have p63 : w6.cell? ⟨X1, 3, none⟩ = some (.string xt) := (by rw [cell_of_row _ _ 3 _ 28 _ hv6]; rfl); have p64 : w6.cell? ⟨X1, 4, none⟩ = some (.slice xna xnn xnc) := (by rw [cell_of_row _ _ 4 _ 28 _ hv6]; rfl); have p65 : w6.cell? ⟨X1, 5, none⟩ = some (.slice xka xkn xkc) := (by rw [cell_of_row _ _ 5 _ 28 _ hv6]; rfl); have p66 : w6.cell? ⟨X1, 6, none⟩ = some (.pointer xfp) := (by rw [cell_of_row _ _ 6 _ 28 _ hv6]; rfl); have p67 : w6.cell? ⟨X1, 7, none⟩ = some (.int .i64 xhv) := (by rw [cell_of_row _ _ 7 _ 28 _ hv6]; rfl); have r60 : w6.cell? ⟨X3, 0, none⟩ = some (.int .i64 5) := (by rw [cell_of_row _ _ 0 _ 28 _ ht6]; rfl); have r61 : w6.cell? ⟨X3, 1, none⟩ = some (.int .i64 0) := (by rw [cell_of_row _ _ 1 _ 28 _ ht6]; rfl); have r62 : w6.cell? ⟨X3, 2, none⟩ = some (.int .u64 0) := (by rw [cell_of_row _ _ 2 _ 28 _ ht6]; rfl); have r63 : w6.cell? ⟨X3, 3, none⟩ = some (.string tag) := (by rw [cell_of_row _ _ 3 _ 28 _ ht6]; rfl); have r64 : w6.cell? ⟨X3, 4, none⟩ = some (.slice none 0 0) := (by rw [cell_of_row _ _ 4 _ 28 _ ht6]; rfl); have r65 : w6.cell? ⟨X3, 5, none⟩ = some (.slice (some ⟨g, 0, none⟩) 1 1) := (by rw [cell_of_row _ _ 5 _ 28 _ ht6]; rfl); have r66 : w6.cell? ⟨X3, 6, none⟩ = some (.pointer none) := (by rw [cell_of_row _ _ 6 _ 28 _ ht6]; rfl); have r67 : w6.cell? ⟨X3, 7, none⟩ = some (.int .i64 ((h : Int) + 1)) := (by rw [cell_of_row _ _ 7 _ 28 _ ht6]; rfl); clear hv6 ht6)
          | (go_at_call 9; (with_reducible refine (HWTB.out _ (by exact HC6.out)).mono ?_); rintro e w7 ⟨rfl, hb7⟩; have HC7 := Lib.hid (show Below wB.heap.size wB w7 from HC6.out.trans (hb7.mono HC6.out.size)); have hv7 := (HC7.out.block X1 (by have := HSB.out; omega)).trans HVB.out; have ht7 := (HC7.out.block X3 (by have := HSB.out; omega)).trans HTB.out; have p70 : w7.cell? ⟨X1, 0, none⟩ = some (.int .i64 xd) := (by rw [cell_of_row _ _ 0 _ 28 _ hv7]; rfl); have p71 : w7.cell? ⟨X1, 1, none⟩ = some (.int .i64 xi) := (by rw [cell_of_row _ _ 1 _ 28 _ hv7]; rfl); have p72 : w7.cell? ⟨X1, 2, none⟩ = some (.int .u64 xb) := (by rw [cell_of_row _ _ 2 _ 28 _ hv7]; rfl); have p73 : w7.cell? ⟨X1, 3, none⟩ = some (.string xt) := (by rw [cell_of_row _ _ 3 _ 28 _ hv7]; rfl); have p74 : w7.cell? ⟨X1, 4, none⟩ = some (.slice xna xnn xnc) := (by rw [cell_of_row _ _ 4 _ 28 _ hv7]; rfl); have p75 : w7.cell? ⟨X1, 5, none⟩ = some (.slice xka xkn xkc) := (by rw [cell_of_row _ _ 5 _ 28 _ hv7]; rfl); have p76 : w7.cell? ⟨X1, 6, none⟩ = some (.pointer xfp) := (by rw [cell_of_row _ _ 6 _ 28 _ hv7]; rfl); have p77 : w7.cell? ⟨X1, 7, none⟩ = some (.int .i64 xhv) := (by rw [cell_of_row _ _ 7 _ 28 _ hv7]; rfl); have r70 : w7.cell? ⟨X3, 0, none⟩ = some (.int .i64 5) := (by rw [cell_of_row _ _ 0 _ 28 _ ht7]; rfl); have r71 : w7.cell? ⟨X3, 1, none⟩ = some (.int .i64 0) := (by rw [cell_of_row _ _ 1 _ 28 _ ht7]; rfl); have r72 : w7.cell? ⟨X3, 2, none⟩ = some (.int .u64 0) := (by rw [cell_of_row _ _ 2 _ 28 _ ht7]; rfl); have r73 : w7.cell? ⟨X3, 3, none⟩ = some (.string tag) := (by rw [cell_of_row _ _ 3 _ 28 _ ht7]; rfl); have r74 : w7.cell? ⟨X3, 4, none⟩ = some (.slice none 0 0) := (by rw [cell_of_row _ _ 4 _ 28 _ ht7]; rfl); have r75 : w7.cell? ⟨X3, 5, none⟩ = some (.slice (some ⟨g, 0, none⟩) 1 1) := (by rw [cell_of_row _ _ 5 _ 28 _ ht7]; rfl); have r76 : w7.cell? ⟨X3, 6, none⟩ = some (.pointer none) := (by rw [cell_of_row _ _ 6 _ 28 _ ht7]; rfl); have r77 : w7.cell? ⟨X3, 7, none⟩ = some (.int .i64 ((h : Int) + 1)) := (by rw [cell_of_row _ _ 7 _ 28 _ ht7]; rfl); clear hv7 ht7)
          | (go_at_call 10; (with_reducible refine (HW10B.out _ (by exact HC7.out)).mono ?_); rintro e w8 ⟨rfl, hb8⟩; have HC8 := Lib.hid (show Below wB.heap.size wB w8 from HC7.out.trans (hb8.mono HC7.out.size)); have hv8 := (HC8.out.block X1 (by have := HSB.out; omega)).trans HVB.out; have ht8 := (HC8.out.block X3 (by have := HSB.out; omega)).trans HTB.out; have p80 : w8.cell? ⟨X1, 0, none⟩ = some (.int .i64 xd) := (by rw [cell_of_row _ _ 0 _ 28 _ hv8]; rfl); have p81 : w8.cell? ⟨X1, 1, none⟩ = some (.int .i64 xi) := (by rw [cell_of_row _ _ 1 _ 28 _ hv8]; rfl); have p82 : w8.cell? ⟨X1, 2, none⟩ = some (.int .u64 xb) := (by rw [cell_of_row _ _ 2 _ 28 _ hv8]; rfl); have p83 : w8.cell? ⟨X1, 3, none⟩ = some (.string xt) := (by rw [cell_of_row _ _ 3 _ 28 _ hv8]; rfl); have p84 : w8.cell? ⟨X1, 4, none⟩ = some (.slice xna xnn xnc) := (by rw [cell_of_row _ _ 4 _ 28 _ hv8]; rfl); have p85 : w8.cell? ⟨X1, 5, none⟩ = some (.slice xka xkn xkc) := (by rw [cell_of_row _ _ 5 _ 28 _ hv8]; rfl); have p86 : w8.cell? ⟨X1, 6, none⟩ = some (.pointer xfp) := (by rw [cell_of_row _ _ 6 _ 28 _ hv8]; rfl); have p87 : w8.cell? ⟨X1, 7, none⟩ = some (.int .i64 xhv) := (by rw [cell_of_row _ _ 7 _ 28 _ hv8]; rfl); have r80 : w8.cell? ⟨X3, 0, none⟩ = some (.int .i64 5) := (by rw [cell_of_row _ _ 0 _ 28 _ ht8]; rfl); have r81 : w8.cell? ⟨X3, 1, none⟩ = some (.int .i64 0) := (by rw [cell_of_row _ _ 1 _ 28 _ ht8]; rfl); have r82 : w8.cell? ⟨X3, 2, none⟩ = some (.int .u64 0) := (by rw [cell_of_row _ _ 2 _ 28 _ ht8]; rfl); have r83 : w8.cell? ⟨X3, 3, none⟩ = some (.string tag) := (by rw [cell_of_row _ _ 3 _ 28 _ ht8]; rfl); have r84 : w8.cell? ⟨X3, 4, none⟩ = some (.slice none 0 0) := (by rw [cell_of_row _ _ 4 _ 28 _ ht8]; rfl); have r85 : w8.cell? ⟨X3, 5, none⟩ = some (.slice (some ⟨g, 0, none⟩) 1 1) := (by rw [cell_of_row _ _ 5 _ 28 _ ht8]; rfl); have r86 : w8.cell? ⟨X3, 6, none⟩ = some (.pointer none) := (by rw [cell_of_row _ _ 6 _ 28 _ ht8]; rfl); have r87 : w8.cell? ⟨X3, 7, none⟩ = some (.int .i64 ((h : Int) + 1)) := (by rw [cell_of_row _ _ 7 _ 28 _ ht8]; rfl); clear hv8 ht8))
      go_wp2
      go_ret
      exact ⟨by simp, HBB.out.trans (HC8.out.mono HBB.out.size)⟩
    · have htg2 : (50 : Int) < tag.size := by omega
      go_upto_region 3 with (go_at_call 7; refine (lives_true _).mono ?_; rintro e w2 ⟨rfl, h2⟩)
      have HB2 := Lib.hid ((HB1.out.trans (HBA.out.mono HB1.out.size)).trans (h2.mono (by have h1 := HB1.out.size; have h3 := HBA.out.size; omega)))
      clear h2
      go_wp2_with (go_at_call 7; refine (lives_true _).mono ?_; rintro e w3 ⟨rfl, h3⟩)
      go_ret
      exact ⟨rfl, HB2.out.trans (h3.mono HB2.out.size)⟩
end Go.Proofs.YtpefajgllapicaaDoor.valueWeighs
