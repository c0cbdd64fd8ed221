/- Walks: alike's step. -/
import Derived.Test.YtifilhkkgkihpaaGreatDoorAs32
import Derived.Deep.RegionHeld3
set_option linter.unusedSimpArgs false
set_option linter.unusedVariables false
set_option linter.unusedSimpArgs false
set_option linter.unusedVariables false
namespace Go.Proofs.YtifilhkkgkihpaaGreatDoor
open Go.RowKit
theorem map_zip {α β γ : Type} : ∀ {l : List α} {m : List β} (h : l.length = m.length) (f : β → γ), m.map f = (l.zip m).map (fun e => f e.2)
  | [], [], _, f => rfl
  | a :: l, b :: m, h, f => by simp [map_zip (l := l) (m := m) (by simpa using h) f]
set_option maxRecDepth 20000 in
set_option maxHeartbeats 8000000 in
theorem step_rec84 (w0 wl w : World) (R M N dyn : Nat) (la : Option Addr) (lc : Nat) (OS : List Hd) (HL : ∀ w', Lk wl R M w' → HeadsIn w' la N OS) (SL : List PrA × List PrA) (hT : AkT akA w0 wl R M (.slice la N lc) (.int .i64 (dyn : Int)) w SL) (hdn : dyn < N) (hN : N ≤ 300) (hok : OkHeads OS) (i j : Nat) (hd : Int) (na : Option Addr) (nn nc : Nat) (NS : List ByteArray) (ka : Option Addr) (kn kc : Nat) (KS : List Int) (op : Bool) (hi : OS[i]? = some ⟨hd, na, nn, nc, NS, ka, kn, kc, KS, op⟩)
    (ed : Int) (ma : Option Addr) (mn mc : Nat) (MS : List ByteArray) (ja : Option Addr) (jn jc : Nat) (JS : List Int) (oq : Bool) (hj : OS[j]? = some ⟨ed, ma, mn, mc, MS, ja, jn, jc, JS, oq⟩) (h7 : hd = 8) (e7 : ed = 4) :
    Calls Tryz.prog 86 #[.pointer (some ⟨R, 0, none⟩), .agg #[.int .i64 (i : Int), .int .i64 (j : Int)]] w (StpPost akA w0 wl R M (.slice la N lc) (.int .i64 (dyn : Int)) SL w (stpA OS dyn (i, j))) := by
  rw [stpA_at (p := (i, j)) hi hj]
  have hN1 : N = OS.length := (HL w hT.lk).1
  have q1 := hok _ (List.mem_of_getElem? hi)
  have q2 := hok _ (List.mem_of_getElem? hj)
  rw [← hN1] at q1 q2
  simp only at q1 q2
  have hin : i < N := by rw [hN1]; exact (List.getElem?_eq_some_iff.1 hi).1
  have hjn : j < N := by rw [hN1]; exact (List.getElem?_eq_some_iff.1 hj).1
  have HQ1 := Lib.hid q1
  have HQ2 := Lib.hid q2
  have HH := Lib.hid (AkT.heads_at (w0 := w0) (w := w) HL hi)
  have HK := Lib.hid (AkT.heads_at (w0 := w0) (w := w) HL hj)
  have HLL := Lib.hid HL
  subst h7 e7
  have HAS : Hid (askA OS dyn ⟨8, na, nn, nc, NS, ka, kn, kc, KS, op⟩ ⟨4, ma, mn, mc, MS, ja, jn, jc, JS, oq⟩ = some (KS.map fun x => (x.toNat, dyn))) := Lib.hid (by unfold askA; simp)

  have HCC : Hid (∀ w', AkT akA w0 wl R M (.slice la N lc) (.int .i64 (dyn : Int)) w' SL → Calls Tryz.prog 113 #[.pointer (some ⟨R, 0, none⟩), .agg #[.int .i64 8, .slice na nn nc, .slice ka kn kc, .bool op], .agg #[.int .i64 4, .slice ma mn mc, .slice ja jn jc, .bool oq]] w' (StpPost akA w0 wl R M (.slice la N lc) (.int .i64 (dyn : Int)) SL w' (some (KS.map fun x => (x.toNat, dyn))))) := Lib.hid (fun w' ha => records_dyn w0 wl w' R M N dyn (.slice la N lc) SL ha hdn hN 8 na nn nc NS ka kn kc KS op HH.out q1 4 ma mn mc MS ja jn jc JS oq HK.out q2 rfl rfl)
  have hb0 : Below w.heap.size w (w.alloc (.cells #[.int .i64 (i : Int), .int .i64 (j : Int)] 141)) := (Below.refl _ _).alloc (Nat.le_refl _) _
  have HT1 := Lib.hid (hT.on hb0)
  have HB0 := Lib.hid hb0
  have HX1 : Hid ((w.alloc (.cells #[.int .i64 (i : Int), .int .i64 (j : Int)] 141)).heap[w.heap.size]? = some (.cells #[.int .i64 (i : Int), .int .i64 (j : Int)] 141 (0, 0))) := Lib.hid (heap_alloc_new w _)
  have HII := Lib.hid hi
  have HJJ := Lib.hid hj
  have HNN := Lib.hid hN1
  clear hT hb0 hi hj hok q1 q2 hN1 HL
  go_enter Tryz.func86, Tryz.ntmps86
  go_upto_region 1 with (fail)
  obtain ⟨w1, hw1⟩ : ∃ w1, (w.alloc (.cells #[.int .i64 (i : Int), .int .i64 (j : Int)] 141)) = w1 := ⟨_, rfl⟩
  rw [hw1] at HT1 HB0 HX1 ⊢
  clear hw1
  have p0 : w1.cell? ⟨w.heap.size, 0, none⟩ = some (.int .i64 (i : Int)) := (by rw [cell_of_row _ _ 0 _ 141 _ HX1.out]; rfl)
  have p1 : w1.cell? ⟨w.heap.size, 1, none⟩ = some (.int .i64 (j : Int)) := (by rw [cell_of_row _ _ 1 _ 141 _ HX1.out]; rfl)
  have r0 : w1.cell? ⟨R, 0, none⟩ = some (.slice la N lc) := HT1.out.c0
  obtain ⟨gl, ol, el, hgl, hcl⟩ := ((HLL.out w1 HT1.out.lk).2).resolve_left (by omega)
  subst el
  have ri := hcl i _ HII.out
  have rj := hcl j _ HJJ.out
  have s0 : w1.cell? ⟨gl, ol + i * 4, none⟩ = some (.int .i64 8) := ri.c0
  have s1 : w1.cell? ⟨gl, ol + i * 4 + 1, none⟩ = some (.slice na nn nc) := ri.c1
  have s2 : w1.cell? ⟨gl, ol + i * 4 + 2, none⟩ = some (.slice ka kn kc) := ri.c2
  have s3 : w1.cell? ⟨gl, ol + i * 4 + 3, none⟩ = some (.bool op) := ri.c3
  have t0 : w1.cell? ⟨gl, ol + j * 4, none⟩ = some (.int .i64 4) := rj.c0
  have t1 : w1.cell? ⟨gl, ol + j * 4 + 1, none⟩ = some (.slice ma mn mc) := rj.c1
  have t2 : w1.cell? ⟨gl, ol + j * 4 + 2, none⟩ = some (.slice ja jn jc) := rj.c2
  have t3 : w1.cell? ⟨gl, ol + j * 4 + 3, none⟩ = some (.bool oq) := rj.c3
  have hin2 : (i : Int) < N := by omega
  have hjn2 : (j : Int) < N := by omega
  have HW1 : Hid (∀ a b, (((w1.alloc (.cells a 33)).alloc (.cells b 33)).heap[w1.heap.size]? = some (.cells a 33 (0, 0)) ∧ ((w1.alloc (.cells a 33)).alloc (.cells b 33)).heap[w1.heap.size + 1]? = some (.cells b 33 (0, 0)) ∧ Below w1.heap.size w1 ((w1.alloc (.cells a 33)).alloc (.cells b 33)))) := Lib.hid (fun a b => two_box w1 a b 33)
  clear ri rj hcl hgl
  go_cut [5, 6] (fun s5 s6 wc => ∃ B1 B2 : Nat, s5 = .pointer (some ⟨B1, 0, none⟩) ∧ s6 = .pointer (some ⟨B2, 0, none⟩) ∧ Hid (wc.heap[B1]? = some (.cells #[.int .i64 8, .slice na nn nc, .slice ka kn kc, .bool op] 33 (0, 0))) ∧ Hid (wc.heap[B2]? = some (.cells #[.int .i64 4, .slice ma mn mc, .slice ja jn jc, .bool oq] 33 (0, 0))) ∧ Hid (Below w1.heap.size w1 wc))
  case first =>
    go_region_held3 (fun w' => w'.cell? ⟨w.heap.size, 0, none⟩ = some (.int .i64 (i : Int)) ∧ w'.cell? ⟨w.heap.size, 1, none⟩ = some (.int .i64 (j : Int)) ∧ w'.cell? ⟨R, 0, none⟩ = some (.slice (some ⟨gl, ol, none⟩) N lc) ∧ w'.cell? ⟨gl, ol + i * 4, none⟩ = some (.int .i64 8) ∧ w'.cell? ⟨gl, ol + i * 4 + 1, none⟩ = some (.slice na nn nc) ∧ w'.cell? ⟨gl, ol + i * 4 + 2, none⟩ = some (.slice ka kn kc) ∧ w'.cell? ⟨gl, ol + i * 4 + 3, none⟩ = some (.bool op) ∧ w'.cell? ⟨gl, ol + j * 4, none⟩ = some (.int .i64 4) ∧ w'.cell? ⟨gl, ol + j * 4 + 1, none⟩ = some (.slice ma mn mc) ∧ w'.cell? ⟨gl, ol + j * 4 + 2, none⟩ = some (.slice ja jn jc) ∧ w'.cell? ⟨gl, ol + j * 4 + 3, none⟩ = some (.bool oq)) (first | exact ⟨p0, p1, r0, s0, s1, s2, s3, t0, t1, t2, t3⟩ | go_keep) ((fail))
    all_goals
      go_wp2
      go_meet
      case rel => first | exact ⟨w1.heap.size, w1.heap.size + 1, rfl, rfl, Lib.hid (HW1.out _ _).1, Lib.hid (HW1.out _ _).2.1, Lib.hid (HW1.out _ _).2.2.drew⟩ | exact ⟨w1.heap.size + 1, w1.heap.size, rfl, rfl, Lib.hid (HW1.out _ _).2.1, Lib.hid (HW1.out _ _).1, Lib.hid (HW1.out _ _).2.2.drew⟩
  case rest =>
  obtain ⟨B1, B2, rfl, rfl, HY1, HY2, HBZ⟩ := hcut
  obtain ⟨wa, rfl⟩ : ∃ wa : World, wa = wc := ⟨_, rfl⟩
  clear p0 p1 r0 s0 s1 s2 s3 t0 t1 t2 t3
  have b0 : wa.cell? ⟨B1, 0, none⟩ = some (.int .i64 8) := (by rw [cell_of_row _ _ 0 _ 33 _ HY1.out]; rfl)
  have b1 : wa.cell? ⟨B1, 1, none⟩ = some (.slice na nn nc) := (by rw [cell_of_row _ _ 1 _ 33 _ HY1.out]; rfl)
  have b2 : wa.cell? ⟨B1, 2, none⟩ = some (.slice ka kn kc) := (by rw [cell_of_row _ _ 2 _ 33 _ HY1.out]; rfl)
  have b3 : wa.cell? ⟨B1, 3, none⟩ = some (.bool op) := (by rw [cell_of_row _ _ 3 _ 33 _ HY1.out]; rfl)
  have d0 : wa.cell? ⟨B2, 0, none⟩ = some (.int .i64 4) := (by rw [cell_of_row _ _ 0 _ 33 _ HY2.out]; rfl)
  have d1 : wa.cell? ⟨B2, 1, none⟩ = some (.slice ma mn mc) := (by rw [cell_of_row _ _ 1 _ 33 _ HY2.out]; rfl)
  have d2 : wa.cell? ⟨B2, 2, none⟩ = some (.slice ja jn jc) := (by rw [cell_of_row _ _ 2 _ 33 _ HY2.out]; rfl)
  have d3 : wa.cell? ⟨B2, 3, none⟩ = some (.bool oq) := (by rw [cell_of_row _ _ 3 _ 33 _ HY2.out]; rfl)
  have HTA := Lib.hid (HT1.out.on HBZ.out)
  have HKW : Hid (Kp 141 R w wa) := Lib.hid ((Kp.of_below HB0.out).trans (Kp.of_below HBZ.out))
  have HC1 := Lib.hid (HCC.out wa HTA.out)
  go_wp2_with (go_at_call 113; (with_reducible refine HC1.out.mono ?_); rintro e w5 ⟨rfl, hq5⟩; have HQ5 := Lib.hid hq5; clear hq5)
  go_ret
  obtain ⟨qs, r1, r2, r3, r4⟩ := HQ5.out
  rw [HAS.out]
  exact ⟨rfl, qs, r1, HKW.out.trans r2, r3, r4⟩
set_option maxRecDepth 20000 in
set_option maxHeartbeats 8000000 in
theorem step_rec88 (w0 wl w : World) (R M N dyn : Nat) (la : Option Addr) (lc : Nat) (OS : List Hd) (HL : ∀ w', Lk wl R M w' → HeadsIn w' la N OS) (SL : List PrA × List PrA) (hT : AkT akA w0 wl R M (.slice la N lc) (.int .i64 (dyn : Int)) w SL) (hdn : dyn < N) (hN : N ≤ 300) (hok : OkHeads OS) (i j : Nat) (hd : Int) (na : Option Addr) (nn nc : Nat) (NS : List ByteArray) (ka : Option Addr) (kn kc : Nat) (KS : List Int) (op : Bool) (hi : OS[i]? = some ⟨hd, na, nn, nc, NS, ka, kn, kc, KS, op⟩)
    (ed : Int) (ma : Option Addr) (mn mc : Nat) (MS : List ByteArray) (ja : Option Addr) (jn jc : Nat) (JS : List Int) (oq : Bool) (hj : OS[j]? = some ⟨ed, ma, mn, mc, MS, ja, jn, jc, JS, oq⟩) (h7 : hd = 8) (e7 : ed = 8) :
    Calls Tryz.prog 86 #[.pointer (some ⟨R, 0, none⟩), .agg #[.int .i64 (i : Int), .int .i64 (j : Int)]] w (StpPost akA w0 wl R M (.slice la N lc) (.int .i64 (dyn : Int)) SL w (stpA OS dyn (i, j))) := by
  rw [stpA_at (p := (i, j)) hi hj]
  have hN1 : N = OS.length := (HL w hT.lk).1
  have q1 := hok _ (List.mem_of_getElem? hi)
  have q2 := hok _ (List.mem_of_getElem? hj)
  rw [← hN1] at q1 q2
  simp only at q1 q2
  have hin : i < N := by rw [hN1]; exact (List.getElem?_eq_some_iff.1 hi).1
  have hjn : j < N := by rw [hN1]; exact (List.getElem?_eq_some_iff.1 hj).1
  have HQ1 := Lib.hid q1
  have HQ2 := Lib.hid q2
  have HH := Lib.hid (AkT.heads_at (w0 := w0) (w := w) HL hi)
  have HK := Lib.hid (AkT.heads_at (w0 := w0) (w := w) HL hj)
  have HLL := Lib.hid HL
  subst h7 e7
  have HAS : Hid (askA OS dyn ⟨8, na, nn, nc, NS, ka, kn, kc, KS, op⟩ ⟨8, ma, mn, mc, MS, ja, jn, jc, JS, oq⟩ = recA dyn ⟨8, na, nn, nc, NS, ka, kn, kc, KS, op⟩ ⟨8, ma, mn, mc, MS, ja, jn, jc, JS, oq⟩) := Lib.hid (by unfold askA; simp)

  have HCC : Hid (∀ w', AkT akA w0 wl R M (.slice la N lc) (.int .i64 (dyn : Int)) w' SL → Calls Tryz.prog 113 #[.pointer (some ⟨R, 0, none⟩), .agg #[.int .i64 8, .slice na nn nc, .slice ka kn kc, .bool op], .agg #[.int .i64 8, .slice ma mn mc, .slice ja jn jc, .bool oq]] w' (StpPost akA w0 wl R M (.slice la N lc) (.int .i64 (dyn : Int)) SL w' (recA dyn ⟨8, na, nn, nc, NS, ka, kn, kc, KS, op⟩ ⟨8, ma, mn, mc, MS, ja, jn, jc, JS, oq⟩))) := Lib.hid (fun w' ha => records_gen w0 wl w' R M N dyn (.slice la N lc) SL ha hdn hN 8 na nn nc NS ka kn kc KS op HH.out q1 8 ma mn mc MS ja jn jc JS oq HK.out q2 (by decide) rfl)
  have hb0 : Below w.heap.size w (w.alloc (.cells #[.int .i64 (i : Int), .int .i64 (j : Int)] 141)) := (Below.refl _ _).alloc (Nat.le_refl _) _
  have HT1 := Lib.hid (hT.on hb0)
  have HB0 := Lib.hid hb0
  have HX1 : Hid ((w.alloc (.cells #[.int .i64 (i : Int), .int .i64 (j : Int)] 141)).heap[w.heap.size]? = some (.cells #[.int .i64 (i : Int), .int .i64 (j : Int)] 141 (0, 0))) := Lib.hid (heap_alloc_new w _)
  have HII := Lib.hid hi
  have HJJ := Lib.hid hj
  have HNN := Lib.hid hN1
  clear hT hb0 hi hj hok q1 q2 hN1 HL
  go_enter Tryz.func86, Tryz.ntmps86
  go_upto_region 1 with (fail)
  obtain ⟨w1, hw1⟩ : ∃ w1, (w.alloc (.cells #[.int .i64 (i : Int), .int .i64 (j : Int)] 141)) = w1 := ⟨_, rfl⟩
  rw [hw1] at HT1 HB0 HX1 ⊢
  clear hw1
  have p0 : w1.cell? ⟨w.heap.size, 0, none⟩ = some (.int .i64 (i : Int)) := (by rw [cell_of_row _ _ 0 _ 141 _ HX1.out]; rfl)
  have p1 : w1.cell? ⟨w.heap.size, 1, none⟩ = some (.int .i64 (j : Int)) := (by rw [cell_of_row _ _ 1 _ 141 _ HX1.out]; rfl)
  have r0 : w1.cell? ⟨R, 0, none⟩ = some (.slice la N lc) := HT1.out.c0
  obtain ⟨gl, ol, el, hgl, hcl⟩ := ((HLL.out w1 HT1.out.lk).2).resolve_left (by omega)
  subst el
  have ri := hcl i _ HII.out
  have rj := hcl j _ HJJ.out
  have s0 : w1.cell? ⟨gl, ol + i * 4, none⟩ = some (.int .i64 8) := ri.c0
  have s1 : w1.cell? ⟨gl, ol + i * 4 + 1, none⟩ = some (.slice na nn nc) := ri.c1
  have s2 : w1.cell? ⟨gl, ol + i * 4 + 2, none⟩ = some (.slice ka kn kc) := ri.c2
  have s3 : w1.cell? ⟨gl, ol + i * 4 + 3, none⟩ = some (.bool op) := ri.c3
  have t0 : w1.cell? ⟨gl, ol + j * 4, none⟩ = some (.int .i64 8) := rj.c0
  have t1 : w1.cell? ⟨gl, ol + j * 4 + 1, none⟩ = some (.slice ma mn mc) := rj.c1
  have t2 : w1.cell? ⟨gl, ol + j * 4 + 2, none⟩ = some (.slice ja jn jc) := rj.c2
  have t3 : w1.cell? ⟨gl, ol + j * 4 + 3, none⟩ = some (.bool oq) := rj.c3
  have hin2 : (i : Int) < N := by omega
  have hjn2 : (j : Int) < N := by omega
  have HW1 : Hid (∀ a b, (((w1.alloc (.cells a 33)).alloc (.cells b 33)).heap[w1.heap.size]? = some (.cells a 33 (0, 0)) ∧ ((w1.alloc (.cells a 33)).alloc (.cells b 33)).heap[w1.heap.size + 1]? = some (.cells b 33 (0, 0)) ∧ Below w1.heap.size w1 ((w1.alloc (.cells a 33)).alloc (.cells b 33)))) := Lib.hid (fun a b => two_box w1 a b 33)
  clear ri rj hcl hgl
  go_cut [5, 6] (fun s5 s6 wc => ∃ B1 B2 : Nat, s5 = .pointer (some ⟨B1, 0, none⟩) ∧ s6 = .pointer (some ⟨B2, 0, none⟩) ∧ Hid (wc.heap[B1]? = some (.cells #[.int .i64 8, .slice na nn nc, .slice ka kn kc, .bool op] 33 (0, 0))) ∧ Hid (wc.heap[B2]? = some (.cells #[.int .i64 8, .slice ma mn mc, .slice ja jn jc, .bool oq] 33 (0, 0))) ∧ Hid (Below w1.heap.size w1 wc))
  case first =>
    go_region_held3 (fun w' => w'.cell? ⟨w.heap.size, 0, none⟩ = some (.int .i64 (i : Int)) ∧ w'.cell? ⟨w.heap.size, 1, none⟩ = some (.int .i64 (j : Int)) ∧ w'.cell? ⟨R, 0, none⟩ = some (.slice (some ⟨gl, ol, none⟩) N lc) ∧ w'.cell? ⟨gl, ol + i * 4, none⟩ = some (.int .i64 8) ∧ w'.cell? ⟨gl, ol + i * 4 + 1, none⟩ = some (.slice na nn nc) ∧ w'.cell? ⟨gl, ol + i * 4 + 2, none⟩ = some (.slice ka kn kc) ∧ w'.cell? ⟨gl, ol + i * 4 + 3, none⟩ = some (.bool op) ∧ w'.cell? ⟨gl, ol + j * 4, none⟩ = some (.int .i64 8) ∧ w'.cell? ⟨gl, ol + j * 4 + 1, none⟩ = some (.slice ma mn mc) ∧ w'.cell? ⟨gl, ol + j * 4 + 2, none⟩ = some (.slice ja jn jc) ∧ w'.cell? ⟨gl, ol + j * 4 + 3, none⟩ = some (.bool oq)) (first | exact ⟨p0, p1, r0, s0, s1, s2, s3, t0, t1, t2, t3⟩ | go_keep) ((fail))
    all_goals
      go_wp2
      go_meet
      case rel => first | exact ⟨w1.heap.size, w1.heap.size + 1, rfl, rfl, Lib.hid (HW1.out _ _).1, Lib.hid (HW1.out _ _).2.1, Lib.hid (HW1.out _ _).2.2.drew⟩ | exact ⟨w1.heap.size + 1, w1.heap.size, rfl, rfl, Lib.hid (HW1.out _ _).2.1, Lib.hid (HW1.out _ _).1, Lib.hid (HW1.out _ _).2.2.drew⟩
  case rest =>
  obtain ⟨B1, B2, rfl, rfl, HY1, HY2, HBZ⟩ := hcut
  obtain ⟨wa, rfl⟩ : ∃ wa : World, wa = wc := ⟨_, rfl⟩
  clear p0 p1 r0 s0 s1 s2 s3 t0 t1 t2 t3
  have b0 : wa.cell? ⟨B1, 0, none⟩ = some (.int .i64 8) := (by rw [cell_of_row _ _ 0 _ 33 _ HY1.out]; rfl)
  have b1 : wa.cell? ⟨B1, 1, none⟩ = some (.slice na nn nc) := (by rw [cell_of_row _ _ 1 _ 33 _ HY1.out]; rfl)
  have b2 : wa.cell? ⟨B1, 2, none⟩ = some (.slice ka kn kc) := (by rw [cell_of_row _ _ 2 _ 33 _ HY1.out]; rfl)
  have b3 : wa.cell? ⟨B1, 3, none⟩ = some (.bool op) := (by rw [cell_of_row _ _ 3 _ 33 _ HY1.out]; rfl)
  have d0 : wa.cell? ⟨B2, 0, none⟩ = some (.int .i64 8) := (by rw [cell_of_row _ _ 0 _ 33 _ HY2.out]; rfl)
  have d1 : wa.cell? ⟨B2, 1, none⟩ = some (.slice ma mn mc) := (by rw [cell_of_row _ _ 1 _ 33 _ HY2.out]; rfl)
  have d2 : wa.cell? ⟨B2, 2, none⟩ = some (.slice ja jn jc) := (by rw [cell_of_row _ _ 2 _ 33 _ HY2.out]; rfl)
  have d3 : wa.cell? ⟨B2, 3, none⟩ = some (.bool oq) := (by rw [cell_of_row _ _ 3 _ 33 _ HY2.out]; rfl)
  have HTA := Lib.hid (HT1.out.on HBZ.out)
  have HKW : Hid (Kp 141 R w wa) := Lib.hid ((Kp.of_below HB0.out).trans (Kp.of_below HBZ.out))
  have HC1 := Lib.hid (HCC.out wa HTA.out)
  go_wp2_with (go_at_call 113; (with_reducible refine HC1.out.mono ?_); rintro e w5 ⟨rfl, hq5⟩; have HQ5 := Lib.hid hq5; clear hq5)
  go_ret
  obtain ⟨qs, r1, r2, r3, r4⟩ := HQ5.out
  rw [HAS.out]
  exact ⟨rfl, qs, r1, HKW.out.trans r2, r3, r4⟩
set_option maxRecDepth 20000 in
set_option maxHeartbeats 8000000 in
theorem step_rec48 (w0 wl w : World) (R M N dyn : Nat) (la : Option Addr) (lc : Nat) (OS : List Hd) (HL : ∀ w', Lk wl R M w' → HeadsIn w' la N OS) (SL : List PrA × List PrA) (hT : AkT akA w0 wl R M (.slice la N lc) (.int .i64 (dyn : Int)) w SL) (hdn : dyn < N) (hN : N ≤ 300) (hok : OkHeads OS) (i j : Nat) (hd : Int) (na : Option Addr) (nn nc : Nat) (NS : List ByteArray) (ka : Option Addr) (kn kc : Nat) (KS : List Int) (op : Bool) (hi : OS[i]? = some ⟨hd, na, nn, nc, NS, ka, kn, kc, KS, op⟩)
    (ed : Int) (ma : Option Addr) (mn mc : Nat) (MS : List ByteArray) (ja : Option Addr) (jn jc : Nat) (JS : List Int) (oq : Bool) (hj : OS[j]? = some ⟨ed, ma, mn, mc, MS, ja, jn, jc, JS, oq⟩) (h7 : hd = 4) (e7 : ed = 8) :
    Calls Tryz.prog 86 #[.pointer (some ⟨R, 0, none⟩), .agg #[.int .i64 (i : Int), .int .i64 (j : Int)]] w (StpPost akA w0 wl R M (.slice la N lc) (.int .i64 (dyn : Int)) SL w (stpA OS dyn (i, j))) := by
  rw [stpA_at (p := (i, j)) hi hj]
  have hN1 : N = OS.length := (HL w hT.lk).1
  have q1 := hok _ (List.mem_of_getElem? hi)
  have q2 := hok _ (List.mem_of_getElem? hj)
  rw [← hN1] at q1 q2
  simp only at q1 q2
  have hin : i < N := by rw [hN1]; exact (List.getElem?_eq_some_iff.1 hi).1
  have hjn : j < N := by rw [hN1]; exact (List.getElem?_eq_some_iff.1 hj).1
  have HQ1 := Lib.hid q1
  have HQ2 := Lib.hid q2
  have HH := Lib.hid (AkT.heads_at (w0 := w0) (w := w) HL hi)
  have HK := Lib.hid (AkT.heads_at (w0 := w0) (w := w) HL hj)
  have HLL := Lib.hid HL
  subst h7 e7
  have q4 := head_kind (h := ⟨8, ma, mn, mc, MS, ja, jn, jc, JS, oq⟩) q2
  have hml : MS.length = JS.length := q4.2.2.2.1 (by first | trivial | simp)
  clear q4
  have HAS : Hid (askA OS dyn ⟨4, na, nn, nc, NS, ka, kn, kc, KS, op⟩ ⟨8, ma, mn, mc, MS, ja, jn, jc, JS, oq⟩ = recA dyn ⟨4, na, nn, nc, NS, ka, kn, kc, KS, op⟩ ⟨8, ma, mn, mc, MS, ja, jn, jc, JS, oq⟩) := Lib.hid (by
    unfold askA
    rw [if_neg (by simp), if_neg (by simp), if_pos rfl, if_neg (by simp), if_pos (.inl rfl)]
    unfold recA kidD
    rw [if_pos]
    · simp only [if_true]
      rw [map_zip hml (fun x : Int => (dyn, x.toNat))]
      simp
    · exact List.all_eq_true.2 (fun e he => by simp))
  clear hml
  have HCC : Hid (∀ w', AkT akA w0 wl R M (.slice la N lc) (.int .i64 (dyn : Int)) w' SL → Calls Tryz.prog 113 #[.pointer (some ⟨R, 0, none⟩), .agg #[.int .i64 4, .slice na nn nc, .slice ka kn kc, .bool op], .agg #[.int .i64 8, .slice ma mn mc, .slice ja jn jc, .bool oq]] w' (StpPost akA w0 wl R M (.slice la N lc) (.int .i64 (dyn : Int)) SL w' (recA dyn ⟨4, na, nn, nc, NS, ka, kn, kc, KS, op⟩ ⟨8, ma, mn, mc, MS, ja, jn, jc, JS, oq⟩))) := Lib.hid (fun w' ha => records_gen w0 wl w' R M N dyn (.slice la N lc) SL ha hdn hN 4 na nn nc NS ka kn kc KS op HH.out q1 8 ma mn mc MS ja jn jc JS oq HK.out q2 (by decide) rfl)
  have hb0 : Below w.heap.size w (w.alloc (.cells #[.int .i64 (i : Int), .int .i64 (j : Int)] 141)) := (Below.refl _ _).alloc (Nat.le_refl _) _
  have HT1 := Lib.hid (hT.on hb0)
  have HB0 := Lib.hid hb0
  have HX1 : Hid ((w.alloc (.cells #[.int .i64 (i : Int), .int .i64 (j : Int)] 141)).heap[w.heap.size]? = some (.cells #[.int .i64 (i : Int), .int .i64 (j : Int)] 141 (0, 0))) := Lib.hid (heap_alloc_new w _)
  have HII := Lib.hid hi
  have HJJ := Lib.hid hj
  have HNN := Lib.hid hN1
  clear hT hb0 hi hj hok q1 q2 hN1 HL
  go_enter Tryz.func86, Tryz.ntmps86
  go_upto_region 1 with (fail)
  obtain ⟨w1, hw1⟩ : ∃ w1, (w.alloc (.cells #[.int .i64 (i : Int), .int .i64 (j : Int)] 141)) = w1 := ⟨_, rfl⟩
  rw [hw1] at HT1 HB0 HX1 ⊢
  clear hw1
  have p0 : w1.cell? ⟨w.heap.size, 0, none⟩ = some (.int .i64 (i : Int)) := (by rw [cell_of_row _ _ 0 _ 141 _ HX1.out]; rfl)
  have p1 : w1.cell? ⟨w.heap.size, 1, none⟩ = some (.int .i64 (j : Int)) := (by rw [cell_of_row _ _ 1 _ 141 _ HX1.out]; rfl)
  have r0 : w1.cell? ⟨R, 0, none⟩ = some (.slice la N lc) := HT1.out.c0
  obtain ⟨gl, ol, el, hgl, hcl⟩ := ((HLL.out w1 HT1.out.lk).2).resolve_left (by omega)
  subst el
  have ri := hcl i _ HII.out
  have rj := hcl j _ HJJ.out
  have s0 : w1.cell? ⟨gl, ol + i * 4, none⟩ = some (.int .i64 4) := ri.c0
  have s1 : w1.cell? ⟨gl, ol + i * 4 + 1, none⟩ = some (.slice na nn nc) := ri.c1
  have s2 : w1.cell? ⟨gl, ol + i * 4 + 2, none⟩ = some (.slice ka kn kc) := ri.c2
  have s3 : w1.cell? ⟨gl, ol + i * 4 + 3, none⟩ = some (.bool op) := ri.c3
  have t0 : w1.cell? ⟨gl, ol + j * 4, none⟩ = some (.int .i64 8) := rj.c0
  have t1 : w1.cell? ⟨gl, ol + j * 4 + 1, none⟩ = some (.slice ma mn mc) := rj.c1
  have t2 : w1.cell? ⟨gl, ol + j * 4 + 2, none⟩ = some (.slice ja jn jc) := rj.c2
  have t3 : w1.cell? ⟨gl, ol + j * 4 + 3, none⟩ = some (.bool oq) := rj.c3
  have hin2 : (i : Int) < N := by omega
  have hjn2 : (j : Int) < N := by omega
  have HW1 : Hid (∀ a b, (((w1.alloc (.cells a 33)).alloc (.cells b 33)).heap[w1.heap.size]? = some (.cells a 33 (0, 0)) ∧ ((w1.alloc (.cells a 33)).alloc (.cells b 33)).heap[w1.heap.size + 1]? = some (.cells b 33 (0, 0)) ∧ Below w1.heap.size w1 ((w1.alloc (.cells a 33)).alloc (.cells b 33)))) := Lib.hid (fun a b => two_box w1 a b 33)
  clear ri rj hcl hgl
  go_cut [5, 6] (fun s5 s6 wc => ∃ B1 B2 : Nat, s5 = .pointer (some ⟨B1, 0, none⟩) ∧ s6 = .pointer (some ⟨B2, 0, none⟩) ∧ Hid (wc.heap[B1]? = some (.cells #[.int .i64 4, .slice na nn nc, .slice ka kn kc, .bool op] 33 (0, 0))) ∧ Hid (wc.heap[B2]? = some (.cells #[.int .i64 8, .slice ma mn mc, .slice ja jn jc, .bool oq] 33 (0, 0))) ∧ Hid (Below w1.heap.size w1 wc))
  case first =>
    go_region_held3 (fun w' => w'.cell? ⟨w.heap.size, 0, none⟩ = some (.int .i64 (i : Int)) ∧ w'.cell? ⟨w.heap.size, 1, none⟩ = some (.int .i64 (j : Int)) ∧ w'.cell? ⟨R, 0, none⟩ = some (.slice (some ⟨gl, ol, none⟩) N lc) ∧ w'.cell? ⟨gl, ol + i * 4, none⟩ = some (.int .i64 4) ∧ w'.cell? ⟨gl, ol + i * 4 + 1, none⟩ = some (.slice na nn nc) ∧ w'.cell? ⟨gl, ol + i * 4 + 2, none⟩ = some (.slice ka kn kc) ∧ w'.cell? ⟨gl, ol + i * 4 + 3, none⟩ = some (.bool op) ∧ w'.cell? ⟨gl, ol + j * 4, none⟩ = some (.int .i64 8) ∧ w'.cell? ⟨gl, ol + j * 4 + 1, none⟩ = some (.slice ma mn mc) ∧ w'.cell? ⟨gl, ol + j * 4 + 2, none⟩ = some (.slice ja jn jc) ∧ w'.cell? ⟨gl, ol + j * 4 + 3, none⟩ = some (.bool oq)) (first | exact ⟨p0, p1, r0, s0, s1, s2, s3, t0, t1, t2, t3⟩ | go_keep) ((fail))
    all_goals
      go_wp2
      go_meet
      case rel => first | exact ⟨w1.heap.size, w1.heap.size + 1, rfl, rfl, Lib.hid (HW1.out _ _).1, Lib.hid (HW1.out _ _).2.1, Lib.hid (HW1.out _ _).2.2.drew⟩ | exact ⟨w1.heap.size + 1, w1.heap.size, rfl, rfl, Lib.hid (HW1.out _ _).2.1, Lib.hid (HW1.out _ _).1, Lib.hid (HW1.out _ _).2.2.drew⟩
  case rest =>
  obtain ⟨B1, B2, rfl, rfl, HY1, HY2, HBZ⟩ := hcut
  obtain ⟨wa, rfl⟩ : ∃ wa : World, wa = wc := ⟨_, rfl⟩
  clear p0 p1 r0 s0 s1 s2 s3 t0 t1 t2 t3
  have b0 : wa.cell? ⟨B1, 0, none⟩ = some (.int .i64 4) := (by rw [cell_of_row _ _ 0 _ 33 _ HY1.out]; rfl)
  have b1 : wa.cell? ⟨B1, 1, none⟩ = some (.slice na nn nc) := (by rw [cell_of_row _ _ 1 _ 33 _ HY1.out]; rfl)
  have b2 : wa.cell? ⟨B1, 2, none⟩ = some (.slice ka kn kc) := (by rw [cell_of_row _ _ 2 _ 33 _ HY1.out]; rfl)
  have b3 : wa.cell? ⟨B1, 3, none⟩ = some (.bool op) := (by rw [cell_of_row _ _ 3 _ 33 _ HY1.out]; rfl)
  have d0 : wa.cell? ⟨B2, 0, none⟩ = some (.int .i64 8) := (by rw [cell_of_row _ _ 0 _ 33 _ HY2.out]; rfl)
  have d1 : wa.cell? ⟨B2, 1, none⟩ = some (.slice ma mn mc) := (by rw [cell_of_row _ _ 1 _ 33 _ HY2.out]; rfl)
  have d2 : wa.cell? ⟨B2, 2, none⟩ = some (.slice ja jn jc) := (by rw [cell_of_row _ _ 2 _ 33 _ HY2.out]; rfl)
  have d3 : wa.cell? ⟨B2, 3, none⟩ = some (.bool oq) := (by rw [cell_of_row _ _ 3 _ 33 _ HY2.out]; rfl)
  have HTA := Lib.hid (HT1.out.on HBZ.out)
  have HKW : Hid (Kp 141 R w wa) := Lib.hid ((Kp.of_below HB0.out).trans (Kp.of_below HBZ.out))
  have HC1 := Lib.hid (HCC.out wa HTA.out)
  go_wp2_with (go_at_call 113; (with_reducible refine HC1.out.mono ?_); rintro e w5 ⟨rfl, hq5⟩; have HQ5 := Lib.hid hq5; clear hq5)
  go_ret
  obtain ⟨qs, r1, r2, r3, r4⟩ := HQ5.out
  rw [HAS.out]
  exact ⟨rfl, qs, r1, HKW.out.trans r2, r3, r4⟩
set_option maxRecDepth 20000 in
set_option maxHeartbeats 8000000 in
theorem step_var99 (w0 wl w : World) (R M N dyn : Nat) (la : Option Addr) (lc : Nat) (OS : List Hd) (HL : ∀ w', Lk wl R M w' → HeadsIn w' la N OS) (SL : List PrA × List PrA) (hT : AkT akA w0 wl R M (.slice la N lc) (.int .i64 (dyn : Int)) w SL) (hdn : dyn < N) (hN : N ≤ 300) (hok : OkHeads OS) (i j : Nat) (hd : Int) (na : Option Addr) (nn nc : Nat) (NS : List ByteArray) (ka : Option Addr) (kn kc : Nat) (KS : List Int) (op : Bool) (hi : OS[i]? = some ⟨hd, na, nn, nc, NS, ka, kn, kc, KS, op⟩)
    (ed : Int) (ma : Option Addr) (mn mc : Nat) (MS : List ByteArray) (ja : Option Addr) (jn jc : Nat) (JS : List Int) (oq : Bool) (hj : OS[j]? = some ⟨ed, ma, mn, mc, MS, ja, jn, jc, JS, oq⟩) (h7 : hd = 9) (e7 : ed = 9) :
    Calls Tryz.prog 86 #[.pointer (some ⟨R, 0, none⟩), .agg #[.int .i64 (i : Int), .int .i64 (j : Int)]] w (StpPost akA w0 wl R M (.slice la N lc) (.int .i64 (dyn : Int)) SL w (stpA OS dyn (i, j))) := by
  rw [stpA_at (p := (i, j)) hi hj]
  have hN1 : N = OS.length := (HL w hT.lk).1
  have q1 := hok _ (List.mem_of_getElem? hi)
  have q2 := hok _ (List.mem_of_getElem? hj)
  rw [← hN1] at q1 q2
  simp only at q1 q2
  have hin : i < N := by rw [hN1]; exact (List.getElem?_eq_some_iff.1 hi).1
  have hjn : j < N := by rw [hN1]; exact (List.getElem?_eq_some_iff.1 hj).1
  have HQ1 := Lib.hid q1
  have HQ2 := Lib.hid q2
  have HH := Lib.hid (AkT.heads_at (w0 := w0) (w := w) HL hi)
  have HK := Lib.hid (AkT.heads_at (w0 := w0) (w := w) HL hj)
  have HLL := Lib.hid HL
  subst h7 e7
  have HSF := Lib.hid (var_ask (L := OS) (dyn := dyn) (h := ⟨9, na, nn, nc, NS, ka, kn, kc, KS, op⟩) (k := ⟨9, ma, mn, mc, MS, ja, jn, jc, JS, oq⟩) q1 q2 (by simp) (by simp) (by simp))
  have HCC : Hid (∀ w', AkT akA w0 wl R M (.slice la N lc) (.int .i64 (dyn : Int)) w' SL → Calls Tryz.prog 114 #[.pointer (some ⟨R, 0, none⟩), .agg #[.int .i64 9, .slice na nn nc, .slice ka kn kc, .bool op], .agg #[.int .i64 9, .slice ma mn mc, .slice ja jn jc, .bool oq]] w' (StpPost akA w0 wl R M (.slice la N lc) (.int .i64 (dyn : Int)) SL w' (varF OS dyn ⟨9, na, nn, nc, NS, ka, kn, kc, KS, op⟩ ⟨9, ma, mn, mc, MS, ja, jn, jc, JS, oq⟩))) := Lib.hid (fun w' ha => variants_9 w0 wl w' R M N dyn la lc OS HL SL ha hdn hN 9 na nn nc NS ka kn kc KS op HH.out q1 9 ma mn mc MS ja jn jc JS oq HK.out q2 rfl (fun _ => rfl) (.inl rfl))
  have hb0 : Below w.heap.size w (w.alloc (.cells #[.int .i64 (i : Int), .int .i64 (j : Int)] 141)) := (Below.refl _ _).alloc (Nat.le_refl _) _
  have HT1 := Lib.hid (hT.on hb0)
  have HB0 := Lib.hid hb0
  have HX1 : Hid ((w.alloc (.cells #[.int .i64 (i : Int), .int .i64 (j : Int)] 141)).heap[w.heap.size]? = some (.cells #[.int .i64 (i : Int), .int .i64 (j : Int)] 141 (0, 0))) := Lib.hid (heap_alloc_new w _)
  have HII := Lib.hid hi
  have HJJ := Lib.hid hj
  have HNN := Lib.hid hN1
  clear hT hb0 hi hj hok q1 q2 hN1 HL
  go_enter Tryz.func86, Tryz.ntmps86
  go_upto_region 1 with (fail)
  obtain ⟨w1, hw1⟩ : ∃ w1, (w.alloc (.cells #[.int .i64 (i : Int), .int .i64 (j : Int)] 141)) = w1 := ⟨_, rfl⟩
  rw [hw1] at HT1 HB0 HX1 ⊢
  clear hw1
  have p0 : w1.cell? ⟨w.heap.size, 0, none⟩ = some (.int .i64 (i : Int)) := (by rw [cell_of_row _ _ 0 _ 141 _ HX1.out]; rfl)
  have p1 : w1.cell? ⟨w.heap.size, 1, none⟩ = some (.int .i64 (j : Int)) := (by rw [cell_of_row _ _ 1 _ 141 _ HX1.out]; rfl)
  have r0 : w1.cell? ⟨R, 0, none⟩ = some (.slice la N lc) := HT1.out.c0
  obtain ⟨gl, ol, el, hgl, hcl⟩ := ((HLL.out w1 HT1.out.lk).2).resolve_left (by omega)
  subst el
  have ri := hcl i _ HII.out
  have rj := hcl j _ HJJ.out
  have s0 : w1.cell? ⟨gl, ol + i * 4, none⟩ = some (.int .i64 9) := ri.c0
  have s1 : w1.cell? ⟨gl, ol + i * 4 + 1, none⟩ = some (.slice na nn nc) := ri.c1
  have s2 : w1.cell? ⟨gl, ol + i * 4 + 2, none⟩ = some (.slice ka kn kc) := ri.c2
  have s3 : w1.cell? ⟨gl, ol + i * 4 + 3, none⟩ = some (.bool op) := ri.c3
  have t0 : w1.cell? ⟨gl, ol + j * 4, none⟩ = some (.int .i64 9) := rj.c0
  have t1 : w1.cell? ⟨gl, ol + j * 4 + 1, none⟩ = some (.slice ma mn mc) := rj.c1
  have t2 : w1.cell? ⟨gl, ol + j * 4 + 2, none⟩ = some (.slice ja jn jc) := rj.c2
  have t3 : w1.cell? ⟨gl, ol + j * 4 + 3, none⟩ = some (.bool oq) := rj.c3
  have hin2 : (i : Int) < N := by omega
  have hjn2 : (j : Int) < N := by omega
  have HW1 : Hid (∀ a b, (((w1.alloc (.cells a 33)).alloc (.cells b 33)).heap[w1.heap.size]? = some (.cells a 33 (0, 0)) ∧ ((w1.alloc (.cells a 33)).alloc (.cells b 33)).heap[w1.heap.size + 1]? = some (.cells b 33 (0, 0)) ∧ Below w1.heap.size w1 ((w1.alloc (.cells a 33)).alloc (.cells b 33)))) := Lib.hid (fun a b => two_box w1 a b 33)
  clear ri rj hcl hgl
  go_cut [5, 6] (fun s5 s6 wc => ∃ B1 B2 : Nat, s5 = .pointer (some ⟨B1, 0, none⟩) ∧ s6 = .pointer (some ⟨B2, 0, none⟩) ∧ Hid (wc.heap[B1]? = some (.cells #[.int .i64 9, .slice na nn nc, .slice ka kn kc, .bool op] 33 (0, 0))) ∧ Hid (wc.heap[B2]? = some (.cells #[.int .i64 9, .slice ma mn mc, .slice ja jn jc, .bool oq] 33 (0, 0))) ∧ Hid (Below w1.heap.size w1 wc))
  case first =>
    go_region_held3 (fun w' => w'.cell? ⟨w.heap.size, 0, none⟩ = some (.int .i64 (i : Int)) ∧ w'.cell? ⟨w.heap.size, 1, none⟩ = some (.int .i64 (j : Int)) ∧ w'.cell? ⟨R, 0, none⟩ = some (.slice (some ⟨gl, ol, none⟩) N lc) ∧ w'.cell? ⟨gl, ol + i * 4, none⟩ = some (.int .i64 9) ∧ w'.cell? ⟨gl, ol + i * 4 + 1, none⟩ = some (.slice na nn nc) ∧ w'.cell? ⟨gl, ol + i * 4 + 2, none⟩ = some (.slice ka kn kc) ∧ w'.cell? ⟨gl, ol + i * 4 + 3, none⟩ = some (.bool op) ∧ w'.cell? ⟨gl, ol + j * 4, none⟩ = some (.int .i64 9) ∧ w'.cell? ⟨gl, ol + j * 4 + 1, none⟩ = some (.slice ma mn mc) ∧ w'.cell? ⟨gl, ol + j * 4 + 2, none⟩ = some (.slice ja jn jc) ∧ w'.cell? ⟨gl, ol + j * 4 + 3, none⟩ = some (.bool oq)) (first | exact ⟨p0, p1, r0, s0, s1, s2, s3, t0, t1, t2, t3⟩ | go_keep) ((fail))
    all_goals
      go_wp2
      go_meet
      case rel => first | exact ⟨w1.heap.size, w1.heap.size + 1, rfl, rfl, Lib.hid (HW1.out _ _).1, Lib.hid (HW1.out _ _).2.1, Lib.hid (HW1.out _ _).2.2.drew⟩ | exact ⟨w1.heap.size + 1, w1.heap.size, rfl, rfl, Lib.hid (HW1.out _ _).2.1, Lib.hid (HW1.out _ _).1, Lib.hid (HW1.out _ _).2.2.drew⟩
  case rest =>
  obtain ⟨B1, B2, rfl, rfl, HY1, HY2, HBZ⟩ := hcut
  obtain ⟨wa, rfl⟩ : ∃ wa : World, wa = wc := ⟨_, rfl⟩
  clear p0 p1 r0 s0 s1 s2 s3 t0 t1 t2 t3
  have b0 : wa.cell? ⟨B1, 0, none⟩ = some (.int .i64 9) := (by rw [cell_of_row _ _ 0 _ 33 _ HY1.out]; rfl)
  have b1 : wa.cell? ⟨B1, 1, none⟩ = some (.slice na nn nc) := (by rw [cell_of_row _ _ 1 _ 33 _ HY1.out]; rfl)
  have b2 : wa.cell? ⟨B1, 2, none⟩ = some (.slice ka kn kc) := (by rw [cell_of_row _ _ 2 _ 33 _ HY1.out]; rfl)
  have b3 : wa.cell? ⟨B1, 3, none⟩ = some (.bool op) := (by rw [cell_of_row _ _ 3 _ 33 _ HY1.out]; rfl)
  have d0 : wa.cell? ⟨B2, 0, none⟩ = some (.int .i64 9) := (by rw [cell_of_row _ _ 0 _ 33 _ HY2.out]; rfl)
  have d1 : wa.cell? ⟨B2, 1, none⟩ = some (.slice ma mn mc) := (by rw [cell_of_row _ _ 1 _ 33 _ HY2.out]; rfl)
  have d2 : wa.cell? ⟨B2, 2, none⟩ = some (.slice ja jn jc) := (by rw [cell_of_row _ _ 2 _ 33 _ HY2.out]; rfl)
  have d3 : wa.cell? ⟨B2, 3, none⟩ = some (.bool oq) := (by rw [cell_of_row _ _ 3 _ 33 _ HY2.out]; rfl)
  have HTA := Lib.hid (HT1.out.on HBZ.out)
  have HKW : Hid (Kp 141 R w wa) := Lib.hid ((Kp.of_below HB0.out).trans (Kp.of_below HBZ.out))
  have HC1 := Lib.hid (HCC.out wa HTA.out)
  go_wp2_with (go_at_call 114; (with_reducible refine HC1.out.mono ?_); rintro e w5 ⟨rfl, hq5⟩; have HQ5 := Lib.hid hq5; clear hq5)
  go_ret
  exact (StpPost.conv ⟨rfl, HQ5.out⟩ HSF.out).from' HKW.out
set_option maxRecDepth 20000 in
set_option maxHeartbeats 8000000 in
theorem step_var94 (w0 wl w : World) (R M N dyn : Nat) (la : Option Addr) (lc : Nat) (OS : List Hd) (HL : ∀ w', Lk wl R M w' → HeadsIn w' la N OS) (SL : List PrA × List PrA) (hT : AkT akA w0 wl R M (.slice la N lc) (.int .i64 (dyn : Int)) w SL) (hdn : dyn < N) (hN : N ≤ 300) (hok : OkHeads OS) (i j : Nat) (hd : Int) (na : Option Addr) (nn nc : Nat) (NS : List ByteArray) (ka : Option Addr) (kn kc : Nat) (KS : List Int) (op : Bool) (hi : OS[i]? = some ⟨hd, na, nn, nc, NS, ka, kn, kc, KS, op⟩)
    (ed : Int) (ma : Option Addr) (mn mc : Nat) (MS : List ByteArray) (ja : Option Addr) (jn jc : Nat) (JS : List Int) (oq : Bool) (hj : OS[j]? = some ⟨ed, ma, mn, mc, MS, ja, jn, jc, JS, oq⟩) (h7 : hd = 9) (e7 : ed = 4) :
    Calls Tryz.prog 86 #[.pointer (some ⟨R, 0, none⟩), .agg #[.int .i64 (i : Int), .int .i64 (j : Int)]] w (StpPost akA w0 wl R M (.slice la N lc) (.int .i64 (dyn : Int)) SL w (stpA OS dyn (i, j))) := by
  rw [stpA_at (p := (i, j)) hi hj]
  have hN1 : N = OS.length := (HL w hT.lk).1
  have q1 := hok _ (List.mem_of_getElem? hi)
  have q2 := hok _ (List.mem_of_getElem? hj)
  rw [← hN1] at q1 q2
  simp only at q1 q2
  have hin : i < N := by rw [hN1]; exact (List.getElem?_eq_some_iff.1 hi).1
  have hjn : j < N := by rw [hN1]; exact (List.getElem?_eq_some_iff.1 hj).1
  have HQ1 := Lib.hid q1
  have HQ2 := Lib.hid q2
  have HH := Lib.hid (AkT.heads_at (w0 := w0) (w := w) HL hi)
  have HK := Lib.hid (AkT.heads_at (w0 := w0) (w := w) HL hj)
  have HLL := Lib.hid HL
  subst h7 e7
  have HSF := Lib.hid (var_ask (L := OS) (dyn := dyn) (h := ⟨9, na, nn, nc, NS, ka, kn, kc, KS, op⟩) (k := ⟨4, ma, mn, mc, MS, ja, jn, jc, JS, oq⟩) q1 q2 (by simp) (by simp) (by simp))
  have HCC : Hid (∀ w', AkT akA w0 wl R M (.slice la N lc) (.int .i64 (dyn : Int)) w' SL → Calls Tryz.prog 114 #[.pointer (some ⟨R, 0, none⟩), .agg #[.int .i64 9, .slice na nn nc, .slice ka kn kc, .bool op], .agg #[.int .i64 4, .slice ma mn mc, .slice ja jn jc, .bool oq]] w' (StpPost akA w0 wl R M (.slice la N lc) (.int .i64 (dyn : Int)) SL w' (varF OS dyn ⟨9, na, nn, nc, NS, ka, kn, kc, KS, op⟩ ⟨4, ma, mn, mc, MS, ja, jn, jc, JS, oq⟩))) := Lib.hid (fun w' ha => by
    cases op with
    | true => exact variants_bad w0 wl w' R M N dyn la lc OS HL SL ha hdn hN 9 na nn nc NS ka kn kc KS true HH.out q1 4 ma mn mc MS ja jn jc JS oq HK.out q2 rfl rfl rfl
    | false => exact variants_9 w0 wl w' R M N dyn la lc OS HL SL ha hdn hN 9 na nn nc NS ka kn kc KS false HH.out q1 4 ma mn mc MS ja jn jc JS oq HK.out q2 rfl (fun h => by cases h) (.inr rfl))
  have hb0 : Below w.heap.size w (w.alloc (.cells #[.int .i64 (i : Int), .int .i64 (j : Int)] 141)) := (Below.refl _ _).alloc (Nat.le_refl _) _
  have HT1 := Lib.hid (hT.on hb0)
  have HB0 := Lib.hid hb0
  have HX1 : Hid ((w.alloc (.cells #[.int .i64 (i : Int), .int .i64 (j : Int)] 141)).heap[w.heap.size]? = some (.cells #[.int .i64 (i : Int), .int .i64 (j : Int)] 141 (0, 0))) := Lib.hid (heap_alloc_new w _)
  have HII := Lib.hid hi
  have HJJ := Lib.hid hj
  have HNN := Lib.hid hN1
  clear hT hb0 hi hj hok q1 q2 hN1 HL
  go_enter Tryz.func86, Tryz.ntmps86
  go_upto_region 1 with (fail)
  obtain ⟨w1, hw1⟩ : ∃ w1, (w.alloc (.cells #[.int .i64 (i : Int), .int .i64 (j : Int)] 141)) = w1 := ⟨_, rfl⟩
  rw [hw1] at HT1 HB0 HX1 ⊢
  clear hw1
  have p0 : w1.cell? ⟨w.heap.size, 0, none⟩ = some (.int .i64 (i : Int)) := (by rw [cell_of_row _ _ 0 _ 141 _ HX1.out]; rfl)
  have p1 : w1.cell? ⟨w.heap.size, 1, none⟩ = some (.int .i64 (j : Int)) := (by rw [cell_of_row _ _ 1 _ 141 _ HX1.out]; rfl)
  have r0 : w1.cell? ⟨R, 0, none⟩ = some (.slice la N lc) := HT1.out.c0
  obtain ⟨gl, ol, el, hgl, hcl⟩ := ((HLL.out w1 HT1.out.lk).2).resolve_left (by omega)
  subst el
  have ri := hcl i _ HII.out
  have rj := hcl j _ HJJ.out
  have s0 : w1.cell? ⟨gl, ol + i * 4, none⟩ = some (.int .i64 9) := ri.c0
  have s1 : w1.cell? ⟨gl, ol + i * 4 + 1, none⟩ = some (.slice na nn nc) := ri.c1
  have s2 : w1.cell? ⟨gl, ol + i * 4 + 2, none⟩ = some (.slice ka kn kc) := ri.c2
  have s3 : w1.cell? ⟨gl, ol + i * 4 + 3, none⟩ = some (.bool op) := ri.c3
  have t0 : w1.cell? ⟨gl, ol + j * 4, none⟩ = some (.int .i64 4) := rj.c0
  have t1 : w1.cell? ⟨gl, ol + j * 4 + 1, none⟩ = some (.slice ma mn mc) := rj.c1
  have t2 : w1.cell? ⟨gl, ol + j * 4 + 2, none⟩ = some (.slice ja jn jc) := rj.c2
  have t3 : w1.cell? ⟨gl, ol + j * 4 + 3, none⟩ = some (.bool oq) := rj.c3
  have hin2 : (i : Int) < N := by omega
  have hjn2 : (j : Int) < N := by omega
  have HW1 : Hid (∀ a b, (((w1.alloc (.cells a 33)).alloc (.cells b 33)).heap[w1.heap.size]? = some (.cells a 33 (0, 0)) ∧ ((w1.alloc (.cells a 33)).alloc (.cells b 33)).heap[w1.heap.size + 1]? = some (.cells b 33 (0, 0)) ∧ Below w1.heap.size w1 ((w1.alloc (.cells a 33)).alloc (.cells b 33)))) := Lib.hid (fun a b => two_box w1 a b 33)
  clear ri rj hcl hgl
  go_cut [5, 6] (fun s5 s6 wc => ∃ B1 B2 : Nat, s5 = .pointer (some ⟨B1, 0, none⟩) ∧ s6 = .pointer (some ⟨B2, 0, none⟩) ∧ Hid (wc.heap[B1]? = some (.cells #[.int .i64 9, .slice na nn nc, .slice ka kn kc, .bool op] 33 (0, 0))) ∧ Hid (wc.heap[B2]? = some (.cells #[.int .i64 4, .slice ma mn mc, .slice ja jn jc, .bool oq] 33 (0, 0))) ∧ Hid (Below w1.heap.size w1 wc))
  case first =>
    go_region_held3 (fun w' => w'.cell? ⟨w.heap.size, 0, none⟩ = some (.int .i64 (i : Int)) ∧ w'.cell? ⟨w.heap.size, 1, none⟩ = some (.int .i64 (j : Int)) ∧ w'.cell? ⟨R, 0, none⟩ = some (.slice (some ⟨gl, ol, none⟩) N lc) ∧ w'.cell? ⟨gl, ol + i * 4, none⟩ = some (.int .i64 9) ∧ w'.cell? ⟨gl, ol + i * 4 + 1, none⟩ = some (.slice na nn nc) ∧ w'.cell? ⟨gl, ol + i * 4 + 2, none⟩ = some (.slice ka kn kc) ∧ w'.cell? ⟨gl, ol + i * 4 + 3, none⟩ = some (.bool op) ∧ w'.cell? ⟨gl, ol + j * 4, none⟩ = some (.int .i64 4) ∧ w'.cell? ⟨gl, ol + j * 4 + 1, none⟩ = some (.slice ma mn mc) ∧ w'.cell? ⟨gl, ol + j * 4 + 2, none⟩ = some (.slice ja jn jc) ∧ w'.cell? ⟨gl, ol + j * 4 + 3, none⟩ = some (.bool oq)) (first | exact ⟨p0, p1, r0, s0, s1, s2, s3, t0, t1, t2, t3⟩ | go_keep) ((fail))
    all_goals
      go_wp2
      go_meet
      case rel => first | exact ⟨w1.heap.size, w1.heap.size + 1, rfl, rfl, Lib.hid (HW1.out _ _).1, Lib.hid (HW1.out _ _).2.1, Lib.hid (HW1.out _ _).2.2.drew⟩ | exact ⟨w1.heap.size + 1, w1.heap.size, rfl, rfl, Lib.hid (HW1.out _ _).2.1, Lib.hid (HW1.out _ _).1, Lib.hid (HW1.out _ _).2.2.drew⟩
  case rest =>
  obtain ⟨B1, B2, rfl, rfl, HY1, HY2, HBZ⟩ := hcut
  obtain ⟨wa, rfl⟩ : ∃ wa : World, wa = wc := ⟨_, rfl⟩
  clear p0 p1 r0 s0 s1 s2 s3 t0 t1 t2 t3
  have b0 : wa.cell? ⟨B1, 0, none⟩ = some (.int .i64 9) := (by rw [cell_of_row _ _ 0 _ 33 _ HY1.out]; rfl)
  have b1 : wa.cell? ⟨B1, 1, none⟩ = some (.slice na nn nc) := (by rw [cell_of_row _ _ 1 _ 33 _ HY1.out]; rfl)
  have b2 : wa.cell? ⟨B1, 2, none⟩ = some (.slice ka kn kc) := (by rw [cell_of_row _ _ 2 _ 33 _ HY1.out]; rfl)
  have b3 : wa.cell? ⟨B1, 3, none⟩ = some (.bool op) := (by rw [cell_of_row _ _ 3 _ 33 _ HY1.out]; rfl)
  have d0 : wa.cell? ⟨B2, 0, none⟩ = some (.int .i64 4) := (by rw [cell_of_row _ _ 0 _ 33 _ HY2.out]; rfl)
  have d1 : wa.cell? ⟨B2, 1, none⟩ = some (.slice ma mn mc) := (by rw [cell_of_row _ _ 1 _ 33 _ HY2.out]; rfl)
  have d2 : wa.cell? ⟨B2, 2, none⟩ = some (.slice ja jn jc) := (by rw [cell_of_row _ _ 2 _ 33 _ HY2.out]; rfl)
  have d3 : wa.cell? ⟨B2, 3, none⟩ = some (.bool oq) := (by rw [cell_of_row _ _ 3 _ 33 _ HY2.out]; rfl)
  have HTA := Lib.hid (HT1.out.on HBZ.out)
  have HKW : Hid (Kp 141 R w wa) := Lib.hid ((Kp.of_below HB0.out).trans (Kp.of_below HBZ.out))
  have HC1 := Lib.hid (HCC.out wa HTA.out)
  go_wp2_with (go_at_call 114; (with_reducible refine HC1.out.mono ?_); rintro e w5 ⟨rfl, hq5⟩; have HQ5 := Lib.hid hq5; clear hq5)
  go_ret
  exact (StpPost.conv ⟨rfl, HQ5.out⟩ HSF.out).from' HKW.out
set_option maxRecDepth 20000 in
set_option maxHeartbeats 8000000 in
theorem step_var49 (w0 wl w : World) (R M N dyn : Nat) (la : Option Addr) (lc : Nat) (OS : List Hd) (HL : ∀ w', Lk wl R M w' → HeadsIn w' la N OS) (SL : List PrA × List PrA) (hT : AkT akA w0 wl R M (.slice la N lc) (.int .i64 (dyn : Int)) w SL) (hdn : dyn < N) (hN : N ≤ 300) (hok : OkHeads OS) (i j : Nat) (hd : Int) (na : Option Addr) (nn nc : Nat) (NS : List ByteArray) (ka : Option Addr) (kn kc : Nat) (KS : List Int) (op : Bool) (hi : OS[i]? = some ⟨hd, na, nn, nc, NS, ka, kn, kc, KS, op⟩)
    (ed : Int) (ma : Option Addr) (mn mc : Nat) (MS : List ByteArray) (ja : Option Addr) (jn jc : Nat) (JS : List Int) (oq : Bool) (hj : OS[j]? = some ⟨ed, ma, mn, mc, MS, ja, jn, jc, JS, oq⟩) (h7 : hd = 4) (e7 : ed = 9) :
    Calls Tryz.prog 86 #[.pointer (some ⟨R, 0, none⟩), .agg #[.int .i64 (i : Int), .int .i64 (j : Int)]] w (StpPost akA w0 wl R M (.slice la N lc) (.int .i64 (dyn : Int)) SL w (stpA OS dyn (i, j))) := by
  rw [stpA_at (p := (i, j)) hi hj]
  have hN1 : N = OS.length := (HL w hT.lk).1
  have q1 := hok _ (List.mem_of_getElem? hi)
  have q2 := hok _ (List.mem_of_getElem? hj)
  rw [← hN1] at q1 q2
  simp only at q1 q2
  have hin : i < N := by rw [hN1]; exact (List.getElem?_eq_some_iff.1 hi).1
  have hjn : j < N := by rw [hN1]; exact (List.getElem?_eq_some_iff.1 hj).1
  have HQ1 := Lib.hid q1
  have HQ2 := Lib.hid q2
  have HH := Lib.hid (AkT.heads_at (w0 := w0) (w := w) HL hi)
  have HK := Lib.hid (AkT.heads_at (w0 := w0) (w := w) HL hj)
  have HLL := Lib.hid HL
  subst h7 e7
  have HSF := Lib.hid (var_ask (L := OS) (dyn := dyn) (h := ⟨4, na, nn, nc, NS, ka, kn, kc, KS, op⟩) (k := ⟨9, ma, mn, mc, MS, ja, jn, jc, JS, oq⟩) q1 q2 (by simp) (by simp) (by simp))
  have HCC : Hid (∀ w', AkT akA w0 wl R M (.slice la N lc) (.int .i64 (dyn : Int)) w' SL → Calls Tryz.prog 114 #[.pointer (some ⟨R, 0, none⟩), .agg #[.int .i64 4, .slice na nn nc, .slice ka kn kc, .bool op], .agg #[.int .i64 9, .slice ma mn mc, .slice ja jn jc, .bool oq]] w' (StpPost akA w0 wl R M (.slice la N lc) (.int .i64 (dyn : Int)) SL w' (varF OS dyn ⟨4, na, nn, nc, NS, ka, kn, kc, KS, op⟩ ⟨9, ma, mn, mc, MS, ja, jn, jc, JS, oq⟩))) := Lib.hid (fun w' ha => variants_4 w0 wl w' R M N dyn la lc OS HL SL ha hdn hN 4 na nn nc NS ka kn kc KS op HH.out q1 9 ma mn mc MS ja jn jc JS oq HK.out q2 rfl (fun _ => rfl) (.inl rfl))
  have hb0 : Below w.heap.size w (w.alloc (.cells #[.int .i64 (i : Int), .int .i64 (j : Int)] 141)) := (Below.refl _ _).alloc (Nat.le_refl _) _
  have HT1 := Lib.hid (hT.on hb0)
  have HB0 := Lib.hid hb0
  have HX1 : Hid ((w.alloc (.cells #[.int .i64 (i : Int), .int .i64 (j : Int)] 141)).heap[w.heap.size]? = some (.cells #[.int .i64 (i : Int), .int .i64 (j : Int)] 141 (0, 0))) := Lib.hid (heap_alloc_new w _)
  have HII := Lib.hid hi
  have HJJ := Lib.hid hj
  have HNN := Lib.hid hN1
  clear hT hb0 hi hj hok q1 q2 hN1 HL
  go_enter Tryz.func86, Tryz.ntmps86
  go_upto_region 1 with (fail)
  obtain ⟨w1, hw1⟩ : ∃ w1, (w.alloc (.cells #[.int .i64 (i : Int), .int .i64 (j : Int)] 141)) = w1 := ⟨_, rfl⟩
  rw [hw1] at HT1 HB0 HX1 ⊢
  clear hw1
  have p0 : w1.cell? ⟨w.heap.size, 0, none⟩ = some (.int .i64 (i : Int)) := (by rw [cell_of_row _ _ 0 _ 141 _ HX1.out]; rfl)
  have p1 : w1.cell? ⟨w.heap.size, 1, none⟩ = some (.int .i64 (j : Int)) := (by rw [cell_of_row _ _ 1 _ 141 _ HX1.out]; rfl)
  have r0 : w1.cell? ⟨R, 0, none⟩ = some (.slice la N lc) := HT1.out.c0
  obtain ⟨gl, ol, el, hgl, hcl⟩ := ((HLL.out w1 HT1.out.lk).2).resolve_left (by omega)
  subst el
  have ri := hcl i _ HII.out
  have rj := hcl j _ HJJ.out
  have s0 : w1.cell? ⟨gl, ol + i * 4, none⟩ = some (.int .i64 4) := ri.c0
  have s1 : w1.cell? ⟨gl, ol + i * 4 + 1, none⟩ = some (.slice na nn nc) := ri.c1
  have s2 : w1.cell? ⟨gl, ol + i * 4 + 2, none⟩ = some (.slice ka kn kc) := ri.c2
  have s3 : w1.cell? ⟨gl, ol + i * 4 + 3, none⟩ = some (.bool op) := ri.c3
  have t0 : w1.cell? ⟨gl, ol + j * 4, none⟩ = some (.int .i64 9) := rj.c0
  have t1 : w1.cell? ⟨gl, ol + j * 4 + 1, none⟩ = some (.slice ma mn mc) := rj.c1
  have t2 : w1.cell? ⟨gl, ol + j * 4 + 2, none⟩ = some (.slice ja jn jc) := rj.c2
  have t3 : w1.cell? ⟨gl, ol + j * 4 + 3, none⟩ = some (.bool oq) := rj.c3
  have hin2 : (i : Int) < N := by omega
  have hjn2 : (j : Int) < N := by omega
  have HW1 : Hid (∀ a b, (((w1.alloc (.cells a 33)).alloc (.cells b 33)).heap[w1.heap.size]? = some (.cells a 33 (0, 0)) ∧ ((w1.alloc (.cells a 33)).alloc (.cells b 33)).heap[w1.heap.size + 1]? = some (.cells b 33 (0, 0)) ∧ Below w1.heap.size w1 ((w1.alloc (.cells a 33)).alloc (.cells b 33)))) := Lib.hid (fun a b => two_box w1 a b 33)
  clear ri rj hcl hgl
  go_cut [5, 6] (fun s5 s6 wc => ∃ B1 B2 : Nat, s5 = .pointer (some ⟨B1, 0, none⟩) ∧ s6 = .pointer (some ⟨B2, 0, none⟩) ∧ Hid (wc.heap[B1]? = some (.cells #[.int .i64 4, .slice na nn nc, .slice ka kn kc, .bool op] 33 (0, 0))) ∧ Hid (wc.heap[B2]? = some (.cells #[.int .i64 9, .slice ma mn mc, .slice ja jn jc, .bool oq] 33 (0, 0))) ∧ Hid (Below w1.heap.size w1 wc))
  case first =>
    go_region_held3 (fun w' => w'.cell? ⟨w.heap.size, 0, none⟩ = some (.int .i64 (i : Int)) ∧ w'.cell? ⟨w.heap.size, 1, none⟩ = some (.int .i64 (j : Int)) ∧ w'.cell? ⟨R, 0, none⟩ = some (.slice (some ⟨gl, ol, none⟩) N lc) ∧ w'.cell? ⟨gl, ol + i * 4, none⟩ = some (.int .i64 4) ∧ w'.cell? ⟨gl, ol + i * 4 + 1, none⟩ = some (.slice na nn nc) ∧ w'.cell? ⟨gl, ol + i * 4 + 2, none⟩ = some (.slice ka kn kc) ∧ w'.cell? ⟨gl, ol + i * 4 + 3, none⟩ = some (.bool op) ∧ w'.cell? ⟨gl, ol + j * 4, none⟩ = some (.int .i64 9) ∧ w'.cell? ⟨gl, ol + j * 4 + 1, none⟩ = some (.slice ma mn mc) ∧ w'.cell? ⟨gl, ol + j * 4 + 2, none⟩ = some (.slice ja jn jc) ∧ w'.cell? ⟨gl, ol + j * 4 + 3, none⟩ = some (.bool oq)) (first | exact ⟨p0, p1, r0, s0, s1, s2, s3, t0, t1, t2, t3⟩ | go_keep) ((fail))
    all_goals
      go_wp2
      go_meet
      case rel => first | exact ⟨w1.heap.size, w1.heap.size + 1, rfl, rfl, Lib.hid (HW1.out _ _).1, Lib.hid (HW1.out _ _).2.1, Lib.hid (HW1.out _ _).2.2.drew⟩ | exact ⟨w1.heap.size + 1, w1.heap.size, rfl, rfl, Lib.hid (HW1.out _ _).2.1, Lib.hid (HW1.out _ _).1, Lib.hid (HW1.out _ _).2.2.drew⟩
  case rest =>
  obtain ⟨B1, B2, rfl, rfl, HY1, HY2, HBZ⟩ := hcut
  obtain ⟨wa, rfl⟩ : ∃ wa : World, wa = wc := ⟨_, rfl⟩
  clear p0 p1 r0 s0 s1 s2 s3 t0 t1 t2 t3
  have b0 : wa.cell? ⟨B1, 0, none⟩ = some (.int .i64 4) := (by rw [cell_of_row _ _ 0 _ 33 _ HY1.out]; rfl)
  have b1 : wa.cell? ⟨B1, 1, none⟩ = some (.slice na nn nc) := (by rw [cell_of_row _ _ 1 _ 33 _ HY1.out]; rfl)
  have b2 : wa.cell? ⟨B1, 2, none⟩ = some (.slice ka kn kc) := (by rw [cell_of_row _ _ 2 _ 33 _ HY1.out]; rfl)
  have b3 : wa.cell? ⟨B1, 3, none⟩ = some (.bool op) := (by rw [cell_of_row _ _ 3 _ 33 _ HY1.out]; rfl)
  have d0 : wa.cell? ⟨B2, 0, none⟩ = some (.int .i64 9) := (by rw [cell_of_row _ _ 0 _ 33 _ HY2.out]; rfl)
  have d1 : wa.cell? ⟨B2, 1, none⟩ = some (.slice ma mn mc) := (by rw [cell_of_row _ _ 1 _ 33 _ HY2.out]; rfl)
  have d2 : wa.cell? ⟨B2, 2, none⟩ = some (.slice ja jn jc) := (by rw [cell_of_row _ _ 2 _ 33 _ HY2.out]; rfl)
  have d3 : wa.cell? ⟨B2, 3, none⟩ = some (.bool oq) := (by rw [cell_of_row _ _ 3 _ 33 _ HY2.out]; rfl)
  have HTA := Lib.hid (HT1.out.on HBZ.out)
  have HKW : Hid (Kp 141 R w wa) := Lib.hid ((Kp.of_below HB0.out).trans (Kp.of_below HBZ.out))
  have HC1 := Lib.hid (HCC.out wa HTA.out)
  go_wp2_with (go_at_call 114; (with_reducible refine HC1.out.mono ?_); rintro e w5 ⟨rfl, hq5⟩; have HQ5 := Lib.hid hq5; clear hq5)
  go_ret
  exact (StpPost.conv ⟨rfl, HQ5.out⟩ HSF.out).from' HKW.out
theorem step_any (w0 wl w : World) (R M N dyn : Nat) (la : Option Addr) (lc : Nat) (OS : List Hd) (HL : ∀ w', Lk wl R M w' → HeadsIn w' la N OS) (SL : List PrA × List PrA) (hT : AkT akA w0 wl R M (.slice la N lc) (.int .i64 (dyn : Int)) w SL) (hdn : dyn < N) (hN : N ≤ 300) (hok : OkHeads OS) (i j : Nat) (hin : i < N) (hjn : j < N) :
    Calls Tryz.prog 86 #[.pointer (some ⟨R, 0, none⟩), .agg #[.int .i64 (i : Int), .int .i64 (j : Int)]] w (StpPost akA w0 wl R M (.slice la N lc) (.int .i64 (dyn : Int)) SL w (stpA OS dyn (i, j))) := by
  have hN1 : N = OS.length := (HL w hT.lk).1
  obtain ⟨h, hi⟩ : ∃ h, OS[i]? = some h := ⟨_, List.getElem?_eq_getElem (by omega)⟩
  obtain ⟨k, hj⟩ : ∃ k, OS[j]? = some k := ⟨_, List.getElem?_eq_getElem (by omega)⟩
  have q1 := (head_kind (hok _ (List.mem_of_getElem? hi))).1
  have q2 := (head_kind (hok _ (List.mem_of_getElem? hj))).1
  obtain ⟨hd, na, nn, nc, NS, ka, kn, kc, KS, op⟩ := h
  obtain ⟨ed, ma, mn, mc, MS, ja, jn, jc, JS, oq⟩ := k
  simp only at q1 q2
  by_cases a6 : hd = 6
  · exact step_none w0 wl w R M N dyn la lc OS HL SL hT hdn hN hok i j hd na nn nc NS ka kn kc KS op hi ed ma mn mc MS ja jn jc JS oq hj a6
  by_cases e5 : ed = 5
  · by_cases a4 : hd = 4
    · exact step_any4 w0 wl w R M N dyn la lc OS HL SL hT hdn hN hok i j hd na nn nc NS ka kn kc KS op hi ed ma mn mc MS ja jn jc JS oq hj e5 a4
    · exact step_any_ w0 wl w R M N dyn la lc OS HL SL hT hdn hN hok i j hd na nn nc NS ka kn kc KS op hi ed ma mn mc MS ja jn jc JS oq hj e5 a6 a4
  by_cases a4 : hd = 4
  · by_cases e6 : ed ≤ 6
    · exact step_dyn w0 wl w R M N dyn la lc OS HL SL hT hdn hN hok i j hd na nn nc NS ka kn kc KS op hi ed ma mn mc MS ja jn jc JS oq hj a4 e5 e6
    · by_cases e7 : ed = 7
      · exact step_fun47 w0 wl w R M N dyn la lc OS HL SL hT hdn hN hok i j hd na nn nc NS ka kn kc KS op hi ed ma mn mc MS ja jn jc JS oq hj a4 e7
      · by_cases e8 : ed = 8
        · exact step_rec48 w0 wl w R M N dyn la lc OS HL SL hT hdn hN hok i j hd na nn nc NS ka kn kc KS op hi ed ma mn mc MS ja jn jc JS oq hj a4 e8
        · exact step_var49 w0 wl w R M N dyn la lc OS HL SL hT hdn hN hok i j hd na nn nc NS ka kn kc KS op hi ed ma mn mc MS ja jn jc JS oq hj a4 (by omega)
  by_cases a5 : hd = 5
  · exact step_from_any w0 wl w R M N dyn la lc OS HL SL hT hdn hN hok i j hd na nn nc NS ka kn kc KS op hi ed ma mn mc MS ja jn jc JS oq hj a5 e5
  by_cases e4 : ed = 4
  · by_cases a7 : hd = 7
    · exact step_fun74 w0 wl w R M N dyn la lc OS HL SL hT hdn hN hok i j hd na nn nc NS ka kn kc KS op hi ed ma mn mc MS ja jn jc JS oq hj a7 e4
    · by_cases a8 : hd = 8
      · exact step_rec84 w0 wl w R M N dyn la lc OS HL SL hT hdn hN hok i j hd na nn nc NS ka kn kc KS op hi ed ma mn mc MS ja jn jc JS oq hj a8 e4
      · by_cases a9 : hd = 9
        · exact step_var94 w0 wl w R M N dyn la lc OS HL SL hT hdn hN hok i j hd na nn nc NS ka kn kc KS op hi ed ma mn mc MS ja jn jc JS oq hj a9 e4
        · exact step_plain4 w0 wl w R M N dyn la lc OS HL SL hT hdn hN hok i j hd na nn nc NS ka kn kc KS op hi ed ma mn mc MS ja jn jc JS oq hj (by omega) e4
  by_cases hne : ed = hd
  · by_cases a7 : hd = 7
    · exact step_fun77 w0 wl w R M N dyn la lc OS HL SL hT hdn hN hok i j hd na nn nc NS ka kn kc KS op hi ed ma mn mc MS ja jn jc JS oq hj a7 (by omega)
    · by_cases a8 : hd = 8
      · exact step_rec88 w0 wl w R M N dyn la lc OS HL SL hT hdn hN hok i j hd na nn nc NS ka kn kc KS op hi ed ma mn mc MS ja jn jc JS oq hj a8 (by omega)
      · by_cases a9 : hd = 9
        · exact step_var99 w0 wl w R M N dyn la lc OS HL SL hT hdn hN hok i j hd na nn nc NS ka kn kc KS op hi ed ma mn mc MS ja jn jc JS oq hj a9 (by omega)
        · exact step_plain w0 wl w R M N dyn la lc OS HL SL hT hdn hN hok i j hd na nn nc NS ka kn kc KS op hi ed ma mn mc MS ja jn jc JS oq hj (by omega) hne
  · exact step_other w0 wl w R M N dyn la lc OS HL SL hT hdn hN hok i j hd na nn nc NS ka kn kc KS op hi ed ma mn mc MS ja jn jc JS oq hj a4 a5 a6 e4 e5 hne
end Go.Proofs.YtifilhkkgkihpaaGreatDoor
