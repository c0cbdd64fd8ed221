/- Walks and plain facts. -/
import Derived.Test.YtifilhkkgkihpaaGreatDoorBm07
import Derived.Deep.RegionHeld3
import Derived.Test.YtifilhkkgkihpaaGreatDoorBm04
import Derived.Test.YtifilhkkgkihpaaGreatDoorBm01
import Derived.Test.YtifilhkkgkihpaaGreatDoorBm02
set_option linter.unusedSimpArgs false
set_option linter.unusedVariables false
namespace Go.Proofs.YtifilhkkgkihpaaGreatDoor
open Go.RowKit
theorem map_zip {α β γ : Type} : ∀ {l : List α} {m : List β} (h : l.length = m.length) (f : β → γ), m.map f = (l.zip m).map (fun e => f e.2)
  | [], [], _, f => rfl
  | a :: l, b :: m, h, f => by simp [map_zip (l := l) (m := m) (by simpa using h) f]
set_option maxRecDepth 20000 in
set_option maxHeartbeats 64000000 in
theorem step_at (w0 wl w : World) (R M N dyn : Nat) (la : Option Addr) (lc : Nat) (OS : List Hd) (HL : ∀ w', Lk wl R M w' → HeadsIn w' la N OS) (SL : List PrA × List PrA) (hT : AkT akA w0 wl R M (.slice la N lc) (.int .i64 (dyn : Int)) w SL) (hdn : dyn < N) (hN : N ≤ 300) (hok : OkHeads OS) (i j : Nat) (hd : Int) (na : Option Addr) (nn nc : Nat) (NS : List ByteArray) (ka : Option Addr) (kn kc : Nat) (KS : List Int) (op : Bool) (hi : OS[i]? = some ⟨hd, na, nn, nc, NS, ka, kn, kc, KS, op⟩)
    (ed : Int) (ma : Option Addr) (mn mc : Nat) (MS : List ByteArray) (ja : Option Addr) (jn jc : Nat) (JS : List Int) (oq : Bool) (hj : OS[j]? = some ⟨ed, ma, mn, mc, MS, ja, jn, jc, JS, oq⟩) :
    Calls Tryz.prog 86 #[.pointer (some ⟨R, 0, none⟩), .agg #[.int .i64 (i : Int), .int .i64 (j : Int)]] w (StpPost akA w0 wl R M (.slice la N lc) (.int .i64 (dyn : Int)) SL w (stpA OS dyn (i, j))) := by
  rw [stpA_at (p := (i, j)) hi hj]
  have hN1 : N = OS.length := (HL w hT.lk).1
  have q1 := hok _ (List.mem_of_getElem? hi)
  have q2 := hok _ (List.mem_of_getElem? hj)
  rw [← hN1] at q1 q2
  simp only at q1 q2
  have hin : i < N := by rw [hN1]; exact (List.getElem?_eq_some_iff.1 hi).1
  have hjn : j < N := by rw [hN1]; exact (List.getElem?_eq_some_iff.1 hj).1
  have HQ1 := Lib.hid q1
  have HQ2 := Lib.hid q2
  have HH := Lib.hid (AkT.heads_at (w0 := w0) (w := w) HL hi)
  have HK := Lib.hid (AkT.heads_at (w0 := w0) (w := w) HL hj)
  have HLL := Lib.hid HL
  have hb0 : Below w.heap.size w (w.alloc (.cells #[.int .i64 (i : Int), .int .i64 (j : Int)] 141)) := (Below.refl _ _).alloc (Nat.le_refl _) _
  have HT1 := Lib.hid (hT.on hb0)
  have HB0 := Lib.hid hb0
  have HX1 : Hid ((w.alloc (.cells #[.int .i64 (i : Int), .int .i64 (j : Int)] 141)).heap[w.heap.size]? = some (.cells #[.int .i64 (i : Int), .int .i64 (j : Int)] 141 (0, 0))) := Lib.hid (heap_alloc_new w _)
  have HII := Lib.hid hi
  have HJJ := Lib.hid hj
  have HNN := Lib.hid hN1
  clear hT hb0 hi hj hok q1 q2 hN1 HL
  go_enter Tryz.func86, Tryz.ntmps86
  go_upto_region 1 with (fail)
  obtain ⟨w1, hw1⟩ : ∃ w1, (w.alloc (.cells #[.int .i64 (i : Int), .int .i64 (j : Int)] 141)) = w1 := ⟨_, rfl⟩
  rw [hw1] at HT1 HB0 HX1 ⊢
  clear hw1
  have p0 : w1.cell? ⟨w.heap.size, 0, none⟩ = some (.int .i64 (i : Int)) := (by rw [cell_of_row _ _ 0 _ 141 _ HX1.out]; rfl)
  have p1 : w1.cell? ⟨w.heap.size, 1, none⟩ = some (.int .i64 (j : Int)) := (by rw [cell_of_row _ _ 1 _ 141 _ HX1.out]; rfl)
  have r0 : w1.cell? ⟨R, 0, none⟩ = some (.slice la N lc) := HT1.out.c0
  obtain ⟨gl, ol, el, hgl, hcl⟩ := ((HLL.out w1 HT1.out.lk).2).resolve_left (by omega)
  subst el
  have ri := hcl i _ HII.out
  have rj := hcl j _ HJJ.out
  have s0 : w1.cell? ⟨gl, ol + i * 4, none⟩ = some (.int .i64 hd) := ri.c0
  have s1 : w1.cell? ⟨gl, ol + i * 4 + 1, none⟩ = some (.slice na nn nc) := ri.c1
  have s2 : w1.cell? ⟨gl, ol + i * 4 + 2, none⟩ = some (.slice ka kn kc) := ri.c2
  have s3 : w1.cell? ⟨gl, ol + i * 4 + 3, none⟩ = some (.bool op) := ri.c3
  have t0 : w1.cell? ⟨gl, ol + j * 4, none⟩ = some (.int .i64 ed) := rj.c0
  have t1 : w1.cell? ⟨gl, ol + j * 4 + 1, none⟩ = some (.slice ma mn mc) := rj.c1
  have t2 : w1.cell? ⟨gl, ol + j * 4 + 2, none⟩ = some (.slice ja jn jc) := rj.c2
  have t3 : w1.cell? ⟨gl, ol + j * 4 + 3, none⟩ = some (.bool oq) := rj.c3
  have hin2 : (i : Int) < N := by omega
  have hjn2 : (j : Int) < N := by omega
  have HW1 : Hid (∀ a b, (((w1.alloc (.cells a 33)).alloc (.cells b 33)).heap[w1.heap.size]? = some (.cells a 33 (0, 0)) ∧ ((w1.alloc (.cells a 33)).alloc (.cells b 33)).heap[w1.heap.size + 1]? = some (.cells b 33 (0, 0)) ∧ Below w1.heap.size w1 ((w1.alloc (.cells a 33)).alloc (.cells b 33)))) := Lib.hid (fun a b => two_box w1 a b 33)
  clear ri rj hcl hgl
  go_cut [5, 6] (fun s5 s6 wc => ∃ B1 B2 : Nat, s5 = .pointer (some ⟨B1, 0, none⟩) ∧ s6 = .pointer (some ⟨B2, 0, none⟩) ∧ Hid (wc.heap[B1]? = some (.cells #[.int .i64 hd, .slice na nn nc, .slice ka kn kc, .bool op] 33 (0, 0))) ∧ Hid (wc.heap[B2]? = some (.cells #[.int .i64 ed, .slice ma mn mc, .slice ja jn jc, .bool oq] 33 (0, 0))) ∧ Hid (Below w1.heap.size w1 wc))
  case first =>
    go_region_held3 (fun w' => w'.cell? ⟨w.heap.size, 0, none⟩ = some (.int .i64 (i : Int)) ∧ w'.cell? ⟨w.heap.size, 1, none⟩ = some (.int .i64 (j : Int)) ∧ w'.cell? ⟨R, 0, none⟩ = some (.slice (some ⟨gl, ol, none⟩) N lc) ∧ w'.cell? ⟨gl, ol + i * 4, none⟩ = some (.int .i64 hd) ∧ w'.cell? ⟨gl, ol + i * 4 + 1, none⟩ = some (.slice na nn nc) ∧ w'.cell? ⟨gl, ol + i * 4 + 2, none⟩ = some (.slice ka kn kc) ∧ w'.cell? ⟨gl, ol + i * 4 + 3, none⟩ = some (.bool op) ∧ w'.cell? ⟨gl, ol + j * 4, none⟩ = some (.int .i64 ed) ∧ w'.cell? ⟨gl, ol + j * 4 + 1, none⟩ = some (.slice ma mn mc) ∧ w'.cell? ⟨gl, ol + j * 4 + 2, none⟩ = some (.slice ja jn jc) ∧ w'.cell? ⟨gl, ol + j * 4 + 3, none⟩ = some (.bool oq)) (first | exact ⟨p0, p1, r0, s0, s1, s2, s3, t0, t1, t2, t3⟩ | go_keep) ((fail))
    all_goals
      go_wp2
      go_meet
      case rel => first | exact ⟨w1.heap.size, w1.heap.size + 1, rfl, rfl, Lib.hid (HW1.out _ _).1, Lib.hid (HW1.out _ _).2.1, Lib.hid (HW1.out _ _).2.2.drew⟩ | exact ⟨w1.heap.size + 1, w1.heap.size, rfl, rfl, Lib.hid (HW1.out _ _).2.1, Lib.hid (HW1.out _ _).1, Lib.hid (HW1.out _ _).2.2.drew⟩
  case rest =>
  obtain ⟨B1, B2, rfl, rfl, HY1, HY2, HBZ⟩ := hcut
  obtain ⟨wa, rfl⟩ : ∃ wa : World, wa = wc := ⟨_, rfl⟩
  clear p0 p1 r0 s0 s1 s2 s3 t0 t1 t2 t3
  have b0 : wa.cell? ⟨B1, 0, none⟩ = some (.int .i64 hd) := (by rw [cell_of_row _ _ 0 _ 33 _ HY1.out]; rfl)
  have b1 : wa.cell? ⟨B1, 1, none⟩ = some (.slice na nn nc) := (by rw [cell_of_row _ _ 1 _ 33 _ HY1.out]; rfl)
  have b2 : wa.cell? ⟨B1, 2, none⟩ = some (.slice ka kn kc) := (by rw [cell_of_row _ _ 2 _ 33 _ HY1.out]; rfl)
  have b3 : wa.cell? ⟨B1, 3, none⟩ = some (.bool op) := (by rw [cell_of_row _ _ 3 _ 33 _ HY1.out]; rfl)
  have d0 : wa.cell? ⟨B2, 0, none⟩ = some (.int .i64 ed) := (by rw [cell_of_row _ _ 0 _ 33 _ HY2.out]; rfl)
  have d1 : wa.cell? ⟨B2, 1, none⟩ = some (.slice ma mn mc) := (by rw [cell_of_row _ _ 1 _ 33 _ HY2.out]; rfl)
  have d2 : wa.cell? ⟨B2, 2, none⟩ = some (.slice ja jn jc) := (by rw [cell_of_row _ _ 2 _ 33 _ HY2.out]; rfl)
  have d3 : wa.cell? ⟨B2, 3, none⟩ = some (.bool oq) := (by rw [cell_of_row _ _ 3 _ 33 _ HY2.out]; rfl)
  have HTA := Lib.hid (HT1.out.on HBZ.out)
  have HKW : Hid (Kp 141 R w wa) := Lib.hid ((Kp.of_below HB0.out).trans (Kp.of_below HBZ.out))
  have r1 := (head_kind (h := ⟨hd, na, nn, nc, NS, ka, kn, kc, KS, op⟩) HQ1.out).1
  have r2 := (head_kind (h := ⟨ed, ma, mn, mc, MS, ja, jn, jc, JS, oq⟩) HQ2.out).1
  simp only at r1 r2
  by_cases a6 : hd = 6
  · have zh6 : hd = 6 := by first | assumption | omega
    clear r1 r2 a6
    have h6 := zh6
    clear zh6
    subst h6
    have HAS : Hid (askA OS dyn ⟨6, na, nn, nc, NS, ka, kn, kc, KS, op⟩ ⟨ed, ma, mn, mc, MS, ja, jn, jc, JS, oq⟩ = some []) := Lib.hid (by unfold askA; simp)
    clear hdn
    go_wp2
    go_ret
    exact ⟨by rw [HAS.out]; rfl, [], HTA.out, HKW.out, fun q h => (by cases h), fun m e => (by rw [HAS.out] at e; cases e; exact ⟨fun _ h => h, fun _ h => h⟩)⟩
  · by_cases e5 : ed = 5
    · by_cases a4 : hd = 4
      · have zh5 : ed = 5 := by first | assumption | omega
        have zh6 : hd = 4 := by first | assumption | omega
        clear r1 r2 a6 e5 a4
        have h5 := zh5
        clear zh5
        have h6 := zh6
        clear zh6
        subst h5 h6
        have HAS : Hid (askA OS dyn ⟨4, na, nn, nc, NS, ka, kn, kc, KS, op⟩ ⟨5, ma, mn, mc, MS, ja, jn, jc, JS, oq⟩ = some []) := Lib.hid (by unfold askA; simp)

        go_wp2
        go_ret
        exact ⟨by rw [HAS.out]; rfl, [], HTA.out, HKW.out, fun q h => (by cases h), fun m e => (by rw [HAS.out] at e; cases e; exact ⟨fun _ h => h, fun _ h => h⟩)⟩
      · have zh5 : ed = 5 := by first | assumption | omega
        have zh6 : hd ≠ 6 := by first | assumption | omega
        have zh4 : hd ≠ 4 := by first | assumption | omega
        clear r1 r2 a6 e5 a4
        have h5 := zh5
        clear zh5
        have h6 := zh6
        clear zh6
        have h4 := zh4
        clear zh4
        subst h5
        have n6 : (hd == 6) = false := by simpa using h6
        have n4 : (hd == 4) = false := by simpa using h4
        have HAS : Hid (askA OS dyn ⟨hd, na, nn, nc, NS, ka, kn, kc, KS, op⟩ ⟨5, ma, mn, mc, MS, ja, jn, jc, JS, oq⟩ = some []) := Lib.hid (by unfold askA; simp)
        clear h6 h4
        go_wp2
        go_ret
        exact ⟨by rw [HAS.out]; rfl, [], HTA.out, HKW.out, fun q h => (by cases h), fun m e => (by rw [HAS.out] at e; cases e; exact ⟨fun _ h => h, fun _ h => h⟩)⟩
    · by_cases a4 : hd = 4
      · by_cases e6 : ed ≤ 6
        · have zh4 : hd = 4 := by first | assumption | omega
          have zh5 : ed ≠ 5 := by first | assumption | omega
          have zh6 : ed ≤ 6 := by first | assumption | omega
          clear r1 r2 a6 e5 a4 e6
          have h4 := zh4
          clear zh4
          have h5 := zh5
          clear zh5
          have h6 := zh6
          clear zh6
          subst h4
          have n5 : (ed == 5) = false := by simpa using h5
          have HAS : Hid (askA OS dyn ⟨4, na, nn, nc, NS, ka, kn, kc, KS, op⟩ ⟨ed, ma, mn, mc, MS, ja, jn, jc, JS, oq⟩ = some []) := Lib.hid (by unfold askA; rw [if_neg (by simp only; omega), if_neg (by simp only; omega), if_pos rfl, if_neg (by simp only; omega), if_neg (by simp only; omega)])
          clear h5
          go_wp2
          go_ret
          exact ⟨by rw [HAS.out]; rfl, [], HTA.out, HKW.out, fun q h => (by cases h), fun m e => (by rw [HAS.out] at e; cases e; exact ⟨fun _ h => h, fun _ h => h⟩)⟩
        · by_cases e7 : ed = 7
          · have zh7 : hd = 4 := by first | assumption | omega
            have ze7 : ed = 7 := by first | assumption | omega
            clear r1 r2 a6 e5 a4 e6 e7
            have h7 := zh7
            clear zh7
            have e7 := ze7
            clear ze7
            subst h7 e7
            have q3 := head_kind (h := ⟨4, na, nn, nc, NS, ka, kn, kc, KS, op⟩) HQ1.out
            have q4 := head_kind (h := ⟨7, ma, mn, mc, MS, ja, jn, jc, JS, oq⟩) HQ2.out
            simp only at q3 q4
            obtain ⟨xa, xb, hxe, hxa, hxb⟩ : ∃ xa xb : Nat, (xa = dyn ∧ xb = dyn) ∧ xa < N ∧ xb < N := ⟨dyn, dyn, ⟨rfl, rfl⟩, hdn, hdn⟩
            obtain ⟨ya, yb, hJS, hya, hyb⟩ : ∃ ya yb : Nat, JS = [(ya : Int), (yb : Int)] ∧ ya < N ∧ yb < N := by
              obtain ⟨a, b, rfl⟩ := two_of (q4.2.2.2.2.1 (by first | trivial | simp)).2
              have h1 := q4.2.2.1 a (by simp)
              have h2 := q4.2.2.1 b (by simp)
              exact ⟨a.toNat, b.toNat, by rw [Int.toNat_of_nonneg h1.1, Int.toNat_of_nonneg h2.1], by omega, by omega⟩
            have HAS : Hid (askA OS dyn ⟨4, na, nn, nc, NS, ka, kn, kc, KS, op⟩ ⟨7, ma, mn, mc, MS, ja, jn, jc, JS, oq⟩ = some [(ya, xa), (xb, yb)]) := Lib.hid (by unfold askA; rw [hJS, hxe.1, hxe.2]; simp)
            have HE1 : Hid (∀ w', Lk wl R M w' → R < w'.heap.size → w'.cell? ⟨R, 1, none⟩ = some (.int .i64 (dyn : Int)) → Calls Tryz.prog 112 #[.pointer (some ⟨R, 0, none⟩), .agg #[.int .i64 4, .slice na nn nc, .slice ka kn kc, .bool op]] w' fun e w'' => e = .returned (.tuple #[.int .i64 (xa : Int), .int .i64 (xb : Int)]) ∧ Below w'.heap.size w' w'') := Lib.hid (fun w' hl hr hc => by rw [hxe.1, hxe.2]; exact ends_dyn w' R dyn hr hc 4 na nn nc NS ka kn kc KS op rfl)
            have HE2 : Hid (∀ w', Lk wl R M w' → R < w'.heap.size → w'.cell? ⟨R, 1, none⟩ = some (.int .i64 (dyn : Int)) → Calls Tryz.prog 112 #[.pointer (some ⟨R, 0, none⟩), .agg #[.int .i64 7, .slice ma mn mc, .slice ja jn jc, .bool oq]] w' fun e w'' => e = .returned (.tuple #[.int .i64 (ya : Int), .int .i64 (yb : Int)]) ∧ Below w'.heap.size w' w'') := Lib.hid (fun w' hl hr hc => ends_fun w' R dyn hr hc 7 ma mn mc MS ja jn jc JS oq (by decide) (HK.out w' hl).kids ya yb hJS)
            clear q3 q4 hxe hJS
            have HC1 := Lib.hid (HE1.out wa HTA.out.lk HTA.out.ltR HTA.out.c1)
            go_upto_region 13 with (go_at_call 112; (with_reducible refine HC1.out.mono ?_); rintro e w5 ⟨rfl, hb5⟩; have HB5 := Lib.hid hb5; clear hb5)
            clear b0 b1 b2 b3 d0 d1 d2 d3
            have HY5 := Lib.hid ((HB5.out.block _ (Array.getElem?_eq_some_iff.1 HY2.out).1).trans HY2.out)
            have HT5 := Lib.hid (HTA.out.on HB5.out)
            have d0 : w5.cell? ⟨B2, 0, none⟩ = some (.int .i64 7) := (by rw [cell_of_row _ _ 0 _ 33 _ HY5.out]; rfl)
            have d1 : w5.cell? ⟨B2, 1, none⟩ = some (.slice ma mn mc) := (by rw [cell_of_row _ _ 1 _ 33 _ HY5.out]; rfl)
            have d2 : w5.cell? ⟨B2, 2, none⟩ = some (.slice ja jn jc) := (by rw [cell_of_row _ _ 2 _ 33 _ HY5.out]; rfl)
            have d3 : w5.cell? ⟨B2, 3, none⟩ = some (.bool oq) := (by rw [cell_of_row _ _ 3 _ 33 _ HY5.out]; rfl)
            have HC2 := Lib.hid (HE2.out w5 HT5.out.lk HT5.out.ltR HT5.out.c1)
            go_upto_region 14 with (go_at_call 112; (with_reducible refine HC2.out.mono ?_); rintro e w6 ⟨rfl, hb6⟩; have HB6 := Lib.hid hb6; clear hb6)
            clear d0 d1 d2 d3
            have HT6 := Lib.hid (HT5.out.on HB6.out)
            have HA1 := Lib.hid (askA_any w0 wl w6 R M (.slice (some ⟨gl, ol, none⟩) N lc) (.int .i64 (dyn : Int)) _ HT6.out ya xa ⟨by simp only; omega, by simp only; omega⟩)
            go_upto_region 15 with (go_at_call 85; (with_reducible refine HA1.out.mono ?_); rintro e w7 ⟨rfl, ha7, hk7⟩; have HT7 := Lib.hid ha7; have HK7 := Lib.hid hk7; clear ha7 hk7)
            have HA2 := Lib.hid (askA_any w0 wl w7 R M (.slice (some ⟨gl, ol, none⟩) N lc) (.int .i64 (dyn : Int)) _ HT7.out xb yb ⟨by simp only; omega, by simp only; omega⟩)
            go_wp2_with (go_at_call 85; (with_reducible refine HA2.out.mono ?_); rintro e w8 ⟨rfl, ha8, hk8⟩; have HT8 := Lib.hid ha8; have HK8 := Lib.hid hk8; clear ha8 hk8)
            go_ret
            exact ⟨by rw [HAS.out]; rfl, [(ya, xa), (xb, yb)], HT8.out, (((HKW.out.trans (Kp.of_below HB5.out)).trans (Kp.of_below HB6.out)).trans HK7.out).trans HK8.out, fun q hq => (by
              rcases List.mem_cons.1 hq with rfl | hq
              · exact ⟨by simp only; omega, by simp only; omega⟩
              · rcases List.mem_cons.1 hq with rfl | hq
                · exact ⟨by simp only; omega, by simp only; omega⟩
                · cases hq), fun m e => (by rw [HAS.out] at e; cases e; exact ⟨fun _ h => h, fun _ h => h⟩)⟩
          · by_cases e8 : ed = 8
            · have zh7 : hd = 4 := by first | assumption | omega
              have ze7 : ed = 8 := by first | assumption | omega
              clear r1 r2 a6 e5 a4 e6 e7 e8
              have h7 := zh7
              clear zh7
              have e7 := ze7
              clear ze7
              subst h7 e7
              have q4 := head_kind (h := ⟨8, ma, mn, mc, MS, ja, jn, jc, JS, oq⟩) HQ2.out
              have hml : MS.length = JS.length := q4.2.2.2.1 (by first | trivial | simp)
              clear q4
              have HAS : Hid (askA OS dyn ⟨4, na, nn, nc, NS, ka, kn, kc, KS, op⟩ ⟨8, ma, mn, mc, MS, ja, jn, jc, JS, oq⟩ = recA dyn ⟨4, na, nn, nc, NS, ka, kn, kc, KS, op⟩ ⟨8, ma, mn, mc, MS, ja, jn, jc, JS, oq⟩) := Lib.hid (by
                unfold askA
                rw [if_neg (by simp), if_neg (by simp), if_pos rfl, if_neg (by simp), if_pos (.inl rfl)]
                unfold recA kidD
                rw [if_pos]
                · simp only [if_true]
                  rw [map_zip hml (fun x : Int => (dyn, x.toNat))]
                  simp
                · exact List.all_eq_true.2 (fun e he => by simp))
              clear hml
              have HCC : Hid (∀ w', AkT akA w0 wl R M (.slice (some ⟨gl, ol, none⟩) N lc) (.int .i64 (dyn : Int)) w' SL → Calls Tryz.prog 113 #[.pointer (some ⟨R, 0, none⟩), .agg #[.int .i64 4, .slice na nn nc, .slice ka kn kc, .bool op], .agg #[.int .i64 8, .slice ma mn mc, .slice ja jn jc, .bool oq]] w' (StpPost akA w0 wl R M (.slice (some ⟨gl, ol, none⟩) N lc) (.int .i64 (dyn : Int)) SL w' (recA dyn ⟨4, na, nn, nc, NS, ka, kn, kc, KS, op⟩ ⟨8, ma, mn, mc, MS, ja, jn, jc, JS, oq⟩))) := Lib.hid (fun w' ha => records_gen w0 wl w' R M N dyn (.slice (some ⟨gl, ol, none⟩) N lc) SL ha hdn hN 4 na nn nc NS ka kn kc KS op HH.out HQ1.out 8 ma mn mc MS ja jn jc JS oq HK.out HQ2.out (by decide) rfl)
              have HC1 := Lib.hid (HCC.out wa HTA.out)
              go_wp2_with (go_at_call 113; (with_reducible refine HC1.out.mono ?_); rintro e w5 ⟨rfl, hq5⟩; have HQ5 := Lib.hid hq5; clear hq5)
              go_ret
              obtain ⟨qs, r1, r2, r3, r4⟩ := HQ5.out
              rw [HAS.out]
              exact ⟨rfl, qs, r1, HKW.out.trans r2, r3, r4⟩
            · have zh7 : hd = 4 := by first | assumption | omega
              have ze7 : ed = 9 := by first | assumption | omega
              clear r1 r2 a6 e5 a4 e6 e7 e8
              have h7 := zh7
              clear zh7
              have e7 := ze7
              clear ze7
              subst h7 e7
              have HSF := Lib.hid (var_ask (L := OS) (dyn := dyn) (h := ⟨4, na, nn, nc, NS, ka, kn, kc, KS, op⟩) (k := ⟨9, ma, mn, mc, MS, ja, jn, jc, JS, oq⟩) HQ1.out HQ2.out (by simp) (by simp) (by simp))
              have HCC : Hid (∀ w', AkT akA w0 wl R M (.slice (some ⟨gl, ol, none⟩) N lc) (.int .i64 (dyn : Int)) w' SL → Calls Tryz.prog 114 #[.pointer (some ⟨R, 0, none⟩), .agg #[.int .i64 4, .slice na nn nc, .slice ka kn kc, .bool op], .agg #[.int .i64 9, .slice ma mn mc, .slice ja jn jc, .bool oq]] w' (StpPost akA w0 wl R M (.slice (some ⟨gl, ol, none⟩) N lc) (.int .i64 (dyn : Int)) SL w' (varF OS dyn ⟨4, na, nn, nc, NS, ka, kn, kc, KS, op⟩ ⟨9, ma, mn, mc, MS, ja, jn, jc, JS, oq⟩))) := Lib.hid (fun w' ha => variants_4 w0 wl w' R M N dyn (some ⟨gl, ol, none⟩) lc OS HLL.out SL ha hdn hN 4 na nn nc NS ka kn kc KS op HH.out HQ1.out 9 ma mn mc MS ja jn jc JS oq HK.out HQ2.out rfl (fun _ => rfl) (.inl rfl))
              have HC1 := Lib.hid (HCC.out wa HTA.out)
              go_wp2_with (go_at_call 114; (with_reducible refine HC1.out.mono ?_); rintro e w5 ⟨rfl, hq5⟩; have HQ5 := Lib.hid hq5; clear hq5)
              go_ret
              exact (StpPost.conv ⟨rfl, HQ5.out⟩ HSF.out).from' HKW.out
      · by_cases a5 : hd = 5
        · have zhh5 : hd = 5 := by first | assumption | omega
          have zh5 : ed ≠ 5 := by first | assumption | omega
          clear r1 r2 a6 e5 a4 a5
          have hh5 := zhh5
          clear zhh5
          have h5 := zh5
          clear zh5
          subst hh5
          have n5 : (ed == 5) = false := by simpa using h5
          have HAS : Hid (askA OS dyn ⟨5, na, nn, nc, NS, ka, kn, kc, KS, op⟩ ⟨ed, ma, mn, mc, MS, ja, jn, jc, JS, oq⟩ = none) := Lib.hid (by unfold askA; rw [if_neg (by simp only; omega), if_pos rfl])
          clear h5
          go_wp2
          go_ret
          exact ⟨by rw [HAS.out]; rfl, [], HTA.out, HKW.out, fun q h => (by cases h), fun m e => (by rw [HAS.out] at e; cases e)⟩
        · by_cases e4 : ed = 4
          · by_cases a7 : hd = 7
            · have zh7 : hd = 7 := by first | assumption | omega
              have ze7 : ed = 4 := by first | assumption | omega
              clear r1 r2 a6 e5 a4 a5 e4 a7
              have h7 := zh7
              clear zh7
              have e7 := ze7
              clear ze7
              subst h7 e7
              have q3 := head_kind (h := ⟨7, na, nn, nc, NS, ka, kn, kc, KS, op⟩) HQ1.out
              have q4 := head_kind (h := ⟨4, ma, mn, mc, MS, ja, jn, jc, JS, oq⟩) HQ2.out
              simp only at q3 q4
              obtain ⟨xa, xb, hKS, hxa, hxb⟩ : ∃ xa xb : Nat, KS = [(xa : Int), (xb : Int)] ∧ xa < N ∧ xb < N := by
                obtain ⟨a, b, rfl⟩ := two_of (q3.2.2.2.2.1 (by first | trivial | simp)).2
                have h1 := q3.2.2.1 a (by simp)
                have h2 := q3.2.2.1 b (by simp)
                exact ⟨a.toNat, b.toNat, by rw [Int.toNat_of_nonneg h1.1, Int.toNat_of_nonneg h2.1], by omega, by omega⟩
              obtain ⟨ya, yb, hye, hya, hyb⟩ : ∃ ya yb : Nat, (ya = dyn ∧ yb = dyn) ∧ ya < N ∧ yb < N := ⟨dyn, dyn, ⟨rfl, rfl⟩, hdn, hdn⟩
              have HAS : Hid (askA OS dyn ⟨7, na, nn, nc, NS, ka, kn, kc, KS, op⟩ ⟨4, ma, mn, mc, MS, ja, jn, jc, JS, oq⟩ = some [(ya, xa), (xb, yb)]) := Lib.hid (by unfold askA; rw [hKS, hye.1, hye.2]; simp)
              have HE1 : Hid (∀ w', Lk wl R M w' → R < w'.heap.size → w'.cell? ⟨R, 1, none⟩ = some (.int .i64 (dyn : Int)) → Calls Tryz.prog 112 #[.pointer (some ⟨R, 0, none⟩), .agg #[.int .i64 7, .slice na nn nc, .slice ka kn kc, .bool op]] w' fun e w'' => e = .returned (.tuple #[.int .i64 (xa : Int), .int .i64 (xb : Int)]) ∧ Below w'.heap.size w' w'') := Lib.hid (fun w' hl hr hc => ends_fun w' R dyn hr hc 7 na nn nc NS ka kn kc KS op (by decide) (HH.out w' hl).kids xa xb hKS)
              have HE2 : Hid (∀ w', Lk wl R M w' → R < w'.heap.size → w'.cell? ⟨R, 1, none⟩ = some (.int .i64 (dyn : Int)) → Calls Tryz.prog 112 #[.pointer (some ⟨R, 0, none⟩), .agg #[.int .i64 4, .slice ma mn mc, .slice ja jn jc, .bool oq]] w' fun e w'' => e = .returned (.tuple #[.int .i64 (ya : Int), .int .i64 (yb : Int)]) ∧ Below w'.heap.size w' w'') := Lib.hid (fun w' hl hr hc => by rw [hye.1, hye.2]; exact ends_dyn w' R dyn hr hc 4 ma mn mc MS ja jn jc JS oq rfl)
              clear q3 q4 hKS hye
              have HC1 := Lib.hid (HE1.out wa HTA.out.lk HTA.out.ltR HTA.out.c1)
              go_upto_region 13 with (go_at_call 112; (with_reducible refine HC1.out.mono ?_); rintro e w5 ⟨rfl, hb5⟩; have HB5 := Lib.hid hb5; clear hb5)
              clear b0 b1 b2 b3 d0 d1 d2 d3
              have HY5 := Lib.hid ((HB5.out.block _ (Array.getElem?_eq_some_iff.1 HY2.out).1).trans HY2.out)
              have HT5 := Lib.hid (HTA.out.on HB5.out)
              have d0 : w5.cell? ⟨B2, 0, none⟩ = some (.int .i64 4) := (by rw [cell_of_row _ _ 0 _ 33 _ HY5.out]; rfl)
              have d1 : w5.cell? ⟨B2, 1, none⟩ = some (.slice ma mn mc) := (by rw [cell_of_row _ _ 1 _ 33 _ HY5.out]; rfl)
              have d2 : w5.cell? ⟨B2, 2, none⟩ = some (.slice ja jn jc) := (by rw [cell_of_row _ _ 2 _ 33 _ HY5.out]; rfl)
              have d3 : w5.cell? ⟨B2, 3, none⟩ = some (.bool oq) := (by rw [cell_of_row _ _ 3 _ 33 _ HY5.out]; rfl)
              have HC2 := Lib.hid (HE2.out w5 HT5.out.lk HT5.out.ltR HT5.out.c1)
              go_upto_region 14 with (go_at_call 112; (with_reducible refine HC2.out.mono ?_); rintro e w6 ⟨rfl, hb6⟩; have HB6 := Lib.hid hb6; clear hb6)
              clear d0 d1 d2 d3
              have HT6 := Lib.hid (HT5.out.on HB6.out)
              have HA1 := Lib.hid (askA_any w0 wl w6 R M (.slice (some ⟨gl, ol, none⟩) N lc) (.int .i64 (dyn : Int)) _ HT6.out ya xa ⟨by simp only; omega, by simp only; omega⟩)
              go_upto_region 15 with (go_at_call 85; (with_reducible refine HA1.out.mono ?_); rintro e w7 ⟨rfl, ha7, hk7⟩; have HT7 := Lib.hid ha7; have HK7 := Lib.hid hk7; clear ha7 hk7)
              have HA2 := Lib.hid (askA_any w0 wl w7 R M (.slice (some ⟨gl, ol, none⟩) N lc) (.int .i64 (dyn : Int)) _ HT7.out xb yb ⟨by simp only; omega, by simp only; omega⟩)
              go_wp2_with (go_at_call 85; (with_reducible refine HA2.out.mono ?_); rintro e w8 ⟨rfl, ha8, hk8⟩; have HT8 := Lib.hid ha8; have HK8 := Lib.hid hk8; clear ha8 hk8)
              go_ret
              exact ⟨by rw [HAS.out]; rfl, [(ya, xa), (xb, yb)], HT8.out, (((HKW.out.trans (Kp.of_below HB5.out)).trans (Kp.of_below HB6.out)).trans HK7.out).trans HK8.out, fun q hq => (by
                rcases List.mem_cons.1 hq with rfl | hq
                · exact ⟨by simp only; omega, by simp only; omega⟩
                · rcases List.mem_cons.1 hq with rfl | hq
                  · exact ⟨by simp only; omega, by simp only; omega⟩
                  · cases hq), fun m e => (by rw [HAS.out] at e; cases e; exact ⟨fun _ h => h, fun _ h => h⟩)⟩
            · by_cases a8 : hd = 8
              · have zh7 : hd = 8 := by first | assumption | omega
                have ze7 : ed = 4 := by first | assumption | omega
                clear r1 r2 a6 e5 a4 a5 e4 a7 a8
                have h7 := zh7
                clear zh7
                have e7 := ze7
                clear ze7
                subst h7 e7
                have HAS : Hid (askA OS dyn ⟨8, na, nn, nc, NS, ka, kn, kc, KS, op⟩ ⟨4, ma, mn, mc, MS, ja, jn, jc, JS, oq⟩ = some (KS.map fun x => (x.toNat, dyn))) := Lib.hid (by unfold askA; simp)

                have HCC : Hid (∀ w', AkT akA w0 wl R M (.slice (some ⟨gl, ol, none⟩) N lc) (.int .i64 (dyn : Int)) w' SL → Calls Tryz.prog 113 #[.pointer (some ⟨R, 0, none⟩), .agg #[.int .i64 8, .slice na nn nc, .slice ka kn kc, .bool op], .agg #[.int .i64 4, .slice ma mn mc, .slice ja jn jc, .bool oq]] w' (StpPost akA w0 wl R M (.slice (some ⟨gl, ol, none⟩) N lc) (.int .i64 (dyn : Int)) SL w' (some (KS.map fun x => (x.toNat, dyn))))) := Lib.hid (fun w' ha => records_dyn w0 wl w' R M N dyn (.slice (some ⟨gl, ol, none⟩) N lc) SL ha hdn hN 8 na nn nc NS ka kn kc KS op HH.out HQ1.out 4 ma mn mc MS ja jn jc JS oq HK.out HQ2.out rfl rfl)
                have HC1 := Lib.hid (HCC.out wa HTA.out)
                go_wp2_with (go_at_call 113; (with_reducible refine HC1.out.mono ?_); rintro e w5 ⟨rfl, hq5⟩; have HQ5 := Lib.hid hq5; clear hq5)
                go_ret
                obtain ⟨qs, r1, r2, r3, r4⟩ := HQ5.out
                rw [HAS.out]
                exact ⟨rfl, qs, r1, HKW.out.trans r2, r3, r4⟩
              · by_cases a9 : hd = 9
                · have zh7 : hd = 9 := by first | assumption | omega
                  have ze7 : ed = 4 := by first | assumption | omega
                  clear r1 r2 a6 e5 a4 a5 e4 a7 a8 a9
                  have h7 := zh7
                  clear zh7
                  have e7 := ze7
                  clear ze7
                  subst h7 e7
                  have HSF := Lib.hid (var_ask (L := OS) (dyn := dyn) (h := ⟨9, na, nn, nc, NS, ka, kn, kc, KS, op⟩) (k := ⟨4, ma, mn, mc, MS, ja, jn, jc, JS, oq⟩) HQ1.out HQ2.out (by simp) (by simp) (by simp))
                  have HCC : Hid (∀ w', AkT akA w0 wl R M (.slice (some ⟨gl, ol, none⟩) N lc) (.int .i64 (dyn : Int)) w' SL → Calls Tryz.prog 114 #[.pointer (some ⟨R, 0, none⟩), .agg #[.int .i64 9, .slice na nn nc, .slice ka kn kc, .bool op], .agg #[.int .i64 4, .slice ma mn mc, .slice ja jn jc, .bool oq]] w' (StpPost akA w0 wl R M (.slice (some ⟨gl, ol, none⟩) N lc) (.int .i64 (dyn : Int)) SL w' (varF OS dyn ⟨9, na, nn, nc, NS, ka, kn, kc, KS, op⟩ ⟨4, ma, mn, mc, MS, ja, jn, jc, JS, oq⟩))) := Lib.hid (fun w' ha => by
                    cases op with
                    | true => exact variants_bad w0 wl w' R M N dyn (some ⟨gl, ol, none⟩) lc OS HLL.out SL ha hdn hN 9 na nn nc NS ka kn kc KS true HH.out HQ1.out 4 ma mn mc MS ja jn jc JS oq HK.out HQ2.out rfl rfl rfl
                    | false => exact variants_9 w0 wl w' R M N dyn (some ⟨gl, ol, none⟩) lc OS HLL.out SL ha hdn hN 9 na nn nc NS ka kn kc KS false HH.out HQ1.out 4 ma mn mc MS ja jn jc JS oq HK.out HQ2.out rfl (fun h => by cases h) (.inr rfl))
                  have HC1 := Lib.hid (HCC.out wa HTA.out)
                  go_wp2_with (go_at_call 114; (with_reducible refine HC1.out.mono ?_); rintro e w5 ⟨rfl, hq5⟩; have HQ5 := Lib.hid hq5; clear hq5)
                  go_ret
                  exact (StpPost.conv ⟨rfl, HQ5.out⟩ HSF.out).from' HKW.out
                · have zh3 : hd ≤ 3 := by first | assumption | omega
                  have zhne : ed = 4 := by first | assumption | omega
                  clear r1 r2 a6 e5 a4 a5 e4 a7 a8 a9
                  have h3 := zh3
                  clear zh3
                  have hne := zhne
                  clear zhne
                  subst hne
                  have n4 : (hd == 4) = false := by simp; omega
                  have n5 : (hd == 5) = false := by simp; omega
                  have n6 : (hd == 6) = false := by simp; omega
                  have n7 : (hd == 7) = false := by simp; omega
                  have n8 : (hd == 8) = false := by simp; omega
                  have n9 : (hd == 9) = false := by simp; omega
                  have n44 : ((4 : Int) == hd) = false := by simp; omega
                  have n45 : ((4 : Int) != hd) = true := by simp; omega
                  have n46 : ¬ (4 : Int) = hd := by omega
                  have HAS : Hid (askA OS dyn ⟨hd, na, nn, nc, NS, ka, kn, kc, KS, op⟩ ⟨4, ma, mn, mc, MS, ja, jn, jc, JS, oq⟩ = some []) := Lib.hid (by unfold askA; rw [if_neg (by simp only; omega), if_neg (by simp only; omega), if_neg (by simp only; omega)]; rw [if_pos rfl, if_neg (by simp only; omega), if_neg (by simp only; omega), if_neg (by simp only; omega)])
                  clear h3
                  go_wp2
                  go_ret
                  exact ⟨by rw [HAS.out]; rfl, [], HTA.out, HKW.out, fun q h => (by cases h), fun m e => (by rw [HAS.out] at e; cases e; exact ⟨fun _ h => h, fun _ h => h⟩)⟩
          · by_cases hne : ed = hd
            · by_cases a7 : hd = 7
              · have zh7 : hd = 7 := by first | assumption | omega
                have ze7 : ed = 7 := by first | assumption | omega
                clear r1 r2 a6 e5 a4 a5 e4 hne a7
                have h7 := zh7
                clear zh7
                have e7 := ze7
                clear ze7
                subst h7 e7
                have q3 := head_kind (h := ⟨7, na, nn, nc, NS, ka, kn, kc, KS, op⟩) HQ1.out
                have q4 := head_kind (h := ⟨7, ma, mn, mc, MS, ja, jn, jc, JS, oq⟩) HQ2.out
                simp only at q3 q4
                obtain ⟨xa, xb, hKS, hxa, hxb⟩ : ∃ xa xb : Nat, KS = [(xa : Int), (xb : Int)] ∧ xa < N ∧ xb < N := by
                  obtain ⟨a, b, rfl⟩ := two_of (q3.2.2.2.2.1 (by first | trivial | simp)).2
                  have h1 := q3.2.2.1 a (by simp)
                  have h2 := q3.2.2.1 b (by simp)
                  exact ⟨a.toNat, b.toNat, by rw [Int.toNat_of_nonneg h1.1, Int.toNat_of_nonneg h2.1], by omega, by omega⟩
                obtain ⟨ya, yb, hJS, hya, hyb⟩ : ∃ ya yb : Nat, JS = [(ya : Int), (yb : Int)] ∧ ya < N ∧ yb < N := by
                  obtain ⟨a, b, rfl⟩ := two_of (q4.2.2.2.2.1 (by first | trivial | simp)).2
                  have h1 := q4.2.2.1 a (by simp)
                  have h2 := q4.2.2.1 b (by simp)
                  exact ⟨a.toNat, b.toNat, by rw [Int.toNat_of_nonneg h1.1, Int.toNat_of_nonneg h2.1], by omega, by omega⟩
                have HAS : Hid (askA OS dyn ⟨7, na, nn, nc, NS, ka, kn, kc, KS, op⟩ ⟨7, ma, mn, mc, MS, ja, jn, jc, JS, oq⟩ = some [(ya, xa), (xb, yb)]) := Lib.hid (by unfold askA; rw [hKS, hJS]; simp)
                have HE1 : Hid (∀ w', Lk wl R M w' → R < w'.heap.size → w'.cell? ⟨R, 1, none⟩ = some (.int .i64 (dyn : Int)) → Calls Tryz.prog 112 #[.pointer (some ⟨R, 0, none⟩), .agg #[.int .i64 7, .slice na nn nc, .slice ka kn kc, .bool op]] w' fun e w'' => e = .returned (.tuple #[.int .i64 (xa : Int), .int .i64 (xb : Int)]) ∧ Below w'.heap.size w' w'') := Lib.hid (fun w' hl hr hc => ends_fun w' R dyn hr hc 7 na nn nc NS ka kn kc KS op (by decide) (HH.out w' hl).kids xa xb hKS)
                have HE2 : Hid (∀ w', Lk wl R M w' → R < w'.heap.size → w'.cell? ⟨R, 1, none⟩ = some (.int .i64 (dyn : Int)) → Calls Tryz.prog 112 #[.pointer (some ⟨R, 0, none⟩), .agg #[.int .i64 7, .slice ma mn mc, .slice ja jn jc, .bool oq]] w' fun e w'' => e = .returned (.tuple #[.int .i64 (ya : Int), .int .i64 (yb : Int)]) ∧ Below w'.heap.size w' w'') := Lib.hid (fun w' hl hr hc => ends_fun w' R dyn hr hc 7 ma mn mc MS ja jn jc JS oq (by decide) (HK.out w' hl).kids ya yb hJS)
                clear q3 q4 hKS hJS
                have HC1 := Lib.hid (HE1.out wa HTA.out.lk HTA.out.ltR HTA.out.c1)
                go_upto_region 13 with (go_at_call 112; (with_reducible refine HC1.out.mono ?_); rintro e w5 ⟨rfl, hb5⟩; have HB5 := Lib.hid hb5; clear hb5)
                clear b0 b1 b2 b3 d0 d1 d2 d3
                have HY5 := Lib.hid ((HB5.out.block _ (Array.getElem?_eq_some_iff.1 HY2.out).1).trans HY2.out)
                have HT5 := Lib.hid (HTA.out.on HB5.out)
                have d0 : w5.cell? ⟨B2, 0, none⟩ = some (.int .i64 7) := (by rw [cell_of_row _ _ 0 _ 33 _ HY5.out]; rfl)
                have d1 : w5.cell? ⟨B2, 1, none⟩ = some (.slice ma mn mc) := (by rw [cell_of_row _ _ 1 _ 33 _ HY5.out]; rfl)
                have d2 : w5.cell? ⟨B2, 2, none⟩ = some (.slice ja jn jc) := (by rw [cell_of_row _ _ 2 _ 33 _ HY5.out]; rfl)
                have d3 : w5.cell? ⟨B2, 3, none⟩ = some (.bool oq) := (by rw [cell_of_row _ _ 3 _ 33 _ HY5.out]; rfl)
                have HC2 := Lib.hid (HE2.out w5 HT5.out.lk HT5.out.ltR HT5.out.c1)
                go_upto_region 14 with (go_at_call 112; (with_reducible refine HC2.out.mono ?_); rintro e w6 ⟨rfl, hb6⟩; have HB6 := Lib.hid hb6; clear hb6)
                clear d0 d1 d2 d3
                have HT6 := Lib.hid (HT5.out.on HB6.out)
                have HA1 := Lib.hid (askA_any w0 wl w6 R M (.slice (some ⟨gl, ol, none⟩) N lc) (.int .i64 (dyn : Int)) _ HT6.out ya xa ⟨by simp only; omega, by simp only; omega⟩)
                go_upto_region 15 with (go_at_call 85; (with_reducible refine HA1.out.mono ?_); rintro e w7 ⟨rfl, ha7, hk7⟩; have HT7 := Lib.hid ha7; have HK7 := Lib.hid hk7; clear ha7 hk7)
                have HA2 := Lib.hid (askA_any w0 wl w7 R M (.slice (some ⟨gl, ol, none⟩) N lc) (.int .i64 (dyn : Int)) _ HT7.out xb yb ⟨by simp only; omega, by simp only; omega⟩)
                go_wp2_with (go_at_call 85; (with_reducible refine HA2.out.mono ?_); rintro e w8 ⟨rfl, ha8, hk8⟩; have HT8 := Lib.hid ha8; have HK8 := Lib.hid hk8; clear ha8 hk8)
                go_ret
                exact ⟨by rw [HAS.out]; rfl, [(ya, xa), (xb, yb)], HT8.out, (((HKW.out.trans (Kp.of_below HB5.out)).trans (Kp.of_below HB6.out)).trans HK7.out).trans HK8.out, fun q hq => (by
                  rcases List.mem_cons.1 hq with rfl | hq
                  · exact ⟨by simp only; omega, by simp only; omega⟩
                  · rcases List.mem_cons.1 hq with rfl | hq
                    · exact ⟨by simp only; omega, by simp only; omega⟩
                    · cases hq), fun m e => (by rw [HAS.out] at e; cases e; exact ⟨fun _ h => h, fun _ h => h⟩)⟩
              · by_cases a8 : hd = 8
                · have zh7 : hd = 8 := by first | assumption | omega
                  have ze7 : ed = 8 := by first | assumption | omega
                  clear r1 r2 a6 e5 a4 a5 e4 hne a7 a8
                  have h7 := zh7
                  clear zh7
                  have e7 := ze7
                  clear ze7
                  subst h7 e7
                  have HAS : Hid (askA OS dyn ⟨8, na, nn, nc, NS, ka, kn, kc, KS, op⟩ ⟨8, ma, mn, mc, MS, ja, jn, jc, JS, oq⟩ = recA dyn ⟨8, na, nn, nc, NS, ka, kn, kc, KS, op⟩ ⟨8, ma, mn, mc, MS, ja, jn, jc, JS, oq⟩) := Lib.hid (by unfold askA; simp)

                  have HCC : Hid (∀ w', AkT akA w0 wl R M (.slice (some ⟨gl, ol, none⟩) N lc) (.int .i64 (dyn : Int)) w' SL → Calls Tryz.prog 113 #[.pointer (some ⟨R, 0, none⟩), .agg #[.int .i64 8, .slice na nn nc, .slice ka kn kc, .bool op], .agg #[.int .i64 8, .slice ma mn mc, .slice ja jn jc, .bool oq]] w' (StpPost akA w0 wl R M (.slice (some ⟨gl, ol, none⟩) N lc) (.int .i64 (dyn : Int)) SL w' (recA dyn ⟨8, na, nn, nc, NS, ka, kn, kc, KS, op⟩ ⟨8, ma, mn, mc, MS, ja, jn, jc, JS, oq⟩))) := Lib.hid (fun w' ha => records_gen w0 wl w' R M N dyn (.slice (some ⟨gl, ol, none⟩) N lc) SL ha hdn hN 8 na nn nc NS ka kn kc KS op HH.out HQ1.out 8 ma mn mc MS ja jn jc JS oq HK.out HQ2.out (by decide) rfl)
                  have HC1 := Lib.hid (HCC.out wa HTA.out)
                  go_wp2_with (go_at_call 113; (with_reducible refine HC1.out.mono ?_); rintro e w5 ⟨rfl, hq5⟩; have HQ5 := Lib.hid hq5; clear hq5)
                  go_ret
                  obtain ⟨qs, r1, r2, r3, r4⟩ := HQ5.out
                  rw [HAS.out]
                  exact ⟨rfl, qs, r1, HKW.out.trans r2, r3, r4⟩
                · by_cases a9 : hd = 9
                  · have zh7 : hd = 9 := by first | assumption | omega
                    have ze7 : ed = 9 := by first | assumption | omega
                    clear r1 r2 a6 e5 a4 a5 e4 hne a7 a8 a9
                    have h7 := zh7
                    clear zh7
                    have e7 := ze7
                    clear ze7
                    subst h7 e7
                    have HSF := Lib.hid (var_ask (L := OS) (dyn := dyn) (h := ⟨9, na, nn, nc, NS, ka, kn, kc, KS, op⟩) (k := ⟨9, ma, mn, mc, MS, ja, jn, jc, JS, oq⟩) HQ1.out HQ2.out (by simp) (by simp) (by simp))
                    have HCC : Hid (∀ w', AkT akA w0 wl R M (.slice (some ⟨gl, ol, none⟩) N lc) (.int .i64 (dyn : Int)) w' SL → Calls Tryz.prog 114 #[.pointer (some ⟨R, 0, none⟩), .agg #[.int .i64 9, .slice na nn nc, .slice ka kn kc, .bool op], .agg #[.int .i64 9, .slice ma mn mc, .slice ja jn jc, .bool oq]] w' (StpPost akA w0 wl R M (.slice (some ⟨gl, ol, none⟩) N lc) (.int .i64 (dyn : Int)) SL w' (varF OS dyn ⟨9, na, nn, nc, NS, ka, kn, kc, KS, op⟩ ⟨9, ma, mn, mc, MS, ja, jn, jc, JS, oq⟩))) := Lib.hid (fun w' ha => variants_9 w0 wl w' R M N dyn (some ⟨gl, ol, none⟩) lc OS HLL.out SL ha hdn hN 9 na nn nc NS ka kn kc KS op HH.out HQ1.out 9 ma mn mc MS ja jn jc JS oq HK.out HQ2.out rfl (fun _ => rfl) (.inl rfl))
                    have HC1 := Lib.hid (HCC.out wa HTA.out)
                    go_wp2_with (go_at_call 114; (with_reducible refine HC1.out.mono ?_); rintro e w5 ⟨rfl, hq5⟩; have HQ5 := Lib.hid hq5; clear hq5)
                    go_ret
                    exact (StpPost.conv ⟨rfl, HQ5.out⟩ HSF.out).from' HKW.out
                  · have zh3 : hd ≤ 3 := by first | assumption | omega
                    have zhne : ed = hd := by first | assumption | omega
                    clear r1 r2 a6 e5 a4 a5 e4 hne a7 a8 a9
                    have h3 := zh3
                    clear zh3
                    have hne := zhne
                    clear zhne
                    subst hne
                    have n4 : (ed == 4) = false := by simp; omega
                    have n5 : (ed == 5) = false := by simp; omega
                    have n6 : (ed == 6) = false := by simp; omega
                    have n7 : (ed == 7) = false := by simp; omega
                    have n8 : (ed == 8) = false := by simp; omega
                    have n9 : (ed == 9) = false := by simp; omega
                    have HAS : Hid (askA OS dyn ⟨ed, na, nn, nc, NS, ka, kn, kc, KS, op⟩ ⟨ed, ma, mn, mc, MS, ja, jn, jc, JS, oq⟩ = some []) := Lib.hid (by unfold askA; rw [if_neg (by simp only; omega), if_neg (by simp only; omega), if_neg (by simp only; omega)]; rw [if_neg (by simp only; omega), if_neg (fun h => h rfl), if_neg (by simp only; omega), if_neg (by simp only; omega), if_neg (by simp only; omega)])
                    clear h3
                    go_wp2
                    go_ret
                    exact ⟨by rw [HAS.out]; rfl, [], HTA.out, HKW.out, fun q h => (by cases h), fun m e => (by rw [HAS.out] at e; cases e; exact ⟨fun _ h => h, fun _ h => h⟩)⟩
            · have zh4 : hd ≠ 4 := by first | assumption | omega
              have zh5 : hd ≠ 5 := by first | assumption | omega
              have zh6 : hd ≠ 6 := by first | assumption | omega
              have ze4 : ed ≠ 4 := by first | assumption | omega
              have ze5 : ed ≠ 5 := by first | assumption | omega
              have zhne : ed ≠ hd := by first | assumption | omega
              clear r1 r2 a6 e5 a4 a5 e4 hne
              have h4 := zh4
              clear zh4
              have h5 := zh5
              clear zh5
              have h6 := zh6
              clear zh6
              have e4 := ze4
              clear ze4
              have e5 := ze5
              clear ze5
              have hne := zhne
              clear zhne
              have n4 : (hd == 4) = false := by simpa using h4
              have n5 : (hd == 5) = false := by simpa using h5
              have n6 : (hd == 6) = false := by simpa using h6
              have k4 : (ed == 4) = false := by simpa using e4
              have k4' : (ed != 4) = true := by simpa using e4
              have k5 : (ed == 5) = false := by simpa using e5
              have kh : (ed == hd) = false := by simpa using hne
              have kh' : (ed != hd) = true := by simpa using hne
              have HAS : Hid (askA OS dyn ⟨hd, na, nn, nc, NS, ka, kn, kc, KS, op⟩ ⟨ed, ma, mn, mc, MS, ja, jn, jc, JS, oq⟩ = none) := Lib.hid (by unfold askA; rw [if_neg (by simp only; omega), if_neg (by simp only; omega), if_neg (by simp only; omega), if_neg (by simp only; omega), if_pos (fun e => hne e.symm)])
              clear h4 h5 h6 e4 e5 hne
              go_wp2
              go_ret
              exact ⟨by rw [HAS.out]; rfl, [], HTA.out, HKW.out, fun q h => (by cases h), fun m e => (by rw [HAS.out] at e; cases e)⟩
theorem step_any (w0 wl w : World) (R M N dyn : Nat) (la : Option Addr) (lc : Nat) (OS : List Hd) (HL : ∀ w', Lk wl R M w' → HeadsIn w' la N OS) (SL : List PrA × List PrA) (hT : AkT akA w0 wl R M (.slice la N lc) (.int .i64 (dyn : Int)) w SL) (hdn : dyn < N) (hN : N ≤ 300) (hok : OkHeads OS) (i j : Nat) (hin : i < N) (hjn : j < N) :
    Calls Tryz.prog 86 #[.pointer (some ⟨R, 0, none⟩), .agg #[.int .i64 (i : Int), .int .i64 (j : Int)]] w (StpPost akA w0 wl R M (.slice la N lc) (.int .i64 (dyn : Int)) SL w (stpA OS dyn (i, j))) := by
  have hN1 : N = OS.length := (HL w hT.lk).1
  obtain ⟨h, hi⟩ : ∃ h, OS[i]? = some h := ⟨_, List.getElem?_eq_getElem (by omega)⟩
  obtain ⟨k, hj⟩ : ∃ k, OS[j]? = some k := ⟨_, List.getElem?_eq_getElem (by omega)⟩
  obtain ⟨hd, na, nn, nc, NS, ka, kn, kc, KS, op⟩ := h
  obtain ⟨ed, ma, mn, mc, MS, ja, jn, jc, JS, oq⟩ := k
  exact step_at w0 wl w R M N dyn la lc OS HL SL hT hdn hN hok i j hd na nn nc NS ka kn kc KS op hi ed ma mn mc MS ja jn jc JS oq hj
end Go.Proofs.YtifilhkkgkihpaaGreatDoor
