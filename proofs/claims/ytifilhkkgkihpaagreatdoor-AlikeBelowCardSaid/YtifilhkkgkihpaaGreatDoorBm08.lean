/- Walks and plain facts. -/
import Derived.Test.YtifilhkkgkihpaaGreatDoorBm06
import Derived.Test.YtifilhkkgkihpaaGreatDoorBm07
import Derived.Test.YtifilhkkgkihpaaGreatDoorBm04
import Derived.Test.YtifilhkkgkihpaaGreatDoorBm01
import Derived.Test.YtifilhkkgkihpaaGreatDoorBm02
set_option linter.unusedSimpArgs false
set_option linter.unusedVariables false
namespace Go.Proofs.YtifilhkkgkihpaaGreatDoor
open Go.RowKit
theorem row_len {A B : List Hd} (hA : A.length ≤ 150) (hB : B.length ≤ 150) (t : Bool) : (rowB A B t).length ≤ 150 := by cases t <;> assumption
theorem row_oks {A B : List Hd} (hA : OkHeads A) (hB : OkHeads B) (t : Bool) : OkHeads (rowB A B t) := by cases t <;> assumption
theorem row_hd {wl : World} {R M : Nat} {la lb : Option Addr} {NA NB : Nat} {A B : List Hd} (HL : ∀ w', Lk wl R M w' → HeadsIn w' la NA A ∧ HeadsIn w' lb NB B) {t : Bool} {i : Nat} {h : Hd} (hi : (rowB A B t)[i]? = some h) : ∀ w', Lk wl R M w' → HdOk w' h := fun w' k => by
  cases t with
  | false => exact (HL w' k).1.ok hi
  | true => exact (HL w' k).2.ok hi
set_option maxRecDepth 20000 in
set_option maxHeartbeats 8000000 in
theorem stepB_at (w0 wl w : World) (R M : Nat) (la : Option Addr) (NA lc : Nat) (A : List Hd) (lb : Option Addr) (NB ld : Nat) (B : List Hd) (HL : ∀ w', Lk wl R M w' → HeadsIn w' la NA A ∧ HeadsIn w' lb NB B) (SL : List PrB × List PrB) (hT : AkT akB w0 wl R M (.slice la NA lc) (.slice lb NB ld) w SL) (hokA : OkHeads A) (hokB : OkHeads B) (hNA : A.length ≤ 150) (hNB : B.length ≤ 150) (a b : Nat) (t : Bool) (hd : Int) (na : Option Addr) (nn nc : Nat) (NS : List ByteArray) (ka : Option Addr) (kn kc : Nat) (KS : List Int) (op : Bool) (hi : (rowB A B t)[a]? = some ⟨hd, na, nn, nc, NS, ka, kn, kc, KS, op⟩)
    (ed : Int) (ma : Option Addr) (mn mc : Nat) (MS : List ByteArray) (ja : Option Addr) (jn jc : Nat) (JS : List Int) (oq : Bool) (hj : (rowB A B (!t))[b]? = some ⟨ed, ma, mn, mc, MS, ja, jn, jc, JS, oq⟩) :
    Calls Tryz.prog 82 #[.pointer (some ⟨R, 0, none⟩), .agg #[.int .i64 (a : Int), .int .i64 (b : Int), .bool t]] w (StpPost akB w0 wl R M (.slice la NA lc) (.slice lb NB ld) SL w (stpB A B (a, b, t))) := by
  rw [stpB_at (p := (a, b, t)) hi hj]
  have hNF : (rowB A B t).length ≤ 150 := row_len hNA hNB t
  have hNK : (rowB A B (!t)).length ≤ 150 := row_len hNA hNB (!t)
  have q1 := row_oks hokA hokB t _ (List.mem_of_getElem? hi)
  have q2 := row_oks hokA hokB (!t) _ (List.mem_of_getElem? hj)
  obtain ⟨NF, hNFe⟩ : ∃ NF, (rowB A B t).length = NF := ⟨_, rfl⟩
  obtain ⟨NK, hNKe⟩ : ∃ NK, (rowB A B (!t)).length = NK := ⟨_, rfl⟩
  have HNKE := Lib.hid hNKe
  rw [hNFe] at hNF q1
  rw [hNKe] at hNK q2
  clear hNFe hNKe
  have HQ1 := Lib.hid q1
  have HQ2 := Lib.hid q2
  have HH := Lib.hid (row_hd HL hi)
  have HK := Lib.hid (row_hd HL hj)
  have HLL := Lib.hid HL
  have HB0A := Lib.hid hNF
  have hb0 : Below w.heap.size w (w.alloc (.cells #[.int .i64 (a : Int), .int .i64 (b : Int), .bool t] 126)) := (Below.refl _ _).alloc (Nat.le_refl _) _
  have HB0 := Lib.hid hb0
  have HX1 : Hid ((w.alloc (.cells #[.int .i64 (a : Int), .int .i64 (b : Int), .bool t] 126)).heap[w.heap.size]? = some (.cells #[.int .i64 (a : Int), .int .i64 (b : Int), .bool t] 126 (0, 0))) := Lib.hid (heap_alloc_new w _)
  have HT1 : Hid (AkTP akB w0 wl R M (.slice la NA lc) (.slice lb NB ld) (w.alloc (.cells #[.int .i64 (a : Int), .int .i64 (b : Int), .bool t] 126)) SL w.heap.size #[.int .i64 (a : Int), .int .i64 (b : Int), .bool t]) := Lib.hid (hT.pinned hb0 HX1.out)
  have HHD : Hid (Calls Tryz.prog 107 #[.pointer (some ⟨R, 0, none⟩), .agg #[.int .i64 (a : Int), .int .i64 (b : Int), .bool t]] (w.alloc (.cells #[.int .i64 (a : Int), .int .i64 (b : Int), .bool t] 126)) fun e w' => e = .returned (.tuple #[.agg #[.int .i64 hd, .slice na nn nc, .slice ka kn kc, .bool op], .agg #[.int .i64 ed, .slice ma mn mc, .slice ja jn jc, .bool oq]]) ∧ Below (w.alloc (.cells #[.int .i64 (a : Int), .int .i64 (b : Int), .bool t] 126)).heap.size (w.alloc (.cells #[.int .i64 (a : Int), .int .i64 (b : Int), .bool t] 126)) w') := Lib.hid (heads_ok (w.alloc (.cells #[.int .i64 (a : Int), .int .i64 (b : Int), .bool t] 126)) R la NA lc A lb NB ld B HT1.out.t.ltR HT1.out.t.c0 HT1.out.t.c1 (HL _ HT1.out.t.lk).1 (HL _ HT1.out.t.lk).2 a b t _ _ hi hj)
  clear hT hb0 hi hj hokA hokB q1 q2 HL
  go_enter Tryz.func82, Tryz.ntmps82
  go_upto_region 1 with (fail)
  obtain ⟨w1, hw1⟩ : ∃ w1, (w.alloc (.cells #[.int .i64 (a : Int), .int .i64 (b : Int), .bool t] 126)) = w1 := ⟨_, rfl⟩
  rw [hw1] at HT1 HB0 HX1 HHD ⊢
  clear hw1
  have p0 : w1.cell? ⟨w.heap.size, 0, none⟩ = some (.int .i64 (a : Int)) := (by rw [cell_of_row _ _ 0 _ 126 _ HX1.out]; rfl)
  have p1 : w1.cell? ⟨w.heap.size, 1, none⟩ = some (.int .i64 (b : Int)) := (by rw [cell_of_row _ _ 1 _ 126 _ HX1.out]; rfl)
  have p2 : w1.cell? ⟨w.heap.size, 2, none⟩ = some (.bool t) := (by rw [cell_of_row _ _ 2 _ 126 _ HX1.out]; rfl)
  go_upto_region 2 with (go_at_call 107; (with_reducible refine HHD.out.mono ?_); rintro e w2 ⟨rfl, hb2⟩; have HB2 := Lib.hid hb2; clear hb2)
  clear p0 p1 p2
  have H2 := Lib.hid (two_box w2 #[.int .i64 hd, .slice na nn nc, .slice ka kn kc, .bool op] #[.int .i64 ed, .slice ma mn mc, .slice ja jn jc, .bool oq] 33)
  obtain ⟨wa, hwa⟩ : ∃ wa, ((w2.alloc (.cells #[.int .i64 hd, .slice na nn nc, .slice ka kn kc, .bool op] 33)).alloc (.cells #[.int .i64 ed, .slice ma mn mc, .slice ja jn jc, .bool oq] 33)) = wa := ⟨_, rfl⟩
  rw [hwa] at H2 ⊢
  clear hwa
  obtain ⟨B1, hB1⟩ : ∃ B1, w2.heap.size = B1 := ⟨_, rfl⟩
  have HB1 := Lib.hid hB1
  have HBA : Hid (Below w1.heap.size w1 wa) := Lib.hid (HB2.out.trans (H2.out.2.2.mono HB2.out.size))
  have HTP := Lib.hid (HT1.out.on HBA.out)
  have HTA := Lib.hid HTP.out.t
  have HKW : Hid (Kp 126 R w wa) := Lib.hid ((Kp.of_below HB0.out).trans (Kp.of_below HBA.out))
  have HNR : Hid (B1 ≠ R ∧ B1 + 1 ≠ R) := Lib.hid (by
    have h1 := HT1.out.t.ltR
    have h2 := HB2.out.size
    constructor <;> omega)
  rw [hB1] at H2 ⊢
  clear hB1
  have HY1 : Hid (wa.heap[B1]? = some (.cells #[.int .i64 hd, .slice na nn nc, .slice ka kn kc, .bool op] 33 (0, 0))) := Lib.hid H2.out.1
  have HY2 : Hid (wa.heap[B1 + 1]? = some (.cells #[.int .i64 ed, .slice ma mn mc, .slice ja jn jc, .bool oq] 33 (0, 0))) := Lib.hid H2.out.2.1
  have b0 : wa.cell? ⟨B1, 0, none⟩ = some (.int .i64 hd) := (by rw [cell_of_row _ _ 0 _ 33 _ HY1.out]; rfl)
  have b1 : wa.cell? ⟨B1, 1, none⟩ = some (.slice na nn nc) := (by rw [cell_of_row _ _ 1 _ 33 _ HY1.out]; rfl)
  have b2 : wa.cell? ⟨B1, 2, none⟩ = some (.slice ka kn kc) := (by rw [cell_of_row _ _ 2 _ 33 _ HY1.out]; rfl)
  have b3 : wa.cell? ⟨B1, 3, none⟩ = some (.bool op) := (by rw [cell_of_row _ _ 3 _ 33 _ HY1.out]; rfl)
  have d0 : wa.cell? ⟨B1 + 1, 0, none⟩ = some (.int .i64 ed) := (by rw [cell_of_row _ _ 0 _ 33 _ HY2.out]; rfl)
  have d1 : wa.cell? ⟨B1 + 1, 1, none⟩ = some (.slice ma mn mc) := (by rw [cell_of_row _ _ 1 _ 33 _ HY2.out]; rfl)
  have d2 : wa.cell? ⟨B1 + 1, 2, none⟩ = some (.slice ja jn jc) := (by rw [cell_of_row _ _ 2 _ 33 _ HY2.out]; rfl)
  have d3 : wa.cell? ⟨B1 + 1, 3, none⟩ = some (.bool oq) := (by rw [cell_of_row _ _ 3 _ 33 _ HY2.out]; rfl)
  have p0 : wa.cell? ⟨w.heap.size, 0, none⟩ = some (.int .i64 (a : Int)) := (by rw [cell_of_row _ _ 0 _ 126 _ HTP.out.blk]; rfl)
  have p1 : wa.cell? ⟨w.heap.size, 1, none⟩ = some (.int .i64 (b : Int)) := (by rw [cell_of_row _ _ 1 _ 126 _ HTP.out.blk]; rfl)
  have p2 : wa.cell? ⟨w.heap.size, 2, none⟩ = some (.bool t) := (by rw [cell_of_row _ _ 2 _ 126 _ HTP.out.blk]; rfl)
  have HR1 := Lib.hid (head_kind (h := ⟨hd, na, nn, nc, NS, ka, kn, kc, KS, op⟩) HQ1.out).1
  have HR2 := Lib.hid (head_kind (h := ⟨ed, ma, mn, mc, MS, ja, jn, jc, JS, oq⟩) HQ2.out).1
  by_cases h6 : hd = 6
  · subst h6
    have HAS : Hid (askB (rowB A B (!t)) ⟨6, na, nn, nc, NS, ka, kn, kc, KS, op⟩ ⟨ed, ma, mn, mc, MS, ja, jn, jc, JS, oq⟩ t = some []) := Lib.hid (by unfold askB; simp)

    go_wp2
    go_ret
    exact ⟨by rw [HAS.out]; rfl, [], HTA.out, HKW.out, fun q h => (by cases h), fun m e => (by rw [HAS.out] at e; cases e; exact ⟨fun _ h => h, fun _ h => h⟩)⟩
  by_cases h5 : ed = 5
  · subst h5
    have n6 : (hd == 6) = false := by simpa using h6
    have HAS : Hid (askB (rowB A B (!t)) ⟨hd, na, nn, nc, NS, ka, kn, kc, KS, op⟩ ⟨5, ma, mn, mc, MS, ja, jn, jc, JS, oq⟩ t = some []) := Lib.hid (by unfold askB; simp)
    clear h6
    go_wp2
    go_ret
    exact ⟨by rw [HAS.out]; rfl, [], HTA.out, HKW.out, fun q h => (by cases h), fun m e => (by rw [HAS.out] at e; cases e; exact ⟨fun _ h => h, fun _ h => h⟩)⟩
  by_cases hne : hd ≠ ed
  · have n6 : (hd == 6) = false := by simpa using h6
    have n5 : (ed == 5) = false := by simpa using h5
    have nh : (hd == ed) = false := by simpa using hne
    have nh' : (hd != ed) = true := by simpa using hne
    have HAS : Hid (askB (rowB A B (!t)) ⟨hd, na, nn, nc, NS, ka, kn, kc, KS, op⟩ ⟨ed, ma, mn, mc, MS, ja, jn, jc, JS, oq⟩ t = none) := Lib.hid (by unfold askB; rw [if_neg (by simp only; omega), if_pos hne])
    clear h6 h5 hne
    go_wp2
    go_ret
    exact ⟨by rw [HAS.out]; rfl, [], HTA.out, HKW.out, fun q h => (by cases h), fun m e => (by rw [HAS.out] at e; cases e)⟩
  have hne : ed = hd := by omega
  by_cases h7 : hd = 7
  · have e7 : ed = 7 := by omega
    clear h6 h5 hne
    subst h7 e7
    have q3 := head_kind (h := ⟨7, na, nn, nc, NS, ka, kn, kc, KS, op⟩) HQ1.out
    have q4 := head_kind (h := ⟨7, ma, mn, mc, MS, ja, jn, jc, JS, oq⟩) HQ2.out
    simp only at q3 q4
    obtain ⟨xa, xb, hKS, hxa, hxb⟩ : ∃ xa xb : Nat, KS = [(xa : Int), (xb : Int)] ∧ xa < NF ∧ xb < NF := by
      obtain ⟨u, v, rfl⟩ := two_of (q3.2.2.2.2.1 (by first | trivial | simp)).2
      have h1 := q3.2.2.1 u (by simp)
      have h2 := q3.2.2.1 v (by simp)
      exact ⟨u.toNat, v.toNat, by rw [Int.toNat_of_nonneg h1.1, Int.toNat_of_nonneg h2.1], by omega, by omega⟩
    obtain ⟨ya, yb, hJS, hya, hyb⟩ : ∃ ya yb : Nat, JS = [(ya : Int), (yb : Int)] ∧ ya < NK ∧ yb < NK := by
      obtain ⟨u, v, rfl⟩ := two_of (q4.2.2.2.2.1 (by first | trivial | simp)).2
      have h1 := q4.2.2.1 u (by simp)
      have h2 := q4.2.2.1 v (by simp)
      exact ⟨u.toNat, v.toNat, by rw [Int.toNat_of_nonneg h1.1, Int.toNat_of_nonneg h2.1], by omega, by omega⟩
    have HAS : Hid (askB (rowB A B (!t)) ⟨7, na, nn, nc, NS, ka, kn, kc, KS, op⟩ ⟨7, ma, mn, mc, MS, ja, jn, jc, JS, oq⟩ t = some [(ya, xa, !t), (xb, yb, t)]) := Lib.hid (by unfold askB; rw [hKS, hJS]; simp)
    have HKC : Hid (∀ w', Lk wl R M w' → ∃ gk ok, ka = some ⟨gk, ok, none⟩ ∧ kn = 2 ∧ w'.cell? ⟨gk, ok, none⟩ = some (.int .i64 (xa : Int)) ∧ w'.cell? ⟨gk, ok + 1, none⟩ = some (.int .i64 (xb : Int))) := Lib.hid (fun w' hl => by
      have h1 := (HH.out w' hl).kids
      rw [hKS] at h1
      have hk2 : kn = 2 := h1.1
      obtain ⟨gk, ok, e, hg, hc⟩ := h1.2.resolve_left (by simp only; omega)
      exact ⟨gk, ok, e, hk2, hc 0 _ rfl, hc 1 _ rfl⟩)
    have HJC : Hid (∀ w', Lk wl R M w' → ∃ gk ok, ja = some ⟨gk, ok, none⟩ ∧ jn = 2 ∧ w'.cell? ⟨gk, ok, none⟩ = some (.int .i64 (ya : Int)) ∧ w'.cell? ⟨gk, ok + 1, none⟩ = some (.int .i64 (yb : Int))) := Lib.hid (fun w' hl => by
      have h1 := (HK.out w' hl).kids
      rw [hJS] at h1
      have hk2 : jn = 2 := h1.1
      obtain ⟨gk, ok, e, hg, hc⟩ := h1.2.resolve_left (by simp only; omega)
      exact ⟨gk, ok, e, hk2, hc 0 _ rfl, hc 1 _ rfl⟩)
    clear q3 q4 hKS hJS
    obtain ⟨gk, ok, ek, ekn, kc0, kc1⟩ := HKC.out wa HTA.out.lk
    obtain ⟨gj, oj, ej, ejn, jc0, jc1⟩ := HJC.out wa HTA.out.lk
    subst ek ekn ej ejn
    have HA1 : Hid (∀ w', Below wa.heap.size wa w' → Calls Tryz.prog 81 #[.pointer (some ⟨R, 0, none⟩), .agg #[.int .i64 (ya : Int), .int .i64 (xa : Int), .bool (!t)]] w' fun e w'' => e = .returned (.tuple #[]) ∧ AkTP akB w0 wl R M (.slice la NA lc) (.slice lb NB ld) w'' (askS SL (ya, xa, !t)) w.heap.size #[.int .i64 (a : Int), .int .i64 (b : Int), .bool t] ∧ Kp 126 R w' w'') := Lib.hid (fun w' hb => askP_any w0 wl w' R M (.slice la NA lc) (.slice lb NB ld) SL ya xa (!t) ⟨by simp only; omega, by simp only; omega⟩ w.heap.size #[.int .i64 (a : Int), .int .i64 (b : Int), .bool t] (HTP.out.on hb))
    go_upto_region 7 with (fail)
    go_still_tail 13, (by kernel_rfl)
    go_upto_region 8 with (go_at_call 81; (with_reducible refine (HA1.out _ (by exact (Below.refl _ _).drew)).mono ?_); rintro e w7 ⟨rfl, ha7, hk7⟩; have HT7 := Lib.hid ha7; have HK7 := Lib.hid ((Kp.of_below (Below.refl _ _).drew).trans hk7); clear ha7 hk7)
    clear b0 b1 b2 b3 d0 d1 d2 d3 p0 p1 p2 kc0 kc1 jc0 jc1
    have HZ1 := Lib.hid (HK7.out.2 _ _ _ _ HNR.out.1 (by decide) HY1.out)
    have HZ2 := Lib.hid (HK7.out.2 _ _ _ _ HNR.out.2 (by decide) HY2.out)
    have b2 : w7.cell? ⟨B1, 2, none⟩ = some (.slice (some ⟨gk, ok, none⟩) 2 kc) := (by rw [cell_of_row _ _ 2 _ 33 _ HZ1.out]; rfl)
    have d2 : w7.cell? ⟨B1 + 1, 2, none⟩ = some (.slice (some ⟨gj, oj, none⟩) 2 jc) := (by rw [cell_of_row _ _ 2 _ 33 _ HZ2.out]; rfl)
    have p2 : w7.cell? ⟨w.heap.size, 2, none⟩ = some (.bool t) := (by rw [cell_of_row _ _ 2 _ 126 _ HT7.out.blk]; rfl)
    obtain ⟨g1, o1, e1, _, kc0, kc1⟩ := HKC.out w7 HT7.out.t.lk
    cases e1
    obtain ⟨g3, o3, e3, _, jc0, jc1⟩ := HJC.out w7 HT7.out.t.lk
    cases e3
    have HA2 : Hid (∀ w', Below w7.heap.size w7 w' → Calls Tryz.prog 81 #[.pointer (some ⟨R, 0, none⟩), .agg #[.int .i64 (xb : Int), .int .i64 (yb : Int), .bool t]] w' fun e w'' => e = .returned (.tuple #[]) ∧ AkTP akB w0 wl R M (.slice la NA lc) (.slice lb NB ld) w'' (askS (askS SL (ya, xa, !t)) (xb, yb, t)) w.heap.size #[.int .i64 (a : Int), .int .i64 (b : Int), .bool t] ∧ Kp 126 R w' w'') := Lib.hid (fun w' hb => askP_any w0 wl w' R M (.slice la NA lc) (.slice lb NB ld) _ xb yb t ⟨by simp only; omega, by simp only; omega⟩ w.heap.size #[.int .i64 (a : Int), .int .i64 (b : Int), .bool t] (HT7.out.on hb))
    have HF7 : Hid (∃ c0, w7.heap[B1]? = some (.cells #[.int .i64 7, c0, .slice (some ⟨gk, ok, none⟩) 2 kc, .bool op] 33 (0, 0))) := Lib.hid ⟨_, HZ1.out⟩
    go_still_tail 12, (by kernel_rfl)
    go_wp2_with (go_at_call 81; (with_reducible refine (HA2.out _ (by exact (Below.refl _ _).drew)).mono ?_); rintro e w8 ⟨rfl, ha8, hk8⟩; have HT8 := Lib.hid ha8; have HK8 := Lib.hid ((Kp.of_below (Below.refl _ _).drew).trans hk8); clear ha8 hk8; clear b2 d2 p2 kc0 kc1 jc0 jc1; have HZ3 := Lib.hid (HK8.out.2 _ _ _ _ HNR.out.1 (by decide) HZ1.out); have b0 : w8.cell? ⟨B1, 0, none⟩ = some (.int .i64 7) := (by rw [cell_of_row _ _ 0 _ 33 _ HZ3.out]; rfl))
    go_ret
    exact ⟨by rw [HAS.out]; rfl, [(ya, xa, !t), (xb, yb, t)], HT8.out.t, (HKW.out.trans HK7.out).trans HK8.out, fun q hq => (by
      rcases List.mem_cons.1 hq with rfl | hq
      · exact ⟨by simp only; omega, by simp only; omega⟩
      · rcases List.mem_cons.1 hq with rfl | hq
        · exact ⟨by simp only; omega, by simp only; omega⟩
        · cases hq), fun m e => (by rw [HAS.out] at e; cases e; exact ⟨fun _ h => h, fun _ h => h⟩)⟩
  by_cases h8 : hd = 8
  · have e8 : ed = 8 := by omega
    clear h6 h5 h7 hne
    subst h8 e8
    have q3 := head_kind (h := ⟨8, na, nn, nc, NS, ka, kn, kc, KS, op⟩) HQ1.out
    have q4 := head_kind (h := ⟨8, ma, mn, mc, MS, ja, jn, jc, JS, oq⟩) HQ2.out
    simp only at q3 q4
    have HNL : Hid (NS.length = KS.length) := Lib.hid (q3.2.2.2.1 (by first | trivial | simp))
    have HML : Hid (MS.length = JS.length) := Lib.hid (q4.2.2.2.1 (by first | trivial | simp))
    have HRI := Lib.hid q3.2.1
    have HQJ := Lib.hid q4.2.2.1
    have HKR : Hid (∀ s, findK NS KS s = -1 ∨ (0 ≤ findK NS KS s ∧ findK NS KS s < (NF : Int))) := Lib.hid (fun s => by
      rcases findK_cases NS KS s HNL.out with ⟨h1, _⟩ | ⟨p, k, _, h2, h3, _⟩
      · exact .inl h1
      · rw [h3]; exact .inr (q3.2.2.1 k (List.mem_of_getElem? h2)))
    have HMN : Hid (mn = MS.length) := Lib.hid (HK.out wa HTA.out.lk).names.1
    have HJN : Hid (jn = JS.length) := Lib.hid (HK.out wa HTA.out.lk).kids.1
    have HNN : Hid (nn = NS.length) := Lib.hid (HH.out wa HTA.out.lk).names.1
    have HKN : Hid (kn = KS.length) := Lib.hid (HH.out wa HTA.out.lk).kids.1
    have HMB : Hid (mn ≤ 100000) := Lib.hid (HK.out wa HTA.out.lk).nnb
    have HNB : Hid (nn ≤ 100000) := Lib.hid (HH.out wa HTA.out.lk).nnb
    have hmb : (mn : Int) ≤ 100000 := by have := HMB.out; omega
    have HMJ : Hid (mn = jn) := Lib.hid (by rw [HMN.out, HJN.out]; exact HML.out)
    obtain ⟨Z, hZ⟩ : ∃ Z, MS.zip JS = Z := ⟨_, rfl⟩
    have HZ := Lib.hid hZ
    have HZL : Hid (Z.length = mn) := Lib.hid (by rw [← hZ, List.length_zip, HMN.out]; have := HML.out; omega)
    obtain ⟨F, hF⟩ : ∃ F, askB (rowB A B (!t)) ⟨8, na, nn, nc, NS, ka, kn, kc, KS, op⟩ ⟨8, ma, mn, mc, MS, ja, jn, jc, JS, oq⟩ t = F := ⟨_, rfl⟩
    have hF' : recB ⟨8, na, nn, nc, NS, ka, kn, kc, KS, op⟩ ⟨8, ma, mn, mc, MS, ja, jn, jc, JS, oq⟩ t = F := by rw [← hF]; unfold askB; simp
    have HF1 : Hid (∀ e ∈ Z, findK NS KS e.1 < 0 → F = none) := Lib.hid (fun e he h => by
      rw [← hF']
      unfold recB
      rw [if_neg]
      intro h1
      rw [← hZ] at he
      have h2 : 0 ≤ findK NS KS e.1 := by simpa using List.all_eq_true.1 h1 e he
      omega)
    have HF2 : Hid ((∀ e ∈ Z, 0 ≤ findK NS KS e.1) → F = some (Z.map fun e => ((findK NS KS e.1).toNat, e.2.toNat, t))) := Lib.hid (fun h => by
      rw [← hF']
      unfold recB
      rw [if_pos]
      · simp only [hZ]
      · simp only [hZ]
        exact List.all_eq_true.2 (fun e he => decide_eq_true (h e he)))
    have HFE := Lib.hid hF
    clear q3 q4 hF hF' hZ
    go_upto_region 14 with (fail)
    clear b0 b1 b2 b3 d0 d1 d2 d3 p0 p1 p2
    go_loopw [77] (fun s77 wr => ∃ j : Nat, s77 = .int .i64 (j : Int) ∧ j ≤ mn ∧ Hid (AkTP akB w0 wl R M (.slice la NA lc) (.slice lb NB ld) wr (((Z.take j).map fun e => ((findK NS KS e.1).toNat, e.2.toNat, t)).foldl askS SL) w.heap.size #[.int .i64 (a : Int), .int .i64 (b : Int), .bool t]) ∧ Hid (Kp 126 R wa wr) ∧ Hid (∀ e ∈ Z.take j, 0 ≤ findK NS KS e.1)) (fun s77 _ => mn - (intOf s77).toNat)
    case atStart => exact ⟨0, rfl, Nat.zero_le _, HTP, Lib.hid (Kp.refl _ _ _), Lib.hid (fun e he => by simp at he)⟩
    case round =>
      obtain ⟨j, rfl, hj, HAP, HKP, HALL⟩ := hrel
      have HA := Lib.hid HAP.out.t
      obtain ⟨wi, rfl⟩ : ∃ wi : World, wi = wr := ⟨_, rfl⟩
      have hwj : IntKind.i64.wrap ((j : Int) + 1) = (j : Int) + 1 := by rw [IntKind.wrap_i64]; omega
      have HX1' := Lib.hid (HKP.out.2 _ _ _ _ HNR.out.1 (by decide) HY1.out)
      have HX2' := Lib.hid (HKP.out.2 _ _ _ _ HNR.out.2 (by decide) HY2.out)
      by_cases hjk : j < mn
      · have hjk2 : (j : Int) < mn := by omega
        have hjk3 : (j : Int) < jn := by have := HMJ.out; omega
        obtain ⟨s, hs⟩ : ∃ s, MS[j]? = some s := ⟨_, List.getElem?_eq_getElem (by rw [← HMN.out]; exact hjk)⟩
        obtain ⟨q, hq⟩ : ∃ q, JS[j]? = some q := ⟨_, List.getElem?_eq_getElem (by rw [← HJN.out, ← HMJ.out]; exact hjk)⟩
        have hqr := HQJ.out q (List.mem_of_getElem? hq)
        obtain ⟨qn, rfl⟩ : ∃ qn : Nat, q = (qn : Int) := ⟨q.toNat, by omega⟩
        have hz : Z[j]? = some (s, (qn : Int)) := by rw [← HZ.out]; exact zip_at hs hq
        obtain ⟨gm, om, em, hgm, hcm⟩ := ((HK.out wi HA.out.lk).names.2).resolve_left (by simp only; omega)
        simp only at em
        have cm : wi.cell? ⟨gm, om + j, none⟩ = some (.string s) := hcm j _ hs
        have c0 : wi.cell? ⟨B1, 0, none⟩ = some (.int .i64 8) := (by rw [cell_of_row _ _ 0 _ 33 _ HX1'.out]; rfl)
        have c1 : wi.cell? ⟨B1, 1, none⟩ = some (.slice na nn nc) := (by rw [cell_of_row _ _ 1 _ 33 _ HX1'.out]; rfl)
        have c2 : wi.cell? ⟨B1, 2, none⟩ = some (.slice ka kn kc) := (by rw [cell_of_row _ _ 2 _ 33 _ HX1'.out]; rfl)
        have c3 : wi.cell? ⟨B1, 3, none⟩ = some (.bool op) := (by rw [cell_of_row _ _ 3 _ 33 _ HX1'.out]; rfl)
        have HKD := Lib.hid (kid_any wi 8 na nn nc NS ka kn kc KS op s (HH.out wi HA.out.lk).names (HH.out wi HA.out.lk).kids HNB.out (by rw [HNN.out, HKN.out]; exact HNL.out) HRI.out)
        have HZJ := Lib.hid hz
        have HQQ := Lib.hid hq
        have hkr := HKR.out s
        obtain ⟨x, hx⟩ : ∃ x, findK NS KS s = x := ⟨_, rfl⟩
        rw [hx] at HKD hkr
        have HX := Lib.hid hx
        clear hs hq hcm hgm hz hx
        subst em
        by_cases hx0 : x < 0
        · have HBAD : Hid (F = none) := Lib.hid (HF1.out _ (List.mem_of_getElem? HZJ.out) (by simp only; rw [HX.out]; exact hx0))
          clear hkr
          go_wp2_with (go_at_call 109; (with_reducible refine HKD.out.mono ?_); rintro e w8 ⟨rfl, hb8⟩; have HB8 := Lib.hid hb8; clear hb8)
          go_ret
          exact ⟨by rw [HFE.out, HBAD.out]; rfl, _, HA.out.on HB8.out, (HKW.out.trans HKP.out).trans (Kp.of_below HB8.out), fun y hy => (by
            obtain ⟨e, he, rfl⟩ := List.mem_map.1 hy
            have h1 := HALL.out e he
            have h2 := HKR.out e.1
            have h3 := HQJ.out e.2 (by have h4 := List.mem_of_mem_take he; rw [← HZ.out] at h4; exact (List.of_mem_zip (a := e.1) (b := e.2) h4).2)
            exact ⟨by simp only; omega, by simp only; omega⟩), fun m e => (by rw [HFE.out, HBAD.out] at e; cases e)⟩
        · obtain ⟨xn, rfl⟩ : ∃ xn : Nat, x = (xn : Int) := ⟨x.toNat, by omega⟩
          have hxn : xn < NF := by omega
          have HALS : Hid (∀ e ∈ Z.take (j + 1), 0 ≤ findK NS KS e.1) := Lib.hid (fun e he => by
            rw [List.take_add_one, HZJ.out] at he
            rcases List.mem_append.1 he with h | h
            · exact HALL.out e h
            · simp at h; rw [h, HX.out]; omega)
          have HFT := Lib.hid (fold_take (fun e : ByteArray × Int => ((findK NS KS e.1).toNat, e.2.toNat, t)) HZJ.out SL)
          have HASK : Hid (∀ w', Below wi.heap.size wi w' → Calls Tryz.prog 81 #[.pointer (some ⟨R, 0, none⟩), .agg #[.int .i64 (xn : Int), .int .i64 (qn : Int), .bool t]] w' fun e w'' => e = .returned (.tuple #[]) ∧ AkTP akB w0 wl R M (.slice la NA lc) (.slice lb NB ld) w'' (askS (((Z.take j).map fun e => ((findK NS KS e.1).toNat, e.2.toNat, t)).foldl askS SL) (xn, qn, t)) w.heap.size #[.int .i64 (a : Int), .int .i64 (b : Int), .bool t] ∧ Kp 126 R w' w'') := Lib.hid (fun w' hb => askP_any w0 wl w' R M (.slice la NA lc) (.slice lb NB ld) _ xn qn t ⟨by simp only; omega, by simp only; omega⟩ w.heap.size #[.int .i64 (a : Int), .int .i64 (b : Int), .bool t] (HAP.out.on hb))
          have hx1 : ¬ (xn : Int) < 0 := by omega
          clear hkr hx0
          go_upto_region 19 with (go_at_call 109; (with_reducible refine HKD.out.mono ?_); rintro e w8 ⟨rfl, hb8⟩; have HB8 := Lib.hid hb8; clear hb8)
          clear c0 c1 c2 c3 cm
          have HX3 := Lib.hid ((HB8.out.block _ (Array.getElem?_eq_some_iff.1 HX2'.out).1).trans HX2'.out)
          have e2 : w8.cell? ⟨B1 + 1, 2, none⟩ = some (.slice ja jn jc) := (by rw [cell_of_row _ _ 2 _ 33 _ HX3.out]; rfl)
          have p2 : w8.cell? ⟨w.heap.size, 2, none⟩ = some (.bool t) := (by rw [cell_of_row _ _ 2 _ 126 _ (HAP.out.on HB8.out).blk]; rfl)
          obtain ⟨gj, oj, ej, hgj, hcj⟩ := ((HK.out w8 (HA.out.on HB8.out).lk).kids.2).resolve_left (by simp only; omega)
          simp only at ej
          have cj : w8.cell? ⟨gj, oj + j, none⟩ = some (.int .i64 (qn : Int)) := hcj j _ HQQ.out
          clear hcj hgj
          subst ej
          go_still_tail 10, (by kernel_rfl)
          go_wp2_with (go_at_call 81; (with_reducible refine (HASK.out _ (by exact HB8.out.drew)).mono ?_); rintro e w9 ⟨rfl, ha9, hk9⟩; have HA9 := Lib.hid ha9; have HK9 := Lib.hid ((Kp.of_below (Below.refl _ _).drew).trans hk9); clear ha9 hk9)
          go_roundw
          case rel => exact ⟨j + 1, by go_num, by omega, Lib.hid (by rw [HFT.out, HX.out]; exact HA9.out), Lib.hid ((HKP.out.trans (Kp.of_below HB8.out)).trans HK9.out), HALS⟩
          case measure => simp [intOf]; omega
      · have hjk2 : ¬ (j : Int) < mn := by omega
        obtain rfl : mn = j := by omega
        have HTK : Hid (Z.take mn = Z) := Lib.hid (List.take_of_length_le (by rw [HZL.out]; exact Nat.le_refl _))
        have HFF : Hid (F = some (Z.map fun e => ((findK NS KS e.1).toNat, e.2.toNat, t))) := Lib.hid (HF2.out (by have := HALL.out; rw [HTK.out] at this; exact this))
        go_wp2
        go_ret
        exact ⟨by rw [HFE.out, HFF.out]; rfl, _, (by have := HA.out; rw [HTK.out] at this; exact this), HKW.out.trans HKP.out, fun y hy => (by
          obtain ⟨e, he, rfl⟩ := List.mem_map.1 hy
          have h1 := HALL.out e (by rw [HTK.out]; exact he)
          have h2 := HKR.out e.1
          have h3 := HQJ.out e.2 (by rw [← HZ.out] at he; exact (List.of_mem_zip (a := e.1) (b := e.2) he).2)
          exact ⟨by simp only; omega, by simp only; omega⟩), fun m e => (by rw [HFE.out, HFF.out] at e; cases e; exact ⟨fun _ h => h, fun _ h => h⟩)⟩
  by_cases h9 : hd = 9
  · have e9 : ed = 9 := by omega
    clear h6 h5 h7 h8 hne
    subst h9 e9
    have HAS : Hid (askB (rowB A B (!t)) ⟨9, na, nn, nc, NS, ka, kn, kc, KS, op⟩ ⟨9, ma, mn, mc, MS, ja, jn, jc, JS, oq⟩ t = varB (rowB A B (!t)) ⟨9, na, nn, nc, NS, ka, kn, kc, KS, op⟩ ⟨9, ma, mn, mc, MS, ja, jn, jc, JS, oq⟩ t) := Lib.hid (by unfold askB; simp)
    have HVV : Hid (∀ w', AkT akB w0 wl R M (.slice la NA lc) (.slice lb NB ld) w' SL → Calls Tryz.prog 108 #[.pointer (some ⟨R, 0, none⟩), .agg #[.int .i64 (a : Int), .int .i64 (b : Int), .bool t], .agg #[.int .i64 9, .slice na nn nc, .slice ka kn kc, .bool op], .agg #[.int .i64 9, .slice ma mn mc, .slice ja jn jc, .bool oq]] w' (StpPost akB w0 wl R M (.slice la NA lc) (.slice lb NB ld) SL w' (varB (rowB A B (!t)) ⟨9, na, nn, nc, NS, ka, kn, kc, KS, op⟩ ⟨9, ma, mn, mc, MS, ja, jn, jc, JS, oq⟩ t))) := Lib.hid (fun w' ha => by
      by_cases hbad : op = true ∧ oq = false
      · exact varB_bad w0 wl w' R M la NA lc A lb NB ld B HLL.out SL ha a b t NF NK hNF hNK HNKE.out 9 na nn nc NS ka kn kc KS op HH.out HQ1.out 9 ma mn mc MS ja jn jc JS oq HK.out HQ2.out hbad.1 hbad.2
      · exact varB_good w0 wl w' R M la NA lc A lb NB ld B HLL.out SL ha a b t NF NK hNF hNK HNKE.out 9 na nn nc NS ka kn kc KS op HH.out HQ1.out 9 ma mn mc MS ja jn jc JS oq HK.out HQ2.out rfl rfl (fun h => by cases oq with | true => rfl | false => exact absurd ⟨h, rfl⟩ hbad))
    have HC1 := Lib.hid (HVV.out wa HTA.out)
    go_wp2_with (go_at_call 108; (with_reducible refine HC1.out.mono ?_); rintro e w5 ⟨rfl, hq5⟩; have HQ5 := Lib.hid hq5; clear hq5)
    go_ret
    obtain ⟨qs, r1, r2, r3, r4⟩ := HQ5.out
    rw [HAS.out]
    exact ⟨rfl, qs, r1, HKW.out.trans r2, r3, r4⟩
  have h4 : hd ≤ 4 := by have h1 := HR1.out; simp only at h1; omega
  clear h5 h6 h7 h8 h9
  subst hne
  have n5 : (ed == 5) = false := by simp; omega
  have m5 : (ed != 5) = true := by simp; omega
  have n6 : (ed == 6) = false := by simp; omega
  have m6 : (ed != 6) = true := by simp; omega
  have n7 : (ed == 7) = false := by simp; omega
  have m7 : (ed != 7) = true := by simp; omega
  have n8 : (ed == 8) = false := by simp; omega
  have m8 : (ed != 8) = true := by simp; omega
  have n9 : (ed == 9) = false := by simp; omega
  have m9 : (ed != 9) = true := by simp; omega
  have HAS : Hid (askB (rowB A B (!t)) ⟨ed, na, nn, nc, NS, ka, kn, kc, KS, op⟩ ⟨ed, ma, mn, mc, MS, ja, jn, jc, JS, oq⟩ t = some []) := Lib.hid (by unfold askB; rw [if_neg (by simp only; omega), if_neg (fun h => h rfl), if_neg (by simp only; omega), if_neg (by simp only; omega), if_neg (by simp only; omega)])
  clear h4
  go_wp2
  go_ret
  exact ⟨by rw [HAS.out]; rfl, [], HTA.out, HKW.out, fun q h => (by cases h), fun m e => (by rw [HAS.out] at e; cases e; exact ⟨fun _ h => h, fun _ h => h⟩)⟩
theorem stepB_any (w0 wl w : World) (R M : Nat) (la : Option Addr) (NA lc : Nat) (A : List Hd) (lb : Option Addr) (NB ld : Nat) (B : List Hd) (HL : ∀ w', Lk wl R M w' → HeadsIn w' la NA A ∧ HeadsIn w' lb NB B) (SL : List PrB × List PrB) (hT : AkT akB w0 wl R M (.slice la NA lc) (.slice lb NB ld) w SL) (hokA : OkHeads A) (hokB : OkHeads B) (hNA : A.length ≤ 150) (hNB : B.length ≤ 150) (a b : Nat) (t : Bool) (ha : a < (rowB A B t).length) (hb : b < (rowB A B (!t)).length) :
    Calls Tryz.prog 82 #[.pointer (some ⟨R, 0, none⟩), .agg #[.int .i64 (a : Int), .int .i64 (b : Int), .bool t]] w (StpPost akB w0 wl R M (.slice la NA lc) (.slice lb NB ld) SL w (stpB A B (a, b, t))) := by
  obtain ⟨h, hi⟩ : ∃ h, (rowB A B t)[a]? = some h := ⟨_, List.getElem?_eq_getElem ha⟩
  obtain ⟨k, hj⟩ : ∃ k, (rowB A B (!t))[b]? = some k := ⟨_, List.getElem?_eq_getElem hb⟩
  obtain ⟨hd, na, nn, nc, NS, ka, kn, kc, KS, op⟩ := h
  obtain ⟨ed, ma, mn, mc, MS, ja, jn, jc, JS, oq⟩ := k
  exact stepB_at w0 wl w R M la NA lc A lb NB ld B HL SL hT hokA hokB hNA hNB a b t hd na nn nc NS ka kn kc KS op hi ed ma mn mc MS ja jn jc JS oq hj
end Go.Proofs.YtifilhkkgkihpaaGreatDoor
