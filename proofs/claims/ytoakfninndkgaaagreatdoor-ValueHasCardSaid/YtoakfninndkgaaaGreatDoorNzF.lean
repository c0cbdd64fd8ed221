/- Walks: ref09.may: records, variants; all. -/
import Derived.Test.YtoakfninndkgaaaGreatDoorNzE
set_option linter.unusedVariables false
namespace Go.Proofs.YtoakfninndkgaaaGreatDoor
open Go.RowKit
set_option maxRecDepth 20000 in
set_option maxHeartbeats 4000000 in
theorem may_rec (w : World) (la lb : Option Addr) (ln lc lm ld : Nat) (A B : List Hd) (hA : HeadsIn w la ln A) (hB : HeadsIn w lb lm B) (hln : (ln : Int) ≤ 100000) (hlm : (lm : Int) ≤ 100000) (Gu cu Gd cd : Nat) (Ru Cu Rd Cd : Nat → Nat) (U D : Nat → Nat → Bool) (hU : TabR w Gu ln lm Ru Cu U) (hD : TabR w Gd lm ln Rd Cd D) (i j : Nat) (hd : Int) (na : Option Addr) (nn nc : Nat) (NS : List ByteArray) (ka : Option Addr) (kn kc : Nat) (KS : List Int) (op : Bool) (hi : A[i]? = some ⟨hd, na, nn, nc, NS, ka, kn, kc, KS, op⟩) (ed : Int) (ma : Option Addr) (mn mc : Nat) (MS : List ByteArray) (ja : Option Addr) (jn jc : Nat) (JS : List Int) (eq : Bool) (hj : B[j]? = some ⟨ed, ma, mn, mc, MS, ja, jn, jc, JS, eq⟩) (okA : OkHeads A) (okB : OkHeads B) (h8 : hd = 8) (e8 : ed = 8) :
    Calls Tryz.prog 63 #[.slice la ln lc, .slice lb lm ld, .slice (some ⟨Gu, 0, none⟩) ln cu, .slice (some ⟨Gd, 0, none⟩) lm cd, .int .i64 (i : Int), .int .i64 (j : Int)] w (BoolPost w ((List.range MS.length).all (recB NS KS MS JS U))) := by
  subst h8 e8
  have q1 := head_kind (okA _ (List.mem_of_getElem? hi))
  have q2 := head_kind (okB _ (List.mem_of_getElem? hj))
  have n1 := (hA.ok hi).names.1
  have n2 := (hA.ok hi).kids.1
  have n3 := (hB.ok hj).names.1
  have n4 := (hB.ok hj).kids.1
  have nb1 := (hA.ok hi).nnb
  have nb2 := (hB.ok hj).nnb
  simp only at q1 q2 n1 n2 n3 n4 nb1 nb2
  have la1 := hA.1
  have lb1 := hB.1
  have HLN : Hid (nn = kn) := Lib.hid (by rw [n1, n2]; exact q1.2.2.2.1 (by first | exact Or.inl rfl | trivial | simp))
  have HLM : Hid (mn = jn) := Lib.hid (by rw [n3, n4]; exact q2.2.2.2.1 (by first | exact Or.inl rfl | trivial | simp))
  have HXI : Hid (∀ s, 0 ≤ findK NS KS s → ∃ p : Nat, findK NS KS s = (p : Int) ∧ p < ln) := Lib.hid (fun s h => by
    rcases findK_cases NS KS s (q1.2.2.2.1 (by first | exact Or.inl rfl | trivial | simp)) with ⟨h1, _⟩ | ⟨p, k, _, h2, h3, _⟩
    · omega
    · have h4 := q1.2.2.1 k (List.mem_of_getElem? h2)
      exact ⟨k.toNat, by omega, by omega⟩)
  have HYI : Hid (∀ (n : Nat) k, JS[n]? = some k → ∃ p : Nat, k = (p : Int) ∧ p < lm) := Lib.hid (fun n k h => by
    have h4 := q2.2.2.1 k (List.mem_of_getElem? h)
    exact ⟨k.toNat, by omega, by omega⟩)
  have HNB := Lib.hid nb1
  have hmb : (mn : Int) ≤ 100000 := by omega
  have HNL := Lib.hid n3
  have HKL := Lib.hid n4
  obtain ⟨RR, hRR⟩ : ∃ b, ((List.range MS.length).all (recB NS KS MS JS U)) = b := ⟨_, rfl⟩
  rw [hRR]
  have HRR := Lib.hid hRR
  clear q1 q2 n1 n2 n3 n4 nb1 nb2 la1 lb1 okA okB hRR
  have HAA := Lib.hid hA
  have HBB := Lib.hid hB
  have hil : i < ln := by rw [hA.1]; exact (List.getElem?_eq_some_iff.1 hi).1
  have hil2 : (i : Int) < ln := by omega
  have hjl : j < lm := by rw [hB.1]; exact (List.getElem?_eq_some_iff.1 hj).1
  have hjl2 : (j : Int) < lm := by omega
  have HUU := Lib.hid hU
  have HDD := Lib.hid hD
  obtain ⟨ga, oa, rfl, hga, hca⟩ := hA.2.resolve_left (by omega)
  obtain ⟨gb, ob, rfl, hgb, hcb⟩ := hB.2.resolve_left (by omega)
  have r1 := hca i _ hi
  have r2 := hcb j _ hj
  have HO1 := Lib.hid r1.ok
  have HO2 := Lib.hid r2.ok
  have h0 : w.cell? ⟨ga, oa + i * 4, none⟩ = some (.int .i64 8) := r1.c0
  have h1 : w.cell? ⟨ga, oa + i * 4 + 1, none⟩ = some (.slice na nn nc) := r1.c1
  have h2 : w.cell? ⟨ga, oa + i * 4 + 2, none⟩ = some (.slice ka kn kc) := r1.c2
  have h3 : w.cell? ⟨ga, oa + i * 4 + 3, none⟩ = some (.bool op) := r1.c3
  have k0 : w.cell? ⟨gb, ob + j * 4, none⟩ = some (.int .i64 8) := r2.c0
  have k1 : w.cell? ⟨gb, ob + j * 4 + 1, none⟩ = some (.slice ma mn mc) := r2.c1
  have k2 : w.cell? ⟨gb, ob + j * 4 + 2, none⟩ = some (.slice ja jn jc) := r2.c2
  have k3 : w.cell? ⟨gb, ob + j * 4 + 3, none⟩ = some (.bool eq) := r2.c3
  have HLA := Lib.hid hA.1
  have HLB := Lib.hid hB.1
  have HII := Lib.hid hi
  have HJJ := Lib.hid hj
  have HW1 : Hid (∀ a b, (w.alloc (.cells a 38)).heap[w.heap.size]? = some (.cells a 38 (0, 0)) ∧ ((w.alloc (.cells a 38)).alloc (.cells b 38)).heap[w.heap.size]? = some (.cells a 38 (0, 0)) ∧ ((w.alloc (.cells a 38)).alloc (.cells b 38)).heap[w.heap.size + 1]? = some (.cells b 38 (0, 0)) ∧ Below w.heap.size w ((w.alloc (.cells a 38)).alloc (.cells b 38))) := Lib.hid (fun a b => ⟨heap_alloc_new w _, by rw [Below.heap_alloc _ _ _ (by simp)]; exact heap_alloc_new w _, by have := heap_alloc_new (w.alloc (.cells a 38)) (.cells b 38); simpa using this, ((Below.refl _ _).alloc (Nat.le_refl _) _).alloc (by simp) _⟩)
  clear hA hB hU hD hca hcb r1 r2 hi hj
  go_enter Tryz.func63, Tryz.ntmps63
  go_upto_region 1 with (fail)
  go_cut [13, 14] from 23 (fun s13 s14 wc => ∃ B1 B2 : Nat, s13 = .pointer (some ⟨B1, 0, none⟩) ∧ s14 = .pointer (some ⟨B2, 0, none⟩) ∧ Hid (wc.heap[B1]? = some (.cells #[.int .i64 8, .slice na nn nc, .slice ka kn kc, .bool op] 38 (0, 0))) ∧ Hid (wc.heap[B2]? = some (.cells #[.int .i64 8, .slice ma mn mc, .slice ja jn jc, .bool eq] 38 (0, 0))) ∧ Hid (Below w.heap.size w wc))
  case first =>
    go_region
    all_goals
      go_wp2
      go_meet
      case rel => first | exact ⟨w.heap.size, w.heap.size + 1, rfl, rfl, Lib.hid (HW1.out _ _).2.1, Lib.hid (HW1.out _ _).2.2.1, Lib.hid (HW1.out _ _).2.2.2.drew⟩ | exact ⟨w.heap.size + 1, w.heap.size, rfl, rfl, Lib.hid (HW1.out _ _).2.2.1, Lib.hid (HW1.out _ _).2.1, Lib.hid (HW1.out _ _).2.2.2.drew⟩
  obtain ⟨B1, B2, rfl, rfl, HY1, HY2, HBZ⟩ := hcut
  clear h0 h1 h2 h3 k0 k1 k2 k3 hga hgb
  have b0 : wc.cell? ⟨B1, 0, none⟩ = some (.int .i64 8) := (by rw [cell_of_row _ _ 0 _ 38 _ HY1.out]; rfl)
  have b1 : wc.cell? ⟨B1, 1, none⟩ = some (.slice na nn nc) := (by rw [cell_of_row _ _ 1 _ 38 _ HY1.out]; rfl)
  have b2 : wc.cell? ⟨B1, 2, none⟩ = some (.slice ka kn kc) := (by rw [cell_of_row _ _ 2 _ 38 _ HY1.out]; rfl)
  have b3 : wc.cell? ⟨B1, 3, none⟩ = some (.bool op) := (by rw [cell_of_row _ _ 3 _ 38 _ HY1.out]; rfl)
  have d0 : wc.cell? ⟨B2, 0, none⟩ = some (.int .i64 8) := (by rw [cell_of_row _ _ 0 _ 38 _ HY2.out]; rfl)
  have d1 : wc.cell? ⟨B2, 1, none⟩ = some (.slice ma mn mc) := (by rw [cell_of_row _ _ 1 _ 38 _ HY2.out]; rfl)
  have d2 : wc.cell? ⟨B2, 2, none⟩ = some (.slice ja jn jc) := (by rw [cell_of_row _ _ 2 _ 38 _ HY2.out]; rfl)
  have d3 : wc.cell? ⟨B2, 3, none⟩ = some (.bool eq) := (by rw [cell_of_row _ _ 3 _ 38 _ HY2.out]; rfl)
  have HL1 : Hid (B1 < wc.heap.size) := Lib.hid (Array.getElem?_eq_some_iff.1 HY1.out).1
  have HL2 : Hid (B2 < wc.heap.size) := Lib.hid (Array.getElem?_eq_some_iff.1 HY2.out).1
  have HNM := Lib.hid (HO2.out.on HBZ.out).names
  have HKD := Lib.hid (HO2.out.on HBZ.out).kids
  go_wp2
  clear b0 b1 b2 b3 d0 d1 d2 d3
  go_loopw [81] (fun s81 wr => ∃ n : Nat, s81 = .int .i64 (n : Int) ∧ n ≤ mn ∧ Hid (Below wc.heap.size wc wr) ∧ Hid (∀ q, q < n → recB NS KS MS JS U q = true)) (fun s81 _ => mn - (intOf s81).toNat)
  case atStart => exact ⟨0, rfl, Nat.zero_le _, Lib.hid (Below.refl _ _), Lib.hid (fun q hq => by omega)⟩
  case round =>
    obtain ⟨n, rfl, hn, HBR, HAL⟩ := hrel
    have hwn : IntKind.i64.wrap ((n : Int) + 1) = (n : Int) + 1 := by rw [IntKind.wrap_i64]; omega
    have HY1R := Lib.hid ((HBR.out.block _ HL1.out).trans HY1.out)
    have HY2R := Lib.hid ((HBR.out.block _ HL2.out).trans HY2.out)
    have HBW : Hid (Below w.heap.size w wr) := Lib.hid (HBZ.out.trans (HBR.out.mono HBZ.out.size))
    have b0 : wr.cell? ⟨B1, 0, none⟩ = some (.int .i64 8) := (by rw [cell_of_row _ _ 0 _ 38 _ HY1R.out]; rfl)
    have b1 : wr.cell? ⟨B1, 1, none⟩ = some (.slice na nn nc) := (by rw [cell_of_row _ _ 1 _ 38 _ HY1R.out]; rfl)
    have b2 : wr.cell? ⟨B1, 2, none⟩ = some (.slice ka kn kc) := (by rw [cell_of_row _ _ 2 _ 38 _ HY1R.out]; rfl)
    have b3 : wr.cell? ⟨B1, 3, none⟩ = some (.bool op) := (by rw [cell_of_row _ _ 3 _ 38 _ HY1R.out]; rfl)
    have d0 : wr.cell? ⟨B2, 0, none⟩ = some (.int .i64 8) := (by rw [cell_of_row _ _ 0 _ 38 _ HY2R.out]; rfl)
    have d1 : wr.cell? ⟨B2, 1, none⟩ = some (.slice ma mn mc) := (by rw [cell_of_row _ _ 1 _ 38 _ HY2R.out]; rfl)
    have d2 : wr.cell? ⟨B2, 2, none⟩ = some (.slice ja jn jc) := (by rw [cell_of_row _ _ 2 _ 38 _ HY2R.out]; rfl)
    have d3 : wr.cell? ⟨B2, 3, none⟩ = some (.bool eq) := (by rw [cell_of_row _ _ 3 _ 38 _ HY2R.out]; rfl)
    by_cases hnm : n < mn
    · have hnm2 : (n : Int) < mn := by omega
      have hnm3 : (n : Int) < jn := by have := HLM.out; omega
      obtain ⟨s, hs⟩ : ∃ s, MS[n]? = some s := ⟨_, List.getElem?_eq_getElem (by rw [← HNL.out]; exact hnm)⟩
      obtain ⟨y, hy⟩ : ∃ y, JS[n]? = some y := ⟨_, List.getElem?_eq_getElem (by rw [← HKL.out, ← HLM.out]; exact hnm)⟩
      obtain ⟨gn, on, en, hgn, hcn⟩ := HNM.out.2.resolve_left (by (try simp only); omega)
      obtain ⟨gk, ok, ek, hgk, hck⟩ := HKD.out.2.resolve_left (by have := HLM.out; (try simp only); omega)
      (try simp only at en ek)
      obtain ⟨qy, rfl, hqy⟩ := HYI.out n y hy
      have cs : wr.cell? ⟨gn, on + n, none⟩ = some (.string s) := keepB HBR.out hgn (hcn n s hs)
      have ck : wr.cell? ⟨gk, ok + n, none⟩ = some (.int .i64 (qy : Int)) := keepB HBR.out hgk (hck n _ hy)
      have HCK := Lib.hid ck
      have HGK : Hid (gk < wr.heap.size) := Lib.hid (Nat.lt_of_lt_of_le hgk HBR.out.size)
      have hqy2 : (qy : Int) < lm := by omega
      have HRB : Hid (recB NS KS MS JS U n = (decide (0 ≤ findK NS KS s) && U (findK NS KS s).toNat qy)) := Lib.hid (by
        unfold recB
        rw [hs, List.getD_eq_getElem?_getD, hy]
        rfl)
      have HFI := Lib.hid (rfind_any wr 8 na nn nc NS ka kn kc KS op s (HO1.out.on HBW.out).names (HO1.out.on HBW.out).kids HNB.out HLN.out)
      clear hs hy hcn hck hgn hgk ck
      subst en ek
      have HXX : Hid (∃ x, findK NS KS s = x) := Lib.hid ⟨_, rfl⟩
      obtain ⟨x, hx⟩ := HXX.out
      have HXS := Lib.hid (HXI.out s)
      rw [hx] at HFI HRB HXS
      clear hx
      by_cases hx0 : x < 0
      · have HBAD : Hid (RR = false) := Lib.hid (by
          rw [← HRR.out]
          exact List.all_eq_false.2 ⟨n, List.mem_range.2 (by rw [← HNL.out]; exact hnm), by rw [HRB.out, show decide (0 ≤ x) = false from by simp; omega]; simp⟩)
        go_wp2_with (go_at_call 75; (with_reducible refine HFI.out.mono ?_); rintro e w5 ⟨rfl, hb5⟩; have HB5 := Lib.hid (HBW.out.trans (hb5.mono HBW.out.size)); clear hb5)
        go_quiet (fail)
        go_wp2
        go_ret
        exact ⟨by rw [HBAD.out]; rfl, below_drewN HB5.out⟩
      · obtain ⟨p, rfl, hp⟩ := HXS.out (by omega)
        have hp2 : (p : Int) < ln := by omega
        have HRB2 : Hid (recB NS KS MS JS U n = U p qy) := Lib.hid (by rw [HRB.out]; simp)
        have HUB : Hid (∃ b, U p qy = b) := Lib.hid ⟨_, rfl⟩
        obtain ⟨b, hb⟩ := HUB.out
        have HUE := Lib.hid hb
        clear hb HXS HRB
        go_upto_region 14 with (go_at_call 75; (with_reducible refine HFI.out.mono ?_); rintro e w5 ⟨rfl, hb5⟩; have HB5 := Lib.hid hb5; have HBW5 := Lib.hid (HBW.out.trans (hb5.mono HBW.out.size)); have HBC5 := Lib.hid (HBR.out.trans (hb5.mono HBR.out.size)); clear hb5)
        have hUw := HUU.out.on HBW5.out
        have t1 := hUw.row p hp
        have t2 := hUw.cell p qy hp hqy
        rw [HUE.out] at t2
        have ck5 : w5.cell? ⟨gk, ok + n, none⟩ = some (.int .i64 (qy : Int)) := keepB HB5.out HGK.out HCK.out
        have HY25 := Lib.hid ((HBC5.out.block _ HL2.out).trans HY2.out)
        have f2 : w5.cell? ⟨B2, 2, none⟩ = some (.slice (some ⟨gk, ok, none⟩) jn jc) := (by rw [cell_of_row _ _ 2 _ 38 _ HY25.out]; rfl)
        clear hUw
        cases b with
        | true =>
          go_quiet (fail)
          go_wp2
          go_roundw
          case rel => exact ⟨n + 1, by go_num, by omega, Lib.hid (below_drewN HBC5.out), Lib.hid (fun q hq => by
            by_cases he : q = n
            · subst he
              rw [HRB2.out, HUE.out]
            · exact HAL.out q (by omega))⟩
          case measure => simp [intOf]; omega
        | false =>
          have HBAD : Hid (RR = false) := Lib.hid (by
            rw [← HRR.out]
            exact List.all_eq_false.2 ⟨n, List.mem_range.2 (by rw [← HNL.out]; exact hnm), by rw [HRB2.out, HUE.out]; simp⟩)
          go_quiet (fail)
          go_wp2
          go_ret
          exact ⟨by rw [HBAD.out]; rfl, below_drewN HBW5.out⟩
    · have hnm2 : ¬ (n : Int) < mn := by omega
      have HALL : Hid (RR = true) := Lib.hid (by
        rw [← HRR.out]
        exact List.all_eq_true.2 (fun q hq => HAL.out q (by have := List.mem_range.1 hq; rw [← HNL.out] at this; omega)))
      go_wp2
      go_ret
      exact ⟨by rw [HALL.out]; rfl, HBW.out⟩
set_option maxRecDepth 20000 in
set_option maxHeartbeats 4000000 in
theorem may_var (w : World) (la lb : Option Addr) (ln lc lm ld : Nat) (A B : List Hd) (hA : HeadsIn w la ln A) (hB : HeadsIn w lb lm B) (hln : (ln : Int) ≤ 100000) (hlm : (lm : Int) ≤ 100000) (Gu cu Gd cd : Nat) (Ru Cu Rd Cd : Nat → Nat) (U D : Nat → Nat → Bool) (hU : TabR w Gu ln lm Ru Cu U) (hD : TabR w Gd lm ln Rd Cd D) (i j : Nat) (hd : Int) (na : Option Addr) (nn nc : Nat) (NS : List ByteArray) (ka : Option Addr) (kn kc : Nat) (KS : List Int) (op : Bool) (hi : A[i]? = some ⟨hd, na, nn, nc, NS, ka, kn, kc, KS, op⟩) (ed : Int) (ma : Option Addr) (mn mc : Nat) (MS : List ByteArray) (ja : Option Addr) (jn jc : Nat) (JS : List Int) (eq : Bool) (hj : B[j]? = some ⟨ed, ma, mn, mc, MS, ja, jn, jc, JS, eq⟩) (okA : OkHeads A) (okB : OkHeads B) (h9 : hd = 9) (e9 : ed = 9) :
    Calls Tryz.prog 63 #[.slice la ln lc, .slice lb lm ld, .slice (some ⟨Gu, 0, none⟩) ln cu, .slice (some ⟨Gd, 0, none⟩) lm cd, .int .i64 (i : Int), .int .i64 (j : Int)] w (BoolPost w (!(op && !eq) && (List.range NS.length).all (var1B NS KS MS JS eq U) && (List.range MS.length).all (var2B NS KS op MS JS B))) := by
  subst h9 e9
  have q1 := head_kind (okA _ (List.mem_of_getElem? hi))
  have q2 := head_kind (okB _ (List.mem_of_getElem? hj))
  have n1 := (hA.ok hi).names.1
  have n2 := (hA.ok hi).kids.1
  have n3 := (hB.ok hj).names.1
  have n4 := (hB.ok hj).kids.1
  have nb1 := (hA.ok hi).nnb
  have nb2 := (hB.ok hj).nnb
  simp only at q1 q2 n1 n2 n3 n4 nb1 nb2
  have la1 := hA.1
  have lb1 := hB.1
  have HLN : Hid (nn = kn) := Lib.hid (by rw [n1, n2]; exact q1.2.2.2.1 (by first | exact Or.inr rfl | trivial | simp))
  have HLM : Hid (mn = jn) := Lib.hid (by rw [n3, n4]; exact q2.2.2.2.1 (by first | exact Or.inr rfl | trivial | simp))
  have HYI : Hid (∀ s, 0 ≤ findK MS JS s → ∃ p : Nat, findK MS JS s = (p : Int) ∧ p < lm) := Lib.hid (fun s h => by
    rcases findK_cases MS JS s (q2.2.2.2.1 (by first | exact Or.inr rfl | trivial | simp)) with ⟨h1, _⟩ | ⟨p, k, _, h2, h3, _⟩
    · omega
    · have h4 := q2.2.2.1 k (List.mem_of_getElem? h2)
      exact ⟨k.toNat, by omega, by omega⟩)
  have HXI : Hid (∀ (n : Nat) k, KS[n]? = some k → ∃ p : Nat, k = (p : Int) ∧ p < ln) := Lib.hid (fun n k h => by
    have h4 := q1.2.2.1 k (List.mem_of_getElem? h)
    exact ⟨k.toNat, by omega, by omega⟩)
  have HJI : Hid (∀ (n : Nat) k, JS[n]? = some k → ∃ p : Nat, k = (p : Int) ∧ p < lm) := Lib.hid (fun n k h => by
    have h4 := q2.2.2.1 k (List.mem_of_getElem? h)
    exact ⟨k.toNat, by omega, by omega⟩)
  have HNB := Lib.hid nb1
  have HMB := Lib.hid nb2
  have hmb : (mn : Int) ≤ 100000 := by omega
  have hnb : (nn : Int) ≤ 100000 := by omega
  have HNL := Lib.hid n1
  have HKL := Lib.hid n2
  have HML := Lib.hid n3
  have HJL := Lib.hid n4
  obtain ⟨RR, hRR⟩ : ∃ b, (!(op && !eq) && (List.range NS.length).all (var1B NS KS MS JS eq U) && (List.range MS.length).all (var2B NS KS op MS JS B)) = b := ⟨_, rfl⟩
  rw [hRR]
  have HR0 : Hid ((op && !eq) = true → RR = false) := Lib.hid (fun h => by rw [← hRR, h]; rfl)
  have HR1 : Hid (∀ n, n < nn → var1B NS KS MS JS eq U n = false → RR = false) := Lib.hid (fun n hn h => by
    rw [← hRR, show (List.range NS.length).all (var1B NS KS MS JS eq U) = false from List.all_eq_false.2 ⟨n, List.mem_range.2 (by rw [← HNL.out]; exact hn), by rw [h]; simp⟩]
    simp)
  have HR2 : Hid (∀ n, n < mn → var2B NS KS op MS JS B n = false → RR = false) := Lib.hid (fun n hn h => by
    rw [← hRR, show (List.range MS.length).all (var2B NS KS op MS JS B) = false from List.all_eq_false.2 ⟨n, List.mem_range.2 (by rw [← HML.out]; exact hn), by rw [h]; simp⟩]
    simp)
  have HRT : Hid ((op && !eq) = false → (∀ n, n < nn → var1B NS KS MS JS eq U n = true) → (∀ n, n < mn → var2B NS KS op MS JS B n = true) → RR = true) := Lib.hid (fun h a b => by
    rw [← hRR, h, show (List.range NS.length).all (var1B NS KS MS JS eq U) = true from List.all_eq_true.2 (fun n hn => a n (by have := List.mem_range.1 hn; rw [← HNL.out] at this; exact this)), show (List.range MS.length).all (var2B NS KS op MS JS B) = true from List.all_eq_true.2 (fun n hn => b n (by have := List.mem_range.1 hn; rw [← HML.out] at this; exact this))]
    rfl)
  clear q1 q2 n1 n2 n3 n4 nb1 nb2 la1 lb1 okA okB hRR
  have HAA := Lib.hid hA
  have HBB := Lib.hid hB
  have hil : i < ln := by rw [hA.1]; exact (List.getElem?_eq_some_iff.1 hi).1
  have hil2 : (i : Int) < ln := by omega
  have hjl : j < lm := by rw [hB.1]; exact (List.getElem?_eq_some_iff.1 hj).1
  have hjl2 : (j : Int) < lm := by omega
  have HUU := Lib.hid hU
  have HDD := Lib.hid hD
  obtain ⟨ga, oa, rfl, hga, hca⟩ := hA.2.resolve_left (by omega)
  obtain ⟨gb, ob, rfl, hgb, hcb⟩ := hB.2.resolve_left (by omega)
  have r1 := hca i _ hi
  have r2 := hcb j _ hj
  have HO1 := Lib.hid r1.ok
  have HO2 := Lib.hid r2.ok
  have h0 : w.cell? ⟨ga, oa + i * 4, none⟩ = some (.int .i64 9) := r1.c0
  have h1 : w.cell? ⟨ga, oa + i * 4 + 1, none⟩ = some (.slice na nn nc) := r1.c1
  have h2 : w.cell? ⟨ga, oa + i * 4 + 2, none⟩ = some (.slice ka kn kc) := r1.c2
  have h3 : w.cell? ⟨ga, oa + i * 4 + 3, none⟩ = some (.bool op) := r1.c3
  have k0 : w.cell? ⟨gb, ob + j * 4, none⟩ = some (.int .i64 9) := r2.c0
  have k1 : w.cell? ⟨gb, ob + j * 4 + 1, none⟩ = some (.slice ma mn mc) := r2.c1
  have k2 : w.cell? ⟨gb, ob + j * 4 + 2, none⟩ = some (.slice ja jn jc) := r2.c2
  have k3 : w.cell? ⟨gb, ob + j * 4 + 3, none⟩ = some (.bool eq) := r2.c3
  have HLA := Lib.hid hA.1
  have HLB := Lib.hid hB.1
  have HII := Lib.hid hi
  have HJJ := Lib.hid hj
  have HW1 : Hid (∀ a b, (w.alloc (.cells a 38)).heap[w.heap.size]? = some (.cells a 38 (0, 0)) ∧ ((w.alloc (.cells a 38)).alloc (.cells b 38)).heap[w.heap.size]? = some (.cells a 38 (0, 0)) ∧ ((w.alloc (.cells a 38)).alloc (.cells b 38)).heap[w.heap.size + 1]? = some (.cells b 38 (0, 0)) ∧ Below w.heap.size w ((w.alloc (.cells a 38)).alloc (.cells b 38))) := Lib.hid (fun a b => ⟨heap_alloc_new w _, by rw [Below.heap_alloc _ _ _ (by simp)]; exact heap_alloc_new w _, by have := heap_alloc_new (w.alloc (.cells a 38)) (.cells b 38); simpa using this, ((Below.refl _ _).alloc (Nat.le_refl _) _).alloc (by simp) _⟩)
  clear hA hB hU hD hca hcb r1 r2 hi hj
  go_enter Tryz.func63, Tryz.ntmps63
  go_upto_region 1 with (fail)
  go_cut [13, 14] from 23 (fun s13 s14 wc => ∃ B1 B2 : Nat, s13 = .pointer (some ⟨B1, 0, none⟩) ∧ s14 = .pointer (some ⟨B2, 0, none⟩) ∧ Hid (wc.heap[B1]? = some (.cells #[.int .i64 9, .slice na nn nc, .slice ka kn kc, .bool op] 38 (0, 0))) ∧ Hid (wc.heap[B2]? = some (.cells #[.int .i64 9, .slice ma mn mc, .slice ja jn jc, .bool eq] 38 (0, 0))) ∧ Hid (Below w.heap.size w wc))
  case first =>
    go_region
    all_goals
      go_wp2
      go_meet
      case rel => first | exact ⟨w.heap.size, w.heap.size + 1, rfl, rfl, Lib.hid (HW1.out _ _).2.1, Lib.hid (HW1.out _ _).2.2.1, Lib.hid (HW1.out _ _).2.2.2.drew⟩ | exact ⟨w.heap.size + 1, w.heap.size, rfl, rfl, Lib.hid (HW1.out _ _).2.2.1, Lib.hid (HW1.out _ _).2.1, Lib.hid (HW1.out _ _).2.2.2.drew⟩
  obtain ⟨B1, B2, rfl, rfl, HY1, HY2, HBZ⟩ := hcut
  clear h0 h1 h2 h3 k0 k1 k2 k3 hga hgb
  have b0 : wc.cell? ⟨B1, 0, none⟩ = some (.int .i64 9) := (by rw [cell_of_row _ _ 0 _ 38 _ HY1.out]; rfl)
  have b1 : wc.cell? ⟨B1, 1, none⟩ = some (.slice na nn nc) := (by rw [cell_of_row _ _ 1 _ 38 _ HY1.out]; rfl)
  have b2 : wc.cell? ⟨B1, 2, none⟩ = some (.slice ka kn kc) := (by rw [cell_of_row _ _ 2 _ 38 _ HY1.out]; rfl)
  have b3 : wc.cell? ⟨B1, 3, none⟩ = some (.bool op) := (by rw [cell_of_row _ _ 3 _ 38 _ HY1.out]; rfl)
  have d0 : wc.cell? ⟨B2, 0, none⟩ = some (.int .i64 9) := (by rw [cell_of_row _ _ 0 _ 38 _ HY2.out]; rfl)
  have d1 : wc.cell? ⟨B2, 1, none⟩ = some (.slice ma mn mc) := (by rw [cell_of_row _ _ 1 _ 38 _ HY2.out]; rfl)
  have d2 : wc.cell? ⟨B2, 2, none⟩ = some (.slice ja jn jc) := (by rw [cell_of_row _ _ 2 _ 38 _ HY2.out]; rfl)
  have d3 : wc.cell? ⟨B2, 3, none⟩ = some (.bool eq) := (by rw [cell_of_row _ _ 3 _ 38 _ HY2.out]; rfl)
  have HL1 : Hid (B1 < wc.heap.size) := Lib.hid (Array.getElem?_eq_some_iff.1 HY1.out).1
  have HL2 : Hid (B2 < wc.heap.size) := Lib.hid (Array.getElem?_eq_some_iff.1 HY2.out).1
  have HNM := Lib.hid (HO1.out.on HBZ.out).names
  have HKD := Lib.hid (HO1.out.on HBZ.out).kids
  have HNM2 := Lib.hid (HO2.out.on HBZ.out).names
  have HKD2 := Lib.hid (HO2.out.on HBZ.out).kids
  have HOE : Hid (∃ c : Bool, (op && !eq) = c) := Lib.hid ⟨_, rfl⟩
  obtain ⟨c, hc⟩ := HOE.out
  have HC := Lib.hid hc
  cases c with
  | true =>
    have HBAD := Lib.hid (HR0.out hc)
    have ho : op = true := by cases op; (simp at hc); rfl
    have he : eq = false := by cases eq; rfl; (cases op <;> simp at hc)
    subst ho he
    clear hc
    go_wp2
    go_ret
    exact ⟨by rw [HBAD.out]; rfl, HBZ.out⟩
  | false =>
    clear hc
    go_upto_region 18 with (fail)
    obtain ⟨wd, rfl⟩ : ∃ wd : World, wd = wc := ⟨_, rfl⟩
    go_cut [114] from 108 (fun s114 wc => s114 = .bool false ∧ wc = wd)
    case first =>
      have hc := HC.out
      cases op
      · clear hc
        go_wp2
        go_meet
        case rel => exact ⟨rfl, rfl⟩
      · have he : eq = true := by cases eq; (simp at hc); rfl
        subst he
        clear hc
        go_wp2
        go_meet
        case rel => exact ⟨rfl, rfl⟩
    obtain ⟨rfl, rfl⟩ := hcut
    go_wp2
    clear b0 b1 b2 b3 d0 d1 d2 d3
    go_loopw [118] (fun s118 wr => ∃ n : Nat, s118 = .int .i64 (n : Int) ∧ n ≤ nn ∧ Hid (Below wc.heap.size wc wr) ∧ Hid (∀ q, q < n → var1B NS KS MS JS eq U q = true)) (fun s118 _ => nn - (intOf s118).toNat)
    case atStart => exact ⟨0, rfl, Nat.zero_le _, Lib.hid (Below.refl _ _), Lib.hid (fun q hq => by omega)⟩
    case round =>
      obtain ⟨n, rfl, hn, HBR, HAL⟩ := hrel
      obtain ⟨wo, rfl⟩ : ∃ wo : World, wo = wr := ⟨_, rfl⟩
      have hwn : IntKind.i64.wrap ((n : Int) + 1) = (n : Int) + 1 := by rw [IntKind.wrap_i64]; omega
      have HY1R := Lib.hid ((HBR.out.block _ HL1.out).trans HY1.out)
      have HY2R := Lib.hid ((HBR.out.block _ HL2.out).trans HY2.out)
      have HBW : Hid (Below w.heap.size w wo) := Lib.hid (HBZ.out.trans (HBR.out.mono HBZ.out.size))
      have b0 : wo.cell? ⟨B1, 0, none⟩ = some (.int .i64 9) := (by rw [cell_of_row _ _ 0 _ 38 _ HY1R.out]; rfl)
      have b1 : wo.cell? ⟨B1, 1, none⟩ = some (.slice na nn nc) := (by rw [cell_of_row _ _ 1 _ 38 _ HY1R.out]; rfl)
      have b2 : wo.cell? ⟨B1, 2, none⟩ = some (.slice ka kn kc) := (by rw [cell_of_row _ _ 2 _ 38 _ HY1R.out]; rfl)
      have b3 : wo.cell? ⟨B1, 3, none⟩ = some (.bool op) := (by rw [cell_of_row _ _ 3 _ 38 _ HY1R.out]; rfl)
      have d0 : wo.cell? ⟨B2, 0, none⟩ = some (.int .i64 9) := (by rw [cell_of_row _ _ 0 _ 38 _ HY2R.out]; rfl)
      have d1 : wo.cell? ⟨B2, 1, none⟩ = some (.slice ma mn mc) := (by rw [cell_of_row _ _ 1 _ 38 _ HY2R.out]; rfl)
      have d2 : wo.cell? ⟨B2, 2, none⟩ = some (.slice ja jn jc) := (by rw [cell_of_row _ _ 2 _ 38 _ HY2R.out]; rfl)
      have d3 : wo.cell? ⟨B2, 3, none⟩ = some (.bool eq) := (by rw [cell_of_row _ _ 3 _ 38 _ HY2R.out]; rfl)
      by_cases hnm : n < nn
      · have hnm2 : (n : Int) < nn := by omega
        have hnm3 : (n : Int) < kn := by have := HLN.out; omega
        obtain ⟨s, hs⟩ : ∃ s, NS[n]? = some s := ⟨_, List.getElem?_eq_getElem (by rw [← HNL.out]; exact hnm)⟩
        obtain ⟨y, hy⟩ : ∃ y, KS[n]? = some y := ⟨_, List.getElem?_eq_getElem (by rw [← HKL.out, ← HLN.out]; exact hnm)⟩
        obtain ⟨gn, on, en, hgn, hcn⟩ := HNM.out.2.resolve_left (by (try simp only); omega)
        obtain ⟨gk, ok, ek, hgk, hck⟩ := HKD.out.2.resolve_left (by have := HLN.out; (try simp only); omega)
        (try simp only at en ek)
        obtain ⟨qy, rfl, hqy⟩ := HXI.out n y hy
        have cs : wo.cell? ⟨gn, on + n, none⟩ = some (.string s) := keepB HBR.out hgn (hcn n s hs)
        have ck : wo.cell? ⟨gk, ok + n, none⟩ = some (.int .i64 (qy : Int)) := keepB HBR.out hgk (hck n _ hy)
        have HCK := Lib.hid ck
        have HGK : Hid (gk < wo.heap.size) := Lib.hid (Nat.lt_of_lt_of_le hgk HBR.out.size)
        have hqy2 : (qy : Int) < ln := by omega
        have HRB : Hid (var1B NS KS MS JS eq U n = if findK MS JS s < 0 then eq else U qy (findK MS JS s).toNat) := Lib.hid (by
          unfold var1B
          rw [hs, List.getD_eq_getElem?_getD, hy]
          rfl)
        have HFI := Lib.hid (rfind_any wo 9 ma mn mc MS ja jn jc JS eq s (HO2.out.on HBW.out).names (HO2.out.on HBW.out).kids HMB.out HLM.out)
        clear hs hy hcn hck hgn hgk ck
        subst en ek
        have HXX : Hid (∃ x, findK MS JS s = x) := Lib.hid ⟨_, rfl⟩
        obtain ⟨x, hx⟩ := HXX.out
        have HXS := Lib.hid (HYI.out s)
        rw [hx] at HFI HRB HXS
        clear hx
        by_cases hx0 : x < 0
        · have hx1 : ¬ (0 : Int) ≤ x := by omega
          have HRB2 : Hid (var1B NS KS MS JS eq U n = eq) := Lib.hid (by rw [HRB.out, if_pos hx0])
          cases eq with
          | true =>
            go_wp2_with (go_at_call 75; (with_reducible refine HFI.out.mono ?_); rintro e w5 ⟨rfl, hb5⟩; have HBC5 := Lib.hid (HBR.out.trans (hb5.mono HBR.out.size)); have HY25 := Lib.hid ((HBC5.out.block _ HL2.out).trans HY2.out); have f3 : w5.cell? ⟨B2, 3, none⟩ = some (.bool true) := (by rw [cell_of_row _ _ 3 _ 38 _ HY25.out]; rfl); clear hb5)
            go_roundw
            case rel => exact ⟨n + 1, by go_num, by omega, HBC5, Lib.hid (fun q hq => by
              by_cases he : q = n
              · subst he
                exact HRB2.out
              · exact HAL.out q (by omega))⟩
            case measure => simp [intOf]; omega
          | false =>
            have HBAD := Lib.hid (HR1.out n hnm HRB2.out)
            go_wp2_with (go_at_call 75; (with_reducible refine HFI.out.mono ?_); rintro e w5 ⟨rfl, hb5⟩; have HBC5 := Lib.hid (HBR.out.trans (hb5.mono HBR.out.size)); have HY25 := Lib.hid ((HBC5.out.block _ HL2.out).trans HY2.out); have f3 : w5.cell? ⟨B2, 3, none⟩ = some (.bool false) := (by rw [cell_of_row _ _ 3 _ 38 _ HY25.out]; rfl); clear hb5)
            go_ret
            exact ⟨by rw [HBAD.out]; rfl, HBZ.out.trans (HBC5.out.mono HBZ.out.size)⟩
        · obtain ⟨p, rfl, hp⟩ := HXS.out (by omega)
          have hp2 : (p : Int) < lm := by omega
          have hp3 : (0 : Int) ≤ (p : Int) := by omega
          have HUB : Hid (∃ b, U qy p = b) := Lib.hid ⟨_, rfl⟩
          obtain ⟨b, hb⟩ := HUB.out
          have HUE := Lib.hid hb
          have HRB2 : Hid (var1B NS KS MS JS eq U n = b) := Lib.hid (by rw [HRB.out, if_neg hx0, ← hb]; simp)
          clear hb HXS HRB
          have hUw0 := HUU.out.on HBW.out
          have HUL : Hid (Gu < wo.heap.size ∧ Ru qy < wo.heap.size) := Lib.hid ⟨hUw0.gl, hUw0.rl qy hqy⟩
          have u1 := hUw0.row qy hqy
          have u2 := hUw0.cell qy p hqy hp
          rw [HUE.out] at u2
          have HU1 := Lib.hid u1
          have HU2 := Lib.hid u2
          clear hUw0 u1 u2
          generalize Ru qy = ru at *
          generalize Cu qy = su at *
          cases b with
          | true =>
            go_wp2_with (go_at_call 75; (with_reducible refine HFI.out.mono ?_); rintro e w5 ⟨rfl, hb5⟩; have HBC5 := Lib.hid (HBR.out.trans (hb5.mono HBR.out.size)); have HY15 := Lib.hid ((HBC5.out.block _ HL1.out).trans HY1.out); have f2 : w5.cell? ⟨B1, 2, none⟩ = some (.slice (some ⟨gk, ok, none⟩) kn kc) := (by rw [cell_of_row _ _ 2 _ 38 _ HY15.out]; rfl); have ck5 : w5.cell? ⟨gk, ok + n, none⟩ = some (.int .i64 (qy : Int)) := keepB hb5 HGK.out HCK.out; have t1 : w5.cell? ⟨Gu, qy, none⟩ = _ := keepB hb5 HUL.out.1 HU1.out; have t2 : w5.cell? ⟨ru, p, none⟩ = _ := keepB hb5 HUL.out.2 HU2.out; clear hb5)
            go_roundw
            case rel => exact ⟨n + 1, by go_num, by omega, HBC5, Lib.hid (fun q hq => by
              by_cases he : q = n
              · subst he
                exact HRB2.out
              · exact HAL.out q (by omega))⟩
            case measure => simp [intOf]; omega
          | false =>
            have HBAD := Lib.hid (HR1.out n hnm HRB2.out)
            go_wp2_with (go_at_call 75; (with_reducible refine HFI.out.mono ?_); rintro e w5 ⟨rfl, hb5⟩; have HBC5 := Lib.hid (HBR.out.trans (hb5.mono HBR.out.size)); have HY15 := Lib.hid ((HBC5.out.block _ HL1.out).trans HY1.out); have f2 : w5.cell? ⟨B1, 2, none⟩ = some (.slice (some ⟨gk, ok, none⟩) kn kc) := (by rw [cell_of_row _ _ 2 _ 38 _ HY15.out]; rfl); have ck5 : w5.cell? ⟨gk, ok + n, none⟩ = some (.int .i64 (qy : Int)) := keepB hb5 HGK.out HCK.out; have t1 : w5.cell? ⟨Gu, qy, none⟩ = _ := keepB hb5 HUL.out.1 HU1.out; have t2 : w5.cell? ⟨ru, p, none⟩ = _ := keepB hb5 HUL.out.2 HU2.out; clear hb5)
            go_ret
            exact ⟨by rw [HBAD.out]; rfl, HBZ.out.trans (HBC5.out.mono HBZ.out.size)⟩
      · have hnm2 : ¬ (n : Int) < nn := by omega
        have HALL1 : Hid (∀ q, q < nn → var1B NS KS MS JS eq U q = true) := Lib.hid (fun q hq => HAL.out q (by omega))
        go_wp2
        clear b0 b1 b2 b3 d0 d1 d2 d3
        go_loopw [155] (fun s155 wr => ∃ n : Nat, s155 = .int .i64 (n : Int) ∧ n ≤ mn ∧ Hid (Below wc.heap.size wc wr) ∧ Hid (∀ q, q < n → var2B NS KS op MS JS B q = true)) (fun s155 _ => mn - (intOf s155).toNat)
        case atStart => exact ⟨0, rfl, Nat.zero_le _, HBR, Lib.hid (fun q hq => by omega)⟩
        case round =>
          obtain ⟨n2, rfl, hn2, HBR, HAL⟩ := hrel
          have hwn2 : IntKind.i64.wrap ((n2 : Int) + 1) = (n2 : Int) + 1 := by rw [IntKind.wrap_i64]; omega
          have HY1R := Lib.hid ((HBR.out.block _ HL1.out).trans HY1.out)
          have HY2R := Lib.hid ((HBR.out.block _ HL2.out).trans HY2.out)
          have HBW : Hid (Below w.heap.size w wr) := Lib.hid (HBZ.out.trans (HBR.out.mono HBZ.out.size))
          have b0 : wr.cell? ⟨B1, 0, none⟩ = some (.int .i64 9) := (by rw [cell_of_row _ _ 0 _ 38 _ HY1R.out]; rfl)
          have b1 : wr.cell? ⟨B1, 1, none⟩ = some (.slice na nn nc) := (by rw [cell_of_row _ _ 1 _ 38 _ HY1R.out]; rfl)
          have b2 : wr.cell? ⟨B1, 2, none⟩ = some (.slice ka kn kc) := (by rw [cell_of_row _ _ 2 _ 38 _ HY1R.out]; rfl)
          have b3 : wr.cell? ⟨B1, 3, none⟩ = some (.bool op) := (by rw [cell_of_row _ _ 3 _ 38 _ HY1R.out]; rfl)
          have d0 : wr.cell? ⟨B2, 0, none⟩ = some (.int .i64 9) := (by rw [cell_of_row _ _ 0 _ 38 _ HY2R.out]; rfl)
          have d1 : wr.cell? ⟨B2, 1, none⟩ = some (.slice ma mn mc) := (by rw [cell_of_row _ _ 1 _ 38 _ HY2R.out]; rfl)
          have d2 : wr.cell? ⟨B2, 2, none⟩ = some (.slice ja jn jc) := (by rw [cell_of_row _ _ 2 _ 38 _ HY2R.out]; rfl)
          have d3 : wr.cell? ⟨B2, 3, none⟩ = some (.bool eq) := (by rw [cell_of_row _ _ 3 _ 38 _ HY2R.out]; rfl)
          by_cases hn2m : n2 < mn
          · have hn2m2 : (n2 : Int) < mn := by omega
            have hn2m3 : (n2 : Int) < jn := by have := HLM.out; omega
            obtain ⟨s, hs⟩ : ∃ s, MS[n2]? = some s := ⟨_, List.getElem?_eq_getElem (by rw [← HML.out]; exact hn2m)⟩
            obtain ⟨y, hy⟩ : ∃ y, JS[n2]? = some y := ⟨_, List.getElem?_eq_getElem (by rw [← HJL.out, ← HLM.out]; exact hn2m)⟩
            obtain ⟨gn, on, en, hgn, hcn⟩ := HNM2.out.2.resolve_left (by (try simp only); omega)
            obtain ⟨gk, ok, ek, hgk, hck⟩ := HKD2.out.2.resolve_left (by have := HLM.out; (try simp only); omega)
            (try simp only at en ek)
            obtain ⟨qy, rfl, hqy⟩ := HJI.out n2 y hy
            have cs : wr.cell? ⟨gn, on + n2, none⟩ = some (.string s) := keepB HBR.out hgn (hcn n2 s hs)
            have ck : wr.cell? ⟨gk, ok + n2, none⟩ = some (.int .i64 (qy : Int)) := keepB HBR.out hgk (hck n2 _ hy)
            have HCK := Lib.hid ck
            have HGK : Hid (gk < wr.heap.size) := Lib.hid (Nat.lt_of_lt_of_le hgk HBR.out.size)
            have hqy2 : (qy : Int) < lm := by omega
            obtain ⟨bq, hbq⟩ : ∃ b, B[qy]? = some b := ⟨_, List.getElem?_eq_getElem (by rw [← HLB.out]; exact hqy)⟩
            obtain ⟨gb', ob', eb', hgb', hcb'⟩ := (HBB.out.on HBW.out).2.resolve_left (by omega)
            cases eb'
            have HCB : Hid (wr.cell? ⟨gb, ob + qy * 4, none⟩ = some (.int .i64 bq.kd)) := Lib.hid (hcb' qy bq hbq).c0
            have HGB : Hid (gb < wr.heap.size) := Lib.hid hgb'
            have HRB : Hid (var2B NS KS op MS JS B n2 = !(op && decide (findK NS KS s < 0) && decide (bq.kd ≠ 5))) := Lib.hid (by
              unfold var2B kindAt
              rw [hs, List.getD_eq_getElem?_getD, hy]
              simp only [Option.getD_some, Int.toNat_natCast, hbq])
            have HFI := Lib.hid (rfind_any wr 9 na nn nc NS ka kn kc KS op s (HO1.out.on HBW.out).names (HO1.out.on HBW.out).kids HNB.out HLN.out)
            clear hs hy hcn hck hgn hgk ck hbq hcb' hgb'
            generalize bq.kd = bk at *
            subst en ek
            have HXX : Hid (∃ x, findK NS KS s = x) := Lib.hid ⟨_, rfl⟩
            obtain ⟨x, hx⟩ := HXX.out
            rw [hx] at HFI HRB
            clear hx
            have HGO : Hid (var2B NS KS op MS JS B n2 = true → ∀ q, q < n2 + 1 → var2B NS KS op MS JS B q = true) := Lib.hid (fun h q hq => by
              by_cases he : q = n2
              · subst he; exact h
              · exact HAL.out q (by omega))
            cases op with
            | false =>
              have HRB2 := Lib.hid (HGO.out (by rw [HRB.out]; rfl))
              go_wp2
              go_roundw
              case rel => exact ⟨n2 + 1, by go_num, by omega, HBR, HRB2⟩
              case measure => simp [intOf]; omega
            | true =>
              by_cases hx0 : x < 0
              · by_cases hb5 : bk = 5
                · subst hb5
                  have HRB2 := Lib.hid (HGO.out (by rw [HRB.out]; simp))
                  go_wp2_with (go_at_call 75; (with_reducible refine HFI.out.mono ?_); rintro e w5 ⟨rfl, hb5⟩; have HBC5 := Lib.hid (HBR.out.trans (hb5.mono HBR.out.size)); have HY25 := Lib.hid ((HBC5.out.block _ HL2.out).trans HY2.out); have f2 : w5.cell? ⟨B2, 2, none⟩ = some (.slice (some ⟨gk, ok, none⟩) jn jc) := (by rw [cell_of_row _ _ 2 _ 38 _ HY25.out]; rfl); have ck5 : w5.cell? ⟨gk, ok + n2, none⟩ = some (.int .i64 (qy : Int)) := keepB hb5 HGK.out HCK.out; have t1 : w5.cell? ⟨gb, ob + qy * 4, none⟩ = _ := keepB hb5 HGB.out HCB.out; clear hb5)
                  go_roundw
                  case rel => exact ⟨n2 + 1, by go_num, by omega, HBC5, HRB2⟩
                  case measure => simp [intOf]; omega
                · have hbk : (bk == 5) = false := by simpa using hb5
                  have hbk' : (bk != 5) = true := by simpa using hb5
                  have HBAD := Lib.hid (HR2.out n2 hn2m (by rw [HRB.out]; simp [hx0, hb5]))
                  clear hb5
                  go_wp2_with (go_at_call 75; (with_reducible refine HFI.out.mono ?_); rintro e w5 ⟨rfl, hb5⟩; have HBC5 := Lib.hid (HBR.out.trans (hb5.mono HBR.out.size)); have HY25 := Lib.hid ((HBC5.out.block _ HL2.out).trans HY2.out); have f2 : w5.cell? ⟨B2, 2, none⟩ = some (.slice (some ⟨gk, ok, none⟩) jn jc) := (by rw [cell_of_row _ _ 2 _ 38 _ HY25.out]; rfl); have ck5 : w5.cell? ⟨gk, ok + n2, none⟩ = some (.int .i64 (qy : Int)) := keepB hb5 HGK.out HCK.out; have t1 : w5.cell? ⟨gb, ob + qy * 4, none⟩ = _ := keepB hb5 HGB.out HCB.out; clear hb5)
                  go_ret
                  exact ⟨by rw [HBAD.out]; rfl, HBZ.out.trans (HBC5.out.mono HBZ.out.size)⟩
              · have hx1 : ¬ x < 0 := hx0
                have HRB2 := Lib.hid (HGO.out (by rw [HRB.out]; simp; omega))
                go_wp2_with (go_at_call 75; (with_reducible refine HFI.out.mono ?_); rintro e w5 ⟨rfl, hb5⟩; have HBC5 := Lib.hid (HBR.out.trans (hb5.mono HBR.out.size)); clear hb5)
                go_roundw
                case rel => exact ⟨n2 + 1, by go_num, by omega, HBC5, HRB2⟩
                case measure => simp [intOf]; omega
          · have hn2m2 : ¬ (n2 : Int) < mn := by omega
            have HTR := Lib.hid (HRT.out HC.out HALL1.out (fun q hq => HAL.out q (by omega)))
            go_wp2
            go_ret
            exact ⟨by rw [HTR.out]; rfl, HBW.out⟩
theorem may_any (w : World) (la lb : Option Addr) (ln lc lm ld : Nat) (A B : List Hd) (hA : HeadsIn w la ln A) (hB : HeadsIn w lb lm B) (hln : (ln : Int) ≤ 100000) (hlm : (lm : Int) ≤ 100000) (Gu cu Gd cd : Nat) (Ru Cu Rd Cd : Nat → Nat) (U D : Nat → Nat → Bool) (hU : TabR w Gu ln lm Ru Cu U) (hD : TabR w Gd lm ln Rd Cd D) (i j : Nat) (okA : OkHeads A) (okB : OkHeads B) (h k : Hd) (hi : A[i]? = some h) (hj : B[j]? = some k) :
    Calls Tryz.prog 63 #[.slice la ln lc, .slice lb lm ld, .slice (some ⟨Gu, 0, none⟩) ln cu, .slice (some ⟨Gd, 0, none⟩) lm cd, .int .i64 (i : Int), .int .i64 (j : Int)] w (BoolPost w (mayH h k B U D)) := by
  have q1 := head_kind (okA h (List.mem_of_getElem? hi))
  have q2 := head_kind (okB k (List.mem_of_getElem? hj))
  obtain ⟨hd, na, nn, nc, NS, ka, kn, kc, KS, op⟩ := h
  obtain ⟨ed, ma, mn, mc, MS, ja, jn, jc, JS, eq⟩ := k
  simp only at q1 q2
  unfold mayH
  simp only
  by_cases h65 : hd = 6 ∨ ed = 5
  · rw [if_pos h65]
    exact may_top w la lb ln lc lm ld A B hA hB hln hlm Gu cu Gd cd Ru Cu Rd Cd U D hU hD i j hd na nn nc NS ka kn kc KS op hi ed ma mn mc MS ja jn jc JS eq hj h65
  rw [if_neg h65]
  by_cases hne : hd ≠ ed
  · rw [if_pos hne]
    exact may_diff w la lb ln lc lm ld A B hA hB hln hlm Gu cu Gd cd Ru Cu Rd Cd U D hU hD i j hd na nn nc NS ka kn kc KS op hi ed ma mn mc MS ja jn jc JS eq hj (fun e => h65 (Or.inl e)) (fun e => h65 (Or.inr e)) hne
  rw [if_neg hne]
  have he : hd = ed := Classical.not_not.1 hne
  by_cases h7 : hd = 7
  · rw [if_pos h7]
    exact may_fun w la lb ln lc lm ld A B hA hB hln hlm Gu cu Gd cd Ru Cu Rd Cd U D hU hD i j hd na nn nc NS ka kn kc KS op hi ed ma mn mc MS ja jn jc JS eq hj okA okB h7 (he ▸ h7)
  rw [if_neg h7]
  by_cases h8 : hd = 8
  · rw [if_pos h8]
    exact may_rec w la lb ln lc lm ld A B hA hB hln hlm Gu cu Gd cd Ru Cu Rd Cd U D hU hD i j hd na nn nc NS ka kn kc KS op hi ed ma mn mc MS ja jn jc JS eq hj okA okB h8 (he ▸ h8)
  rw [if_neg h8]
  by_cases h9 : hd = 9
  · rw [if_pos h9]
    exact may_var w la lb ln lc lm ld A B hA hB hln hlm Gu cu Gd cd Ru Cu Rd Cd U D hU hD i j hd na nn nc NS ka kn kc KS op hi ed ma mn mc MS ja jn jc JS eq hj okA okB h9 (he ▸ h9)
  rw [if_neg h9]
  exact may_plain w la lb ln lc lm ld A B hA hB hln hlm Gu cu Gd cd Ru Cu Rd Cd U D hU hD i j hd na nn nc NS ka kn kc KS op hi ed ma mn mc MS ja jn jc JS eq hj he (by omega)
end Go.Proofs.YtoakfninndkgaaaGreatDoor
