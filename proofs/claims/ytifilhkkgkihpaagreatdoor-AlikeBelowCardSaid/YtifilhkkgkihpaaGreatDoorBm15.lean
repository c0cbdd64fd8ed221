/- Walks and plain facts. -/
import Derived.Test.YtifilhkkgkihpaaGreatDoorBm13
import Derived.Test.YtifilhkkgkihpaaGreatDoorBm14
import Derived.Test.YtifilhkkgkihpaaGreatDoorAs11
import Derived.Test.YtifilhkkgkihpaaGreatDoorBm01
import Derived.Test.YtifilhkkgkihpaaGreatDoorBm04
import Derived.Test.YtifilhkkgkihpaaGreatDoorBm02
import Derived.Test.YtifilhkkgkihpaaGreatDoorBm11
set_option linter.unusedSimpArgs false
set_option linter.unusedVariables false
namespace Go.Proofs.YtifilhkkgkihpaaGreatDoor
open Go.RowKit
set_option maxRecDepth 20000 in
set_option maxHeartbeats 8000000 in
theorem plain_c (w : World) (la : Option Addr) (ln lc root : Nat) (A : List Hd) (h : GOk w la ln root A) (nn : Bool) : Calls Tryz.prog 56 #[.agg #[.slice la ln lc, .int .i64 (root : Int)], .bool nn] w (MayPost w (PlainAt A nn root)) := by
  have HLH := Lib.hid h.lens
  have HOK := Lib.hid h.oks
  have HX1 : Hid ((w.alloc (.cells #[.slice la ln lc, .int .i64 (root : Int)] 36)).heap[w.heap.size]? = some (.cells #[.slice la ln lc, .int .i64 (root : Int)] 36 (0, 0))) := Lib.hid (heap_alloc_new w _)
  have HB1 : Hid (Below w.heap.size w (w.alloc (.cells #[.slice la ln lc, .int .i64 (root : Int)] 36))) := Lib.hid ((Below.refl _ _).alloc (Nat.le_refl _) _)
  have HNO := Lib.hid (normal_ok (w.alloc (.cells #[.slice la ln lc, .int .i64 (root : Int)] 36)) la ln lc root A (h.heads.on HB1.out) h.few h.rlt (by have := h.len; omega) h.ok h.nil)
  clear h
  go_enter Tryz.func56, Tryz.ntmps56
  go_upto_region 1 with (fail)
  generalize (w.alloc (.cells #[.slice la ln lc, .int .i64 (root : Int)] 36)) = w1 at *
  have a0 : w1.cell? ⟨w.heap.size, 0, none⟩ = some (.slice la ln lc) := (by rw [cell_of_row _ _ 0 _ 36 _ HX1.out]; rfl)
  have a1 : w1.cell? ⟨w.heap.size, 1, none⟩ = some (.int .i64 (root : Int)) := (by rw [cell_of_row _ _ 1 _ 36 _ HX1.out]; rfl)
  go_upto_region 2 with (go_at_call 40; (with_reducible refine HNO.out.mono ?_); rintro e w2 ⟨g3, c3, OS, cl, ord, rfl, hg3, hH3, hO3, hcl3, hst3, hco3, hnp3, hll3, hb3⟩; have HH3 := Lib.hid hH3; have HNF : Hid (NormF A root OS) := Lib.hid ⟨cl, ord, hst3, hco3, hnp3, hll3⟩; have HB2 := Lib.hid hb3; have HL0 : Hid (0 < OS.length) := Lib.hid (by have h1 := (List.getElem?_eq_some_iff.1 hnp3.first).1; omega); clear hg3 hH3 hO3 hcl3 hst3 hco3 hnp3 hll3 hb3)
  clear a0 a1
  have HX3 : Hid ((w2.alloc (.cells #[.slice (some ⟨g3, 0, none⟩) OS.length c3, .int .i64 0] 36)).heap[w2.heap.size]? = some (.cells #[.slice (some ⟨g3, 0, none⟩) OS.length c3, .int .i64 0] 36 (0, 0))) := Lib.hid (heap_alloc_new w2 _)
  have HB3 : Hid (Below w.heap.size w (w2.alloc (.cells #[.slice (some ⟨g3, 0, none⟩) OS.length c3, .int .i64 0] 36))) := Lib.hid ((HB1.out.trans (HB2.out.mono HB1.out.size)).alloc (Nat.le_trans HB1.out.size HB2.out.size) _)
  have HH4 : Hid (HeadsIn (w2.alloc (.cells #[.slice (some ⟨g3, 0, none⟩) OS.length c3, .int .i64 0] 36)) (some ⟨g3, 0, none⟩) OS.length OS) := Lib.hid (HH3.out.on ((Below.refl _ _).alloc (Nat.le_refl _) _))
  have HOL := Lib.hid (HNF.out.le HOK.out (by have := HLH.out.2; omega) HLH.out.1)
  have HPL : Hid ((∀ x ∈ OS, plainH nn x = true) ↔ PlainAt A nn root) := Lib.hid ⟨fun hp => plain_norm HOK.out HLH.out.1 HNF.out (OkHeads.of_graph (HNF.out.ok HOK.out (by have h1 := HLH.out.2; have h2 := HOL.out; omega))).1 HL0.out hp, fun hp => plain_rev HOK.out HLH.out.1 HNF.out hp⟩
  obtain ⟨n, hn⟩ : ∃ n, OS.length = n := ⟨_, rfl⟩
  have HN := Lib.hid hn
  rw [hn] at HX3 HB3 HH4
  rw [hn]
  clear hn HH3 HX1 HB1 HNO
  have hn100 : n ≤ 100 := by have h1 := HOL.out; have h2 := HLH.out.2; have h3 := HN.out; omega
  generalize (w2.alloc (.cells #[.slice (some ⟨g3, 0, none⟩) n c3, .int .i64 0] 36)) = w3 at *
  have a0 : w3.cell? ⟨w2.heap.size, 0, none⟩ = some (.slice (some ⟨g3, 0, none⟩) n c3) := (by rw [cell_of_row _ _ 0 _ 36 _ HX3.out]; rfl)
  go_upto_region 3 with (fail)
  clear a0
  go_loopw [17] (fun s17 wr => ∃ i : Nat, i ≤ n ∧ s17 = .int .i64 (i : Int) ∧ Hid (Below w3.heap.size w3 wr) ∧ Hid (∀ x ∈ OS.take i, plainH nn x = true)) (fun s17 _ => n - (intOf s17).toNat)
  case atStart => exact ⟨0, Nat.zero_le _, rfl, Lib.hid (Below.refl _ _), Lib.hid (fun x hx => by simp at hx)⟩
  case round =>
    obtain ⟨i, hi, rfl, HBR, HALL⟩ := hrel
    obtain ⟨w4, rfl⟩ : ∃ w4 : World, w4 = wr := ⟨_, rfl⟩
    have hwi : IntKind.i64.wrap ((i : Int) + 1) = (i : Int) + 1 := by rw [IntKind.wrap_i64]; omega
    by_cases hin : i < n
    · have hin2 : (i : Int) < n := by omega
      obtain ⟨x, hx⟩ : ∃ x, OS[i]? = some x := ⟨_, List.getElem?_eq_getElem (by rw [HN.out]; exact hin)⟩
      have HXX := Lib.hid hx
      obtain ⟨g, o, he, hgl, hc⟩ := (HH4.out.on HBR.out).2.resolve_left (by omega)
      cases he
      obtain ⟨c0, c1, c2, c3', _⟩ := hc i x hx
      simp only [Nat.zero_add] at c0 c1 c2 c3'
      have HNEXT : Hid (plainH nn x = true → ∀ y ∈ OS.take (i + 1), plainH nn y = true) := Lib.hid (fun hp y hy => by
        rw [List.take_add_one, hx] at hy
        rcases List.mem_append.1 hy with h | h
        · exact HALL.out y h
        · simp at h; rw [h]; exact hp)
      have HBX : Hid (Below w3.heap.size w3 (w4.alloc (.cells #[.int .i64 x.kd, .slice x.na x.nn x.nc, .slice x.ka x.kn x.kc, .bool x.op] 33))) := Lib.hid (HBR.out.alloc HBR.out.size _)
      have HNB : Hid ((w4.alloc (.cells #[.int .i64 x.kd, .slice x.na x.nn x.nc, .slice x.ka x.kn x.kc, .bool x.op] 33)).heap[w4.heap.size]? = some (.cells #[.int .i64 x.kd, .slice x.na x.nn x.nc, .slice x.ka x.kn x.kc, .bool x.op] 33 (0, 0))) := Lib.hid (heap_alloc_new w4 _)
      have HW3 : Hid (Below w.heap.size w (w4.alloc (.cells #[.int .i64 x.kd, .slice x.na x.nn x.nc, .slice x.ka x.kn x.kc, .bool x.op] 33))) := Lib.hid (HB3.out.trans (HBX.out.mono HB3.out.size))
      clear hc hx hgl
      go_upto_region 5 with (fail)
      clear c0 c1 c2 c3'
      generalize (w4.alloc (.cells #[.int .i64 x.kd, .slice x.na x.nn x.nc, .slice x.ka x.kn x.kc, .bool x.op] 33)) = w5 at *
      have b0 : w5.cell? ⟨w4.heap.size, 0, none⟩ = some (.int .i64 x.kd) := (by rw [cell_of_row _ _ 0 _ 33 _ HNB.out]; rfl)
      have b3 : w5.cell? ⟨w4.heap.size, 3, none⟩ = some (.bool x.op) := (by rw [cell_of_row _ _ 3 _ 33 _ HNB.out]; rfl)
      by_cases h5 : x.kd = 5
      · have n5 : (x.kd == 5) = true := by simpa using h5
        go_wp2
        go_ret
        exact ⟨false, rfl, ⟨fun h => (by cases h), fun h => absurd (HPL.out.2 h x (List.mem_of_getElem? HXX.out)) (by unfold plainH; simp [n5])⟩, HW3.out⟩
      have n5 : (x.kd == 5) = false := by simpa using h5
      clear h5
      obtain ⟨op, ho⟩ : ∃ op, x.op = op := ⟨_, rfl⟩
      have HO := Lib.hid ho
      rw [ho] at b3
      clear ho
      cases op with
      | true =>
        go_wp2
        go_ret
        exact ⟨false, rfl, ⟨fun h => (by cases h), fun h => absurd (HPL.out.2 h x (List.mem_of_getElem? HXX.out)) (by unfold plainH; simp [HO.out])⟩, HW3.out⟩
      | false =>
        cases nn with
        | false =>
          have HNX := Lib.hid (HNEXT.out (by unfold plainH; simp [n5, HO.out]))
          go_wp2
          go_roundw
          case rel => exact ⟨i + 1, by omega, by go_num, HBX, HNX⟩
          case measure => simp [intOf]; omega
        | true =>
          by_cases h6 : x.kd = 6
          · have n6 : (x.kd == 6) = true := by simpa using h6
            go_wp2
            go_ret
            exact ⟨false, rfl, ⟨fun h => (by cases h), fun h => absurd (HPL.out.2 h x (List.mem_of_getElem? HXX.out)) (by unfold plainH; simp [n6])⟩, HW3.out⟩
          · have n6 : (x.kd == 6) = false := by simpa using h6
            clear h6
            have HNX := Lib.hid (HNEXT.out (by unfold plainH; simp [n5, n6, HO.out]))
            go_wp2
            go_roundw
            case rel => exact ⟨i + 1, by omega, by go_num, HBX, HNX⟩
            case measure => simp [intOf]; omega
    · have hin2 : ¬ (i : Int) < n := by omega
      obtain rfl : n = i := by omega
      have HYES := Lib.hid (HPL.out.1 (fun x hx => HALL.out x (by rw [List.take_of_length_le (by rw [HN.out]; exact Nat.le_refl _)]; exact hx)))
      go_wp2
      go_ret
      exact ⟨true, rfl, ⟨fun _ => HYES.out, fun _ => rfl⟩, HB3.out.trans (HBR.out.mono HB3.out.size)⟩
end Go.Proofs.YtifilhkkgkihpaaGreatDoor
namespace Go.Proofs.YtifilhkkgkihpaaGreatDoor
open Go.RowKit
set_option maxRecDepth 20000 in
set_option maxHeartbeats 16000000 in
theorem ab_few_a (w : World) (la : Option Addr) (ln lc : Nat) (ra : Int) (lb : Option Addr) (lm ld : Nat) (rb : Int) (KL : Hid (∀ W', Below w.heap.size w W' → Calls Tryz.prog 51 #[] W' fun e w' => e = .returned (.bool true) ∧ Below W'.heap.size W' w')) (KFA : Hid (∀ W', Below w.heap.size w W' → Calls Tryz.prog 32 #[.agg #[.slice la ln lc, .int .i64 ra]] W' fun e w' => e = .returned (.bool false) ∧ Below W'.heap.size W' w')) : Calls Tryz.prog 17 #[.agg #[.slice la ln lc, .int .i64 ra], .agg #[.slice lb lm ld, .int .i64 rb]] w fun e w' => e = .returned (.bool true) ∧ Below w.heap.size w w' := by
  have H2 := Lib.hid (two_box w #[.slice la ln lc, .int .i64 ra] #[.slice lb lm ld, .int .i64 rb] 36)
  have HT1 : Hid (Below w.heap.size w ((w.alloc (.cells #[.slice la ln lc, .int .i64 ra] 36)).alloc (.cells #[.slice lb lm ld, .int .i64 rb] 36))) := Lib.hid H2.out.2.2
  go_enter Tryz.func17, Tryz.ntmps17
  go_upto_region 1 with (fail)
  obtain ⟨w1, hw1⟩ : ∃ w1, ((w.alloc (.cells #[.slice la ln lc, .int .i64 ra] 36)).alloc (.cells #[.slice lb lm ld, .int .i64 rb] 36)) = w1 := ⟨_, rfl⟩
  rw [hw1] at H2 HT1 ⊢
  clear hw1
  have HLb : Hid (w.heap.size + 1 < w1.heap.size) := Lib.hid (Array.getElem?_eq_some_iff.1 H2.out.2.1).1
  have HLa : Hid (w.heap.size < w1.heap.size) := Lib.hid (Array.getElem?_eq_some_iff.1 H2.out.1).1
  have HW : Hid (∀ W', Below w1.heap.size w1 W' → Below w.heap.size w W') := Lib.hid (fun W' h => HT1.out.trans (h.mono HT1.out.size))
  have CB : Hid (∀ W', Below w1.heap.size w1 W' → W'.cell? ⟨w.heap.size, 0, none⟩ = some (.slice la ln lc) ∧ W'.cell? ⟨w.heap.size, 1, none⟩ = some (.int .i64 ra) ∧ W'.cell? ⟨w.heap.size + 1, 0, none⟩ = some (.slice lb lm ld) ∧ W'.cell? ⟨w.heap.size + 1, 1, none⟩ = some (.int .i64 rb)) := Lib.hid (fun W' h => by
    have h1 := (h.block _ HLa.out).trans H2.out.1
    have h2 := (h.block _ HLb.out).trans H2.out.2.1
    exact ⟨by rw [cell_of_row _ _ 0 _ 36 _ h1]; rfl, by rw [cell_of_row _ _ 1 _ 36 _ h1]; rfl, by rw [cell_of_row _ _ 0 _ 36 _ h2]; rfl, by rw [cell_of_row _ _ 1 _ 36 _ h2]; rfl⟩)
  have HB1 : Hid (Below w1.heap.size w1 w1) := Lib.hid (Below.refl _ _)
  obtain ⟨_, _, _, _⟩ := CB.out _ HB1.out
  go_upto_region 2 with (first | (go_at_call 51; (with_reducible refine (KL.out _ (HW.out _ HB1.out)).mono ?_); rintro e w2 ⟨rfl, hb9⟩; have HB2 := Lib.hid (HB1.out.trans (hb9.mono HB1.out.size)); obtain ⟨_, _, _, _⟩ := CB.out _ HB2.out; clear hb9) | (go_at_call 32; (with_reducible refine (KFA.out _ (HW.out _ HB2.out)).mono ?_); rintro e w3 ⟨rfl, hb9⟩; have HB3 := Lib.hid (HB2.out.trans (hb9.mono HB2.out.size)); obtain ⟨_, _, _, _⟩ := CB.out _ HB3.out; clear hb9))
  go_wp2_with (go_at_call 51; (with_reducible refine (KL.out _ (HW.out _ HB3.out)).mono ?_); rintro e w4 ⟨rfl, hb9⟩; have HB4 := Lib.hid (HB3.out.trans (hb9.mono HB3.out.size)); obtain ⟨_, _, _, _⟩ := CB.out _ HB4.out; clear hb9)
  go_ret
  exact ⟨rfl, HW.out _ HB4.out⟩
set_option maxRecDepth 20000 in
set_option maxHeartbeats 16000000 in
theorem ab_few_b (w : World) (la : Option Addr) (ln lc : Nat) (ra : Int) (lb : Option Addr) (lm ld : Nat) (rb : Int) (KL : Hid (∀ W', Below w.heap.size w W' → Calls Tryz.prog 51 #[] W' fun e w' => e = .returned (.bool true) ∧ Below W'.heap.size W' w')) (KFA : Hid (∀ W', Below w.heap.size w W' → Calls Tryz.prog 32 #[.agg #[.slice la ln lc, .int .i64 ra]] W' fun e w' => e = .returned (.bool true) ∧ Below W'.heap.size W' w')) (KFB : Hid (∀ W', Below w.heap.size w W' → Calls Tryz.prog 32 #[.agg #[.slice lb lm ld, .int .i64 rb]] W' fun e w' => e = .returned (.bool false) ∧ Below W'.heap.size W' w')) : Calls Tryz.prog 17 #[.agg #[.slice la ln lc, .int .i64 ra], .agg #[.slice lb lm ld, .int .i64 rb]] w fun e w' => e = .returned (.bool true) ∧ Below w.heap.size w w' := by
  have H2 := Lib.hid (two_box w #[.slice la ln lc, .int .i64 ra] #[.slice lb lm ld, .int .i64 rb] 36)
  have HT1 : Hid (Below w.heap.size w ((w.alloc (.cells #[.slice la ln lc, .int .i64 ra] 36)).alloc (.cells #[.slice lb lm ld, .int .i64 rb] 36))) := Lib.hid H2.out.2.2
  go_enter Tryz.func17, Tryz.ntmps17
  go_upto_region 1 with (fail)
  obtain ⟨w1, hw1⟩ : ∃ w1, ((w.alloc (.cells #[.slice la ln lc, .int .i64 ra] 36)).alloc (.cells #[.slice lb lm ld, .int .i64 rb] 36)) = w1 := ⟨_, rfl⟩
  rw [hw1] at H2 HT1 ⊢
  clear hw1
  have HLb : Hid (w.heap.size + 1 < w1.heap.size) := Lib.hid (Array.getElem?_eq_some_iff.1 H2.out.2.1).1
  have HLa : Hid (w.heap.size < w1.heap.size) := Lib.hid (Array.getElem?_eq_some_iff.1 H2.out.1).1
  have HW : Hid (∀ W', Below w1.heap.size w1 W' → Below w.heap.size w W') := Lib.hid (fun W' h => HT1.out.trans (h.mono HT1.out.size))
  have CB : Hid (∀ W', Below w1.heap.size w1 W' → W'.cell? ⟨w.heap.size, 0, none⟩ = some (.slice la ln lc) ∧ W'.cell? ⟨w.heap.size, 1, none⟩ = some (.int .i64 ra) ∧ W'.cell? ⟨w.heap.size + 1, 0, none⟩ = some (.slice lb lm ld) ∧ W'.cell? ⟨w.heap.size + 1, 1, none⟩ = some (.int .i64 rb)) := Lib.hid (fun W' h => by
    have h1 := (h.block _ HLa.out).trans H2.out.1
    have h2 := (h.block _ HLb.out).trans H2.out.2.1
    exact ⟨by rw [cell_of_row _ _ 0 _ 36 _ h1]; rfl, by rw [cell_of_row _ _ 1 _ 36 _ h1]; rfl, by rw [cell_of_row _ _ 0 _ 36 _ h2]; rfl, by rw [cell_of_row _ _ 1 _ 36 _ h2]; rfl⟩)
  have HB1 : Hid (Below w1.heap.size w1 w1) := Lib.hid (Below.refl _ _)
  obtain ⟨_, _, _, _⟩ := CB.out _ HB1.out
  go_upto_region 2 with (first | (go_at_call 51; (with_reducible refine (KL.out _ (HW.out _ HB1.out)).mono ?_); rintro e w2 ⟨rfl, hb9⟩; have HB2 := Lib.hid (HB1.out.trans (hb9.mono HB1.out.size)); obtain ⟨_, _, _, _⟩ := CB.out _ HB2.out; clear hb9) | (go_at_call 32; (with_reducible refine (KFA.out _ (HW.out _ HB2.out)).mono ?_); rintro e w3 ⟨rfl, hb9⟩; have HB3 := Lib.hid (HB2.out.trans (hb9.mono HB2.out.size)); obtain ⟨_, _, _, _⟩ := CB.out _ HB3.out; clear hb9) | (go_at_call 32; (with_reducible refine (KFB.out _ (HW.out _ HB3.out)).mono ?_); rintro e w4 ⟨rfl, hb9⟩; have HB4 := Lib.hid (HB3.out.trans (hb9.mono HB3.out.size)); obtain ⟨_, _, _, _⟩ := CB.out _ HB4.out; clear hb9))
  go_wp2_with (go_at_call 51; (with_reducible refine (KL.out _ (HW.out _ HB4.out)).mono ?_); rintro e w5 ⟨rfl, hb9⟩; have HB5 := Lib.hid (HB4.out.trans (hb9.mono HB4.out.size)); obtain ⟨_, _, _, _⟩ := CB.out _ HB5.out; clear hb9)
  go_ret
  exact ⟨rfl, HW.out _ HB5.out⟩
set_option maxRecDepth 20000 in
set_option maxHeartbeats 16000000 in
theorem ab_right_a (w : World) (la : Option Addr) (ln lc : Nat) (ra : Int) (lb : Option Addr) (lm ld : Nat) (rb : Int) (KL : Hid (∀ W', Below w.heap.size w W' → Calls Tryz.prog 51 #[] W' fun e w' => e = .returned (.bool true) ∧ Below W'.heap.size W' w')) (KFA : Hid (∀ W', Below w.heap.size w W' → Calls Tryz.prog 32 #[.agg #[.slice la ln lc, .int .i64 ra]] W' fun e w' => e = .returned (.bool true) ∧ Below W'.heap.size W' w')) (KFB : Hid (∀ W', Below w.heap.size w W' → Calls Tryz.prog 32 #[.agg #[.slice lb lm ld, .int .i64 rb]] W' fun e w' => e = .returned (.bool true) ∧ Below W'.heap.size W' w')) (KRA : Hid (∀ W', Below w.heap.size w W' → Calls Tryz.prog 33 #[.agg #[.slice la ln lc, .int .i64 ra]] W' fun e w' => e = .returned (.bool false) ∧ Below W'.heap.size W' w')) : Calls Tryz.prog 17 #[.agg #[.slice la ln lc, .int .i64 ra], .agg #[.slice lb lm ld, .int .i64 rb]] w fun e w' => e = .returned (.bool true) ∧ Below w.heap.size w w' := by
  have H2 := Lib.hid (two_box w #[.slice la ln lc, .int .i64 ra] #[.slice lb lm ld, .int .i64 rb] 36)
  have HT1 : Hid (Below w.heap.size w ((w.alloc (.cells #[.slice la ln lc, .int .i64 ra] 36)).alloc (.cells #[.slice lb lm ld, .int .i64 rb] 36))) := Lib.hid H2.out.2.2
  go_enter Tryz.func17, Tryz.ntmps17
  go_upto_region 1 with (fail)
  obtain ⟨w1, hw1⟩ : ∃ w1, ((w.alloc (.cells #[.slice la ln lc, .int .i64 ra] 36)).alloc (.cells #[.slice lb lm ld, .int .i64 rb] 36)) = w1 := ⟨_, rfl⟩
  rw [hw1] at H2 HT1 ⊢
  clear hw1
  have HLb : Hid (w.heap.size + 1 < w1.heap.size) := Lib.hid (Array.getElem?_eq_some_iff.1 H2.out.2.1).1
  have HLa : Hid (w.heap.size < w1.heap.size) := Lib.hid (Array.getElem?_eq_some_iff.1 H2.out.1).1
  have HW : Hid (∀ W', Below w1.heap.size w1 W' → Below w.heap.size w W') := Lib.hid (fun W' h => HT1.out.trans (h.mono HT1.out.size))
  have CB : Hid (∀ W', Below w1.heap.size w1 W' → W'.cell? ⟨w.heap.size, 0, none⟩ = some (.slice la ln lc) ∧ W'.cell? ⟨w.heap.size, 1, none⟩ = some (.int .i64 ra) ∧ W'.cell? ⟨w.heap.size + 1, 0, none⟩ = some (.slice lb lm ld) ∧ W'.cell? ⟨w.heap.size + 1, 1, none⟩ = some (.int .i64 rb)) := Lib.hid (fun W' h => by
    have h1 := (h.block _ HLa.out).trans H2.out.1
    have h2 := (h.block _ HLb.out).trans H2.out.2.1
    exact ⟨by rw [cell_of_row _ _ 0 _ 36 _ h1]; rfl, by rw [cell_of_row _ _ 1 _ 36 _ h1]; rfl, by rw [cell_of_row _ _ 0 _ 36 _ h2]; rfl, by rw [cell_of_row _ _ 1 _ 36 _ h2]; rfl⟩)
  have HB1 : Hid (Below w1.heap.size w1 w1) := Lib.hid (Below.refl _ _)
  obtain ⟨_, _, _, _⟩ := CB.out _ HB1.out
  go_upto_region 2 with (first | (go_at_call 51; (with_reducible refine (KL.out _ (HW.out _ HB1.out)).mono ?_); rintro e w2 ⟨rfl, hb9⟩; have HB2 := Lib.hid (HB1.out.trans (hb9.mono HB1.out.size)); obtain ⟨_, _, _, _⟩ := CB.out _ HB2.out; clear hb9) | (go_at_call 32; (with_reducible refine (KFA.out _ (HW.out _ HB2.out)).mono ?_); rintro e w3 ⟨rfl, hb9⟩; have HB3 := Lib.hid (HB2.out.trans (hb9.mono HB2.out.size)); obtain ⟨_, _, _, _⟩ := CB.out _ HB3.out; clear hb9) | (go_at_call 32; (with_reducible refine (KFB.out _ (HW.out _ HB3.out)).mono ?_); rintro e w4 ⟨rfl, hb9⟩; have HB4 := Lib.hid (HB3.out.trans (hb9.mono HB3.out.size)); obtain ⟨_, _, _, _⟩ := CB.out _ HB4.out; clear hb9) | (go_at_call 33; (with_reducible refine (KRA.out _ (HW.out _ HB4.out)).mono ?_); rintro e w5 ⟨rfl, hb9⟩; have HB5 := Lib.hid (HB4.out.trans (hb9.mono HB4.out.size)); obtain ⟨_, _, _, _⟩ := CB.out _ HB5.out; clear hb9))
  go_wp2_with (go_at_call 51; (with_reducible refine (KL.out _ (HW.out _ HB5.out)).mono ?_); rintro e w6 ⟨rfl, hb9⟩; have HB6 := Lib.hid (HB5.out.trans (hb9.mono HB5.out.size)); obtain ⟨_, _, _, _⟩ := CB.out _ HB6.out; clear hb9)
  go_ret
  exact ⟨rfl, HW.out _ HB6.out⟩
set_option maxRecDepth 20000 in
set_option maxHeartbeats 16000000 in
theorem ab_right_b (w : World) (la : Option Addr) (ln lc : Nat) (ra : Int) (lb : Option Addr) (lm ld : Nat) (rb : Int) (KL : Hid (∀ W', Below w.heap.size w W' → Calls Tryz.prog 51 #[] W' fun e w' => e = .returned (.bool true) ∧ Below W'.heap.size W' w')) (KFA : Hid (∀ W', Below w.heap.size w W' → Calls Tryz.prog 32 #[.agg #[.slice la ln lc, .int .i64 ra]] W' fun e w' => e = .returned (.bool true) ∧ Below W'.heap.size W' w')) (KFB : Hid (∀ W', Below w.heap.size w W' → Calls Tryz.prog 32 #[.agg #[.slice lb lm ld, .int .i64 rb]] W' fun e w' => e = .returned (.bool true) ∧ Below W'.heap.size W' w')) (KRA : Hid (∀ W', Below w.heap.size w W' → Calls Tryz.prog 33 #[.agg #[.slice la ln lc, .int .i64 ra]] W' fun e w' => e = .returned (.bool true) ∧ Below W'.heap.size W' w')) (KRB : Hid (∀ W', Below w.heap.size w W' → Calls Tryz.prog 33 #[.agg #[.slice lb lm ld, .int .i64 rb]] W' fun e w' => e = .returned (.bool false) ∧ Below W'.heap.size W' w')) : Calls Tryz.prog 17 #[.agg #[.slice la ln lc, .int .i64 ra], .agg #[.slice lb lm ld, .int .i64 rb]] w fun e w' => e = .returned (.bool true) ∧ Below w.heap.size w w' := by
  have H2 := Lib.hid (two_box w #[.slice la ln lc, .int .i64 ra] #[.slice lb lm ld, .int .i64 rb] 36)
  have HT1 : Hid (Below w.heap.size w ((w.alloc (.cells #[.slice la ln lc, .int .i64 ra] 36)).alloc (.cells #[.slice lb lm ld, .int .i64 rb] 36))) := Lib.hid H2.out.2.2
  go_enter Tryz.func17, Tryz.ntmps17
  go_upto_region 1 with (fail)
  obtain ⟨w1, hw1⟩ : ∃ w1, ((w.alloc (.cells #[.slice la ln lc, .int .i64 ra] 36)).alloc (.cells #[.slice lb lm ld, .int .i64 rb] 36)) = w1 := ⟨_, rfl⟩
  rw [hw1] at H2 HT1 ⊢
  clear hw1
  have HLb : Hid (w.heap.size + 1 < w1.heap.size) := Lib.hid (Array.getElem?_eq_some_iff.1 H2.out.2.1).1
  have HLa : Hid (w.heap.size < w1.heap.size) := Lib.hid (Array.getElem?_eq_some_iff.1 H2.out.1).1
  have HW : Hid (∀ W', Below w1.heap.size w1 W' → Below w.heap.size w W') := Lib.hid (fun W' h => HT1.out.trans (h.mono HT1.out.size))
  have CB : Hid (∀ W', Below w1.heap.size w1 W' → W'.cell? ⟨w.heap.size, 0, none⟩ = some (.slice la ln lc) ∧ W'.cell? ⟨w.heap.size, 1, none⟩ = some (.int .i64 ra) ∧ W'.cell? ⟨w.heap.size + 1, 0, none⟩ = some (.slice lb lm ld) ∧ W'.cell? ⟨w.heap.size + 1, 1, none⟩ = some (.int .i64 rb)) := Lib.hid (fun W' h => by
    have h1 := (h.block _ HLa.out).trans H2.out.1
    have h2 := (h.block _ HLb.out).trans H2.out.2.1
    exact ⟨by rw [cell_of_row _ _ 0 _ 36 _ h1]; rfl, by rw [cell_of_row _ _ 1 _ 36 _ h1]; rfl, by rw [cell_of_row _ _ 0 _ 36 _ h2]; rfl, by rw [cell_of_row _ _ 1 _ 36 _ h2]; rfl⟩)
  have HB1 : Hid (Below w1.heap.size w1 w1) := Lib.hid (Below.refl _ _)
  obtain ⟨_, _, _, _⟩ := CB.out _ HB1.out
  go_upto_region 2 with (first | (go_at_call 51; (with_reducible refine (KL.out _ (HW.out _ HB1.out)).mono ?_); rintro e w2 ⟨rfl, hb9⟩; have HB2 := Lib.hid (HB1.out.trans (hb9.mono HB1.out.size)); obtain ⟨_, _, _, _⟩ := CB.out _ HB2.out; clear hb9) | (go_at_call 32; (with_reducible refine (KFA.out _ (HW.out _ HB2.out)).mono ?_); rintro e w3 ⟨rfl, hb9⟩; have HB3 := Lib.hid (HB2.out.trans (hb9.mono HB2.out.size)); obtain ⟨_, _, _, _⟩ := CB.out _ HB3.out; clear hb9) | (go_at_call 32; (with_reducible refine (KFB.out _ (HW.out _ HB3.out)).mono ?_); rintro e w4 ⟨rfl, hb9⟩; have HB4 := Lib.hid (HB3.out.trans (hb9.mono HB3.out.size)); obtain ⟨_, _, _, _⟩ := CB.out _ HB4.out; clear hb9) | (go_at_call 33; (with_reducible refine (KRA.out _ (HW.out _ HB4.out)).mono ?_); rintro e w5 ⟨rfl, hb9⟩; have HB5 := Lib.hid (HB4.out.trans (hb9.mono HB4.out.size)); obtain ⟨_, _, _, _⟩ := CB.out _ HB5.out; clear hb9) | (go_at_call 33; (with_reducible refine (KRB.out _ (HW.out _ HB5.out)).mono ?_); rintro e w6 ⟨rfl, hb9⟩; have HB6 := Lib.hid (HB5.out.trans (hb9.mono HB5.out.size)); obtain ⟨_, _, _, _⟩ := CB.out _ HB6.out; clear hb9))
  go_wp2_with (go_at_call 51; (with_reducible refine (KL.out _ (HW.out _ HB6.out)).mono ?_); rintro e w7 ⟨rfl, hb9⟩; have HB7 := Lib.hid (HB6.out.trans (hb9.mono HB6.out.size)); obtain ⟨_, _, _, _⟩ := CB.out _ HB7.out; clear hb9)
  go_ret
  exact ⟨rfl, HW.out _ HB7.out⟩
set_option maxRecDepth 20000 in
set_option maxHeartbeats 16000000 in
theorem ab_all (w : World) (la : Option Addr) (ln lc : Nat) (ra : Int) (lb : Option Addr) (lm ld : Nat) (rb : Int) (pa pb bl mm q td fd : Bool) (e1 : pa = true → pb = true → bl = true → mm = true) (e2 : q = true → td = true ∧ fd = true) (KL : Hid (∀ W', Below w.heap.size w W' → Calls Tryz.prog 51 #[] W' fun e w' => e = .returned (.bool true) ∧ Below W'.heap.size W' w')) (KFA : Hid (∀ W', Below w.heap.size w W' → Calls Tryz.prog 32 #[.agg #[.slice la ln lc, .int .i64 ra]] W' fun e w' => e = .returned (.bool true) ∧ Below W'.heap.size W' w')) (KFB : Hid (∀ W', Below w.heap.size w W' → Calls Tryz.prog 32 #[.agg #[.slice lb lm ld, .int .i64 rb]] W' fun e w' => e = .returned (.bool true) ∧ Below W'.heap.size W' w')) (KRA : Hid (∀ W', Below w.heap.size w W' → Calls Tryz.prog 33 #[.agg #[.slice la ln lc, .int .i64 ra]] W' fun e w' => e = .returned (.bool true) ∧ Below W'.heap.size W' w')) (KRB : Hid (∀ W', Below w.heap.size w W' → Calls Tryz.prog 33 #[.agg #[.slice lb lm ld, .int .i64 rb]] W' fun e w' => e = .returned (.bool true) ∧ Below W'.heap.size W' w')) (KPA : Hid (∀ W', Below w.heap.size w W' → Calls Tryz.prog 56 #[.agg #[.slice la ln lc, .int .i64 ra], .bool false] W' fun e w' => e = .returned (.bool pa) ∧ Below W'.heap.size W' w')) (KPB : Hid (∀ W', Below w.heap.size w W' → Calls Tryz.prog 56 #[.agg #[.slice lb lm ld, .int .i64 rb], .bool false] W' fun e w' => e = .returned (.bool pb) ∧ Below W'.heap.size W' w')) (KBL : Hid (∀ W', Below w.heap.size w W' → Calls Tryz.prog 46 #[.agg #[.slice la ln lc, .int .i64 ra], .agg #[.slice lb lm ld, .int .i64 rb]] W' fun e w' => e = .returned (.bool bl) ∧ Below W'.heap.size W' w')) (KMY : Hid (∀ W', Below w.heap.size w W' → Calls Tryz.prog 52 #[.agg #[.slice la ln lc, .int .i64 ra], .agg #[.slice lb lm ld, .int .i64 rb]] W' fun e w' => e = .returned (.bool mm) ∧ Below W'.heap.size W' w')) (KQA : Hid (∀ W', Below w.heap.size w W' → Calls Tryz.prog 56 #[.agg #[.slice la ln lc, .int .i64 ra], .bool true] W' fun e w' => e = .returned (.bool q) ∧ Below W'.heap.size W' w')) (KTD : Hid (∀ W', Below w.heap.size w W' → Calls Tryz.prog 53 #[.agg #[.slice la ln lc, .int .i64 ra]] W' fun e w' => e = .returned (.bool td) ∧ Below W'.heap.size W' w')) (KFD : Hid (∀ W', Below w.heap.size w W' → Calls Tryz.prog 54 #[.agg #[.slice la ln lc, .int .i64 ra]] W' fun e w' => e = .returned (.bool fd) ∧ Below W'.heap.size W' w')) (KMS : Hid (∀ W', Below w.heap.size w W' → Calls Tryz.prog 52 #[.agg #[.slice la ln lc, .int .i64 ra], .agg #[.slice la ln lc, .int .i64 ra]] W' fun e w' => e = .returned (.bool true) ∧ Below W'.heap.size W' w')) : Calls Tryz.prog 17 #[.agg #[.slice la ln lc, .int .i64 ra], .agg #[.slice lb lm ld, .int .i64 rb]] w fun e w' => e = .returned (.bool true) ∧ Below w.heap.size w w' := by
  have P : pa = false ∨ (pa = true ∧ pb = false) ∨ (pa = true ∧ pb = true ∧ bl = false) ∨ (pa = true ∧ pb = true ∧ bl = true ∧ mm = true) := by
    cases pa <;> cases pb <;> cases bl <;> simp_all
  have Q : q = false ∨ (q = true ∧ td = true ∧ fd = true) := by
    cases q <;> simp_all
  have HP := Lib.hid P
  have HQ := Lib.hid Q
  clear P Q e1 e2
  have H2 := Lib.hid (two_box w #[.slice la ln lc, .int .i64 ra] #[.slice lb lm ld, .int .i64 rb] 36)
  have HT1 : Hid (Below w.heap.size w ((w.alloc (.cells #[.slice la ln lc, .int .i64 ra] 36)).alloc (.cells #[.slice lb lm ld, .int .i64 rb] 36))) := Lib.hid H2.out.2.2
  go_enter Tryz.func17, Tryz.ntmps17
  go_upto_region 1 with (fail)
  obtain ⟨w1, hw1⟩ : ∃ w1, ((w.alloc (.cells #[.slice la ln lc, .int .i64 ra] 36)).alloc (.cells #[.slice lb lm ld, .int .i64 rb] 36)) = w1 := ⟨_, rfl⟩
  rw [hw1] at H2 HT1 ⊢
  clear hw1
  have HLb : Hid (w.heap.size + 1 < w1.heap.size) := Lib.hid (Array.getElem?_eq_some_iff.1 H2.out.2.1).1
  have HLa : Hid (w.heap.size < w1.heap.size) := Lib.hid (Array.getElem?_eq_some_iff.1 H2.out.1).1
  have HW : Hid (∀ W', Below w1.heap.size w1 W' → Below w.heap.size w W') := Lib.hid (fun W' h => HT1.out.trans (h.mono HT1.out.size))
  have CB : Hid (∀ W', Below w1.heap.size w1 W' → W'.cell? ⟨w.heap.size, 0, none⟩ = some (.slice la ln lc) ∧ W'.cell? ⟨w.heap.size, 1, none⟩ = some (.int .i64 ra) ∧ W'.cell? ⟨w.heap.size + 1, 0, none⟩ = some (.slice lb lm ld) ∧ W'.cell? ⟨w.heap.size + 1, 1, none⟩ = some (.int .i64 rb)) := Lib.hid (fun W' h => by
    have h1 := (h.block _ HLa.out).trans H2.out.1
    have h2 := (h.block _ HLb.out).trans H2.out.2.1
    exact ⟨by rw [cell_of_row _ _ 0 _ 36 _ h1]; rfl, by rw [cell_of_row _ _ 1 _ 36 _ h1]; rfl, by rw [cell_of_row _ _ 0 _ 36 _ h2]; rfl, by rw [cell_of_row _ _ 1 _ 36 _ h2]; rfl⟩)
  have HB1 : Hid (Below w1.heap.size w1 w1) := Lib.hid (Below.refl _ _)
  obtain ⟨_, _, _, _⟩ := CB.out _ HB1.out
  go_upto_region 3 with (first | (go_at_call 51; (with_reducible refine (KL.out _ (HW.out _ HB1.out)).mono ?_); rintro e w2 ⟨rfl, hb9⟩; have HB2 := Lib.hid (HB1.out.trans (hb9.mono HB1.out.size)); obtain ⟨_, _, _, _⟩ := CB.out _ HB2.out; clear hb9) | (go_at_call 32; (with_reducible refine (KFA.out _ (HW.out _ HB2.out)).mono ?_); rintro e w3 ⟨rfl, hb9⟩; have HB3 := Lib.hid (HB2.out.trans (hb9.mono HB2.out.size)); obtain ⟨_, _, _, _⟩ := CB.out _ HB3.out; clear hb9) | (go_at_call 32; (with_reducible refine (KFB.out _ (HW.out _ HB3.out)).mono ?_); rintro e w4 ⟨rfl, hb9⟩; have HB4 := Lib.hid (HB3.out.trans (hb9.mono HB3.out.size)); obtain ⟨_, _, _, _⟩ := CB.out _ HB4.out; clear hb9) | (go_at_call 33; (with_reducible refine (KRA.out _ (HW.out _ HB4.out)).mono ?_); rintro e w5 ⟨rfl, hb9⟩; have HB5 := Lib.hid (HB4.out.trans (hb9.mono HB4.out.size)); obtain ⟨_, _, _, _⟩ := CB.out _ HB5.out; clear hb9) | (go_at_call 33; (with_reducible refine (KRB.out _ (HW.out _ HB5.out)).mono ?_); rintro e w6 ⟨rfl, hb9⟩; have HB6 := Lib.hid (HB5.out.trans (hb9.mono HB5.out.size)); obtain ⟨_, _, _, _⟩ := CB.out _ HB6.out; clear hb9))
  rcases HP.out with rfl | ⟨rfl, rfl⟩ | ⟨rfl, rfl, rfl⟩ | ⟨rfl, rfl, rfl, rfl⟩
  all_goals go_upto_region 5 with (first | (go_at_call 56; (with_reducible refine (KPA.out _ (HW.out _ HB6.out)).mono ?_); rintro e w7 ⟨rfl, hb9⟩; have HB7 := Lib.hid (HB6.out.trans (hb9.mono HB6.out.size)); obtain ⟨_, _, _, _⟩ := CB.out _ HB7.out; clear hb9) | (go_at_call 56; (with_reducible refine (KPB.out _ (HW.out _ HB7.out)).mono ?_); rintro e w8 ⟨rfl, hb9⟩; have HB8 := Lib.hid (HB7.out.trans (hb9.mono HB7.out.size)); obtain ⟨_, _, _, _⟩ := CB.out _ HB8.out; clear hb9) | (go_at_call 46; (with_reducible refine (KBL.out _ (HW.out _ HB8.out)).mono ?_); rintro e w9 ⟨rfl, hb9⟩; have HB9 := Lib.hid (HB8.out.trans (hb9.mono HB8.out.size)); obtain ⟨_, _, _, _⟩ := CB.out _ HB9.out; clear hb9) | (go_at_call 52; (with_reducible refine (KMY.out _ (HW.out _ HB9.out)).mono ?_); rintro e w10 ⟨rfl, hb9⟩; have HB10 := Lib.hid (HB9.out.trans (hb9.mono HB9.out.size)); obtain ⟨_, _, _, _⟩ := CB.out _ HB10.out; clear hb9))
  all_goals first | have HBz := HB10 | have HBz := HB9 | have HBz := HB8 | have HBz := HB7
  all_goals rcases HQ.out with rfl | ⟨rfl, rfl, rfl⟩
  all_goals go_wp2_with (first | (go_at_call 56; (with_reducible refine (KQA.out _ (HW.out _ HBz.out)).mono ?_); rintro e w11 ⟨rfl, hb9⟩; have HB11 := Lib.hid (HBz.out.trans (hb9.mono HBz.out.size)); obtain ⟨_, _, _, _⟩ := CB.out _ HB11.out; clear hb9) | (go_at_call 53; (with_reducible refine (KTD.out _ (HW.out _ HB11.out)).mono ?_); rintro e w12 ⟨rfl, hb9⟩; have HB12 := Lib.hid (HB11.out.trans (hb9.mono HB11.out.size)); obtain ⟨_, _, _, _⟩ := CB.out _ HB12.out; clear hb9) | (go_at_call 54; (with_reducible refine (KFD.out _ (HW.out _ HB12.out)).mono ?_); rintro e w13 ⟨rfl, hb9⟩; have HB13 := Lib.hid (HB12.out.trans (hb9.mono HB12.out.size)); obtain ⟨_, _, _, _⟩ := CB.out _ HB13.out; clear hb9) | (go_at_call 52; (with_reducible refine (KMS.out _ (HW.out _ HB13.out)).mono ?_); rintro e w14 ⟨rfl, hb9⟩; have HB14 := Lib.hid (HB13.out.trans (hb9.mono HB13.out.size)); obtain ⟨_, _, _, _⟩ := CB.out _ HB14.out; clear hb9))
  all_goals go_ret
  all_goals first | exact ⟨rfl, HW.out _ HB14.out⟩ | exact ⟨rfl, HW.out _ HB11.out⟩
theorem may_as {w : World} {P : Prop} {b : Bool} {f : Nat} {args : Array Value} (h : Calls Tryz.prog f args w (MayPost w P)) (hb : b = true ↔ P) : Calls Tryz.prog f args w fun e w' => e = .returned (.bool b) ∧ Below w.heap.size w w' := h.mono (fun e w' ⟨c, h1, h2, h3⟩ => by
  have hc : c = b := by cases c <;> cases b <;> simp_all
  rw [hc] at h1
  exact ⟨h1, h3⟩)
theorem bool_of (P : Prop) : ∃ b : Bool, b = true ↔ P := by
  by_cases h : P
  · exact ⟨true, by simp [h]⟩
  · exact ⟨false, by simp [h]⟩
theorem alikeBelow_true (w : World) (la : Option Addr) (ln lc : Nat) (ra : Int) (A : List Hd) (hA : GRaw w la ln A) (lb : Option Addr) (lm ld : Nat) (rb : Int) (B : List Hd) (hB : GRaw w lb lm B) : Calls Tryz.prog 17 #[.agg #[.slice la ln lc, .int .i64 ra], .agg #[.slice lb lm ld, .int .i64 rb]] w fun e w' => e = .returned (.bool true) ∧ Below w.heap.size w w' := by
  have KL : Hid (∀ W', Below w.heap.size w W' → Calls Tryz.prog 51 #[] W' fun e w' => e = .returned (.bool true) ∧ Below W'.heap.size W' w') := Lib.hid (fun W' _ => lives10 W')
  cases hfa : fewB A with
  | false => exact ab_few_a w la ln lc ra lb lm ld rb KL (Lib.hid (few_c hA hfa))
  | true =>
    have KFA := Lib.hid (few_c (lc := lc) (ra := ra) hA hfa)
    cases hfb : fewB B with
    | false => exact ab_few_b w la ln lc ra lb lm ld rb KL KFA (Lib.hid (few_c hB hfb))
    | true =>
      have KFB := Lib.hid (few_c (lc := ld) (ra := rb) hB hfb)
      cases hga : graphB ra A with
      | false => exact ab_right_a w la ln lc ra lb lm ld rb KL KFA KFB (Lib.hid (right_c hA hfa hga))
      | true =>
        have KRA := Lib.hid (right_c (lc := lc) hA hfa hga)
        cases hgb : graphB rb B with
        | false => exact ab_right_b w la ln lc ra lb lm ld rb KL KFA KFB KRA (Lib.hid (right_c hB hfb hgb))
        | true =>
          have KRB := Lib.hid (right_c (lc := ld) hB hfb hgb)
          obtain ⟨ra, rfl⟩ : ∃ z : Nat, ra = (z : Int) := ⟨ra.toNat, by have := (OkHeads.of_graph hga).2.1; omega⟩
          obtain ⟨rb, rfl⟩ : ∃ z : Nat, rb = (z : Int) := ⟨rb.toNat, by have := (OkHeads.of_graph hgb).2.1; omega⟩
          have gA := hA.gok hfa hga
          have gB := hB.gok hfb hgb
          have sA := gA.lens
          have sB := gB.lens
          obtain ⟨pa, hpa⟩ := bool_of (PlainAt A false ra)
          obtain ⟨pb, hpb⟩ := bool_of (PlainAt B false rb)
          obtain ⟨bl, hbl⟩ := bool_of (BelowP A B ra rb)
          obtain ⟨mm, hmm⟩ := bool_of (MayA A B ra rb)
          obtain ⟨q, hq⟩ := bool_of (PlainAt A true ra)
          obtain ⟨td, htd⟩ := bool_of (MayA A (bsc 4) ra 0)
          obtain ⟨fd, hfd⟩ := bool_of (MayA (bsc 4) A 0 ra)
          have KPA := Lib.hid (fun W' (hb : Below w.heap.size w W') => may_as (plain_c W' la ln lc ra A (gA.on hb) false) hpa)
          have KPB := Lib.hid (fun W' (hb : Below w.heap.size w W') => may_as (plain_c W' lb lm ld rb B (gB.on hb) false) hpb)
          have KBL := Lib.hid (fun W' (hb : Below w.heap.size w W') => may_as (below_ok W' la ln lc A (gA.on hb).heads ra lb lm ld B (gB.on hb).heads rb (by have := gA.len; omega) (by have := gB.len; omega) gA.ok gB.ok) hbl)
          have KMY := Lib.hid (fun W' (hb : Below w.heap.size w W') => may_as (may_gok (lc := lc) (ld := ld) (gA.on hb) (gB.on hb)) hmm)
          have KQA := Lib.hid (fun W' (hb : Below w.heap.size w W') => may_as (plain_c W' la ln lc ra A (gA.on hb) true) hq)
          have KTD := Lib.hid (fun W' (hb : Below w.heap.size w W') => may_as (todyn_ok W' la ln lc ra A (gA.on hb)) htd)
          have KFD := Lib.hid (fun W' (hb : Below w.heap.size w W') => may_as (fromdyn_ok W' la ln lc ra A (gA.on hb)) hfd)
          have KMS := Lib.hid (fun W' (hb : Below w.heap.size w W') => may_as (may_gok (lc := lc) (ld := lc) (gA.on hb) (gA.on hb)) (b := true) ⟨fun _ => may_self gA.oks sA.1, fun _ => rfl⟩)
          have e1 : pa = true → pb = true → bl = true → mm = true := fun h1 h2 h3 => hmm.2 (may_below gA.oks gB.oks sA.1 sB.1 (hpa.1 h1) (hpb.1 h2) (hbl.1 h3))
          have e2 : q = true → td = true ∧ fd = true := fun h => ⟨htd.2 (may_todyn gA.oks sA.1 (hq.1 h)), hfd.2 (may_fromdyn gA.oks sA.1 (hq.1 h))⟩
          clear hpa hpb hbl hmm hq htd hfd
          exact ab_all w la ln lc ra lb lm ld rb pa pb bl mm q td fd e1 e2 KL KFA KFB KRA KRB KPA KPB KBL KMY KQA KTD KFD KMS
end Go.Proofs.YtifilhkkgkihpaaGreatDoor
