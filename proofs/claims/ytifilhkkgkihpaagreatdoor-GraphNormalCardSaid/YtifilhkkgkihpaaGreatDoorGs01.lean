/- Walks: ref08.digits, ref08.Bytes. -/
import Derived.Test.YtifilhkkgkihpaaGreatDoorGr17
import Derived.Test.YtifilhkkgkihpaaGreatDoorGr22
set_option linter.unusedSimpArgs false
set_option linter.unusedVariables false
set_option linter.unusedSimpArgs false
set_option linter.unusedVariables false
namespace Go.Proofs.YtifilhkkgkihpaaGreatDoor
open Go.RowKit
def digS : ByteArray := ⟨#[48, 49, 50, 51, 52, 53, 54, 55, 56, 57]⟩
theorem dig_lo_all : ((List.range 10).all fun k => (digS.extract k (k + 1) ++ ⟨#[]⟩).data.toList == decL k) = true := by decide +kernel
theorem dig_hi_all : ((List.range 100).all fun k => k < 10 || (digS.extract (k / 10) (k / 10 + 1) ++ (digS.extract (k % 10) (k % 10 + 1) ++ ⟨#[]⟩)).data.toList == decL k) = true := by decide +kernel
def DigPost (w : World) (k : Nat) (e : Ending) (w' : World) : Prop := ∃ s : ByteArray, e = .returned (.string s) ∧ s.data.toList = decL k ∧ w = w'
set_option maxRecDepth 20000 in
set_option maxHeartbeats 2000000 in
theorem digits_lo (k : Nat) (hk : k < 10) (w : World) : Calls Tryz.prog 78 #[.int .i64 (k : Int)] w (DigPost w k) := by
  have h1 : (k : Int).tmod 10 = k := by rw [Int.tmod_eq_emod_of_nonneg (by omega)]; omega
  have h2 : (k : Int).tdiv 10 = 0 := by rw [Int.tdiv_eq_ediv_of_nonneg (by omega)]; omega
  have HD := Lib.hid (by simpa using List.all_eq_true.1 dig_lo_all k (List.mem_range.2 hk) : (digS.extract k (k + 1) ++ ⟨#[]⟩).data.toList = decL k)
  go_enter Tryz.func78, Tryz.ntmps78
  go_wp2
  go_loop [0, 3] (fun s0 s3 => s0 = .int .i64 (k : Int) ∧ s3 = .string ⟨#[]⟩) (fun _ _ => 0)
  case atStart => exact ⟨rfl, rfl⟩
  case round =>
    obtain ⟨rfl, rfl⟩ := hrel
    go_wp2
    go_ret
    exact ⟨_, rfl, HD.out, rfl⟩
set_option maxRecDepth 20000 in
set_option maxHeartbeats 2000000 in
theorem digits_hi (k : Nat) (h10 : 10 ≤ k) (hk : k < 100) (w : World) : Calls Tryz.prog 78 #[.int .i64 (k : Int)] w (DigPost w k) := by
  have HD := Lib.hid (by
    have := List.all_eq_true.1 dig_hi_all k (List.mem_range.2 hk)
    simp only [Bool.or_eq_true, decide_eq_true_eq, beq_iff_eq] at this
    exact this.resolve_left (by omega) : (digS.extract (k / 10) (k / 10 + 1) ++ (digS.extract (k % 10) (k % 10 + 1) ++ ⟨#[]⟩)).data.toList = decL k)
  obtain ⟨a, ha⟩ : ∃ a, k / 10 = a := ⟨_, rfl⟩
  obtain ⟨b, hb⟩ : ∃ b, k % 10 = b := ⟨_, rfl⟩
  have h1 : (k : Int).tmod 10 = b := by rw [Int.tmod_eq_emod_of_nonneg (by omega)]; omega
  have h2 : (k : Int).tdiv 10 = a := by rw [Int.tdiv_eq_ediv_of_nonneg (by omega)]; omega
  have h3 : (a : Int).tmod 10 = a := by rw [Int.tmod_eq_emod_of_nonneg (by omega)]; omega
  have h4 : (a : Int).tdiv 10 = 0 := by rw [Int.tdiv_eq_ediv_of_nonneg (by omega)]; omega
  have ha10 : a < 10 := by omega
  have hb10 : b < 10 := by omega
  have ha0 : ¬ (a : Int) = 0 := by omega
  rw [ha, hb] at HD
  clear ha hb
  go_enter Tryz.func78, Tryz.ntmps78
  go_wp2
  go_loop [0, 3] (fun s0 s3 => (s0 = .int .i64 (k : Int) ∧ s3 = .string ⟨#[]⟩) ∨ (s0 = .int .i64 (a : Int) ∧ s3 = .string (digS.extract b (b + 1) ++ ⟨#[]⟩))) (fun s0 _ => (intOf s0).toNat)
  case atStart => exact .inl ⟨rfl, rfl⟩
  case round =>
    rcases hrel with ⟨rfl, rfl⟩ | ⟨rfl, rfl⟩
    · go_wp2
      go_round
      case rel => exact .inr ⟨rfl, rfl⟩
      case measure => simp [intOf]; omega
    · go_wp2
      go_ret
      exact ⟨_, rfl, HD.out, rfl⟩
theorem digits_any (k : Nat) (hk : k < 100) (w : World) : Calls Tryz.prog 78 #[.int .i64 (k : Int)] w (DigPost w k) := by
  by_cases h : k < 10
  · exact digits_lo k h w
  · exact digits_hi k (by omega) hk w
def RBytesPost (w : World) (OS : List Hd) (e : Ending) (w' : World) : Prop := ∃ s : ByteArray, e = .returned (.string s) ∧ s.data.toList = bytesL OS ∧ Below w.heap.size w w'
theorem kind_slice : ((List.range 10).all fun k => ((⟨#[105, 98, 115, 102, 100, 42, 33, 62, 123, 91]⟩ : ByteArray).extract k (k + 1)).data.toList == [kindL.getD k 0]) = true := by decide +kernel
set_option maxRecDepth 20000 in
set_option maxHeartbeats 8000000 in
theorem rbytes_ok (w : World) (la : Option Addr) (n lc : Nat) (r : Int) (OS : List Hd) (hH : HeadsIn w la n OS) (hl : n ≤ 100) (hone : ∀ x ∈ OS, OneOk x) (hfew : ∀ x ∈ OS, FewV x) :
    Calls Tryz.prog 43 #[.agg #[.slice la n lc, .int .i64 r]] w (RBytesPost w OS) := by
  have HX1 : Hid ((w.alloc (.cells #[.slice la n lc, .int .i64 r] 36)).heap[w.heap.size]? = some (.cells #[.slice la n lc, .int .i64 r] 36 (0, 0))) := Lib.hid (heap_alloc_new w _)
  have HB1 : Hid (Below w.heap.size w (w.alloc (.cells #[.slice la n lc, .int .i64 r] 36))) := Lib.hid ((Below.refl _ _).alloc (Nat.le_refl _) _)
  have HH := Lib.hid (hH.on HB1.out)
  have HONE := Lib.hid hone
  have HFEW := Lib.hid hfew
  have HN := Lib.hid hH.1
  clear hH hone hfew
  go_enter Tryz.func43, Tryz.ntmps43
  go_upto_region 1 with (fail)
  generalize (w.alloc (.cells #[.slice la n lc, .int .i64 r] 36)) = w1 at *
  have a0 : w1.cell? ⟨w.heap.size, 0, none⟩ = some (.slice la n lc) := (by rw [cell_of_row _ _ 0 _ 36 _ HX1.out]; rfl)
  go_upto_region 3 with (fail)
  clear a0
  go_loopw [12, 3] (fun s12 s3 wr => ∃ (i : Nat) (s : ByteArray), i ≤ n ∧ s12 = .int .i64 (i : Int) ∧ s3 = .string s ∧ Hid (s.data.toList = bytesL (OS.take i)) ∧ Hid (Below w1.heap.size w1 wr)) (fun s12 _ _ => n - (intOf s12).toNat)
  case atStart => exact ⟨0, ⟨#[]⟩, Nat.zero_le _, rfl, rfl, Lib.hid rfl, Lib.hid (Below.refl _ _)⟩
  case round =>
    obtain ⟨i, s0, hi, rfl, rfl, HS0, HBR⟩ := hrel
    obtain ⟨w4, rfl⟩ : ∃ w4 : World, w4 = wr := ⟨_, rfl⟩
    have hwi : IntKind.i64.wrap ((i : Int) + 1) = (i : Int) + 1 := by rw [IntKind.wrap_i64]; omega
    have hs0 : s0.size ≤ i * 1300 := by
      rw [← bs_size, HS0.out]
      have := bytesL_len (OS := OS.take i) (fun x hx => HFEW.out x (List.mem_of_mem_take hx))
      have h2 : (OS.take i).length ≤ i := by simp; omega
      exact Nat.le_trans this (Nat.mul_le_mul_right _ h2)
    by_cases hin : i < n
    · have hin2 : (i : Int) < n := by omega
      obtain ⟨x, hx⟩ : ∃ x, OS[i]? = some x := ⟨_, List.getElem?_eq_getElem (by rw [← HN.out]; exact hin)⟩
      have HXX := Lib.hid hx
      obtain ⟨g0, o0, he0, _, hc0⟩ := HH.out.2.resolve_left (by omega)
      have HXO : Hid (HdOk w1 x) := Lib.hid (hc0 i x hx).ok
      obtain ⟨g, o, he, hgl, hc⟩ := (HH.out.on HBR.out).2.resolve_left (by omega)
      obtain ⟨c0, c1, c2, c3', _⟩ := hc i x hx
      have HON := Lib.hid (HONE.out x (List.mem_of_getElem? hx))
      have HFX := Lib.hid (HFEW.out x (List.mem_of_getElem? hx))
      clear hc hc0 he0 hx hgl
      subst he
      go_upto_region 5 with (fail)
      clear c0 c1 c2 c3'
      have HY : Hid ((w4.alloc (.cells #[.int .i64 x.kd, .slice x.na x.nn x.nc, .slice x.ka x.kn x.kc, .bool x.op] 33)).heap[w4.heap.size]? = some (.cells #[.int .i64 x.kd, .slice x.na x.nn x.nc, .slice x.ka x.kn x.kc, .bool x.op] 33 (0, 0))) := Lib.hid (heap_alloc_new w4 _)
      have HBY : Hid (Below w1.heap.size w1 (w4.alloc (.cells #[.int .i64 x.kd, .slice x.na x.nn x.nc, .slice x.ka x.kn x.kc, .bool x.op] 33))) := Lib.hid (HBR.out.alloc HBR.out.size _)
      generalize (w4.alloc (.cells #[.int .i64 x.kd, .slice x.na x.nn x.nc, .slice x.ka x.kn x.kc, .bool x.op] 33)) = w5 at *
      have b0 : w5.cell? ⟨w4.heap.size, 0, none⟩ = some (.int .i64 x.kd) := (by rw [cell_of_row _ _ 0 _ 33 _ HY.out]; rfl)
      have b1 : w5.cell? ⟨w4.heap.size, 1, none⟩ = some (.slice x.na x.nn x.nc) := (by rw [cell_of_row _ _ 1 _ 33 _ HY.out]; rfl)
      have b2 : w5.cell? ⟨w4.heap.size, 2, none⟩ = some (.slice x.ka x.kn x.kc) := (by rw [cell_of_row _ _ 2 _ 33 _ HY.out]; rfl)
      have b3 : w5.cell? ⟨w4.heap.size, 3, none⟩ = some (.bool x.op) := (by rw [cell_of_row _ _ 3 _ 33 _ HY.out]; rfl)
      have hkd : 0 ≤ x.kd ∧ x.kd ≤ 9 := by obtain ⟨n, _, h⟩ := HON.out; exact (head_kind h).1
      obtain ⟨q, hq⟩ : ∃ q : Nat, x.kd = (q : Int) := ⟨x.kd.toNat, by omega⟩
      have hq9 : q ≤ 9 := by omega
      have HQS : Hid (((⟨#[105, 98, 115, 102, 100, 42, 33, 62, 123, 91]⟩ : ByteArray).extract q (q + 1)).data.toList = [kindL.getD q 0]) := Lib.hid (by simpa using List.all_eq_true.1 kind_slice q (List.mem_range.2 (by omega)))
      have HQ := Lib.hid hq
      have HKN : Hid (x.kn = x.KS.length ∧ x.nn = x.NS.length) := Lib.hid ⟨HXO.out.kids.1, HXO.out.names.1⟩
      have hkn : x.kn ≤ 20 := by rw [HKN.out.1]; exact HFX.out.2.1
      rw [hq] at b0 HY
      clear hq hkd
      obtain ⟨l0, hl0⟩ : ∃ l0, l0 = bytesL (OS.take i) ++ (signHead x.kd x.op).data.toList := ⟨_, rfl⟩
      have HL0 : Hid (l0.length ≤ i * 1300 + 1) := Lib.hid (by rw [hl0, List.length_append, signHead_list, ← HS0.out, bs_size]; simp; omega)
      have HL0E := Lib.hid hl0
      have HEX : Hid (((⟨#[105, 98, 115, 102, 100, 42, 33, 62, 123, 91]⟩ : ByteArray).extract q (q + 1)).size = 1) := Lib.hid (by rw [← bs_size, HQS.out]; rfl)
      have hi100 : i * 1300 ≤ 130000 := by omega
      have hs1 : s0.size ≤ 130000 := by omega
      have hs2 : (s0.size : Int) ≤ 130000 := by omega
      have hq2 : (q : Int) ≤ 9 := by omega
      clear hs0 hl0
      have HST : Hid (∀ sh : ByteArray, sh.data.toList = (signHead x.kd x.op).data.toList → (s0 ++ sh).data.toList = l0 ++ kidsL x.NS 0 (x.KS.take 0)) := Lib.hid (fun sh h => by rw [app_list, h, HS0.out, HL0E.out]; simp [kidsL])
      obtain ⟨op, hop⟩ : ∃ op, x.op = op := ⟨_, rfl⟩
      have HOP := Lib.hid hop
      rw [hop] at b3 HY
      clear hop
      cases op
      all_goals
        have HS1 : Hid ((s0 ++ (if x.op then ⟨#[93]⟩ else (⟨#[105, 98, 115, 102, 100, 42, 33, 62, 123, 91]⟩ : ByteArray).extract q (q + 1))).data.toList = l0 ++ kidsL x.NS 0 (x.KS.take 0)) := Lib.hid (HST.out _ (by
          rw [HQ.out, signHead_list, HOP.out]
          first | exact HQS.out | rfl))
        rw [HOP.out] at HS1
        simp only [if_true, if_false, Bool.false_eq_true] at HS1
        have hexs := HEX.out
        go_upto_region 10 with (fail)
        clear b0 b2 b3 hexs
        have HB1C := Lib.hid b1
        go_loopw [30, 3] (fun s30 s3 wr => ∃ (j : Nat) (cur : ByteArray), j ≤ x.kn ∧ s30 = .int .i64 (j : Int) ∧ s3 = .string cur ∧ Hid (cur.data.toList = l0 ++ kidsL x.NS 0 (x.KS.take j)) ∧ Hid (Below w1.heap.size w1 wr) ∧ Hid (wr.cell? ⟨w4.heap.size, 1, none⟩ = some (.slice x.na x.nn x.nc))) (fun s30 _ _ => x.kn - (intOf s30).toNat)
        case atStart => exact ⟨0, _, Nat.zero_le _, rfl, rfl, HS1, HBY, Lib.hid b1⟩
        case round =>
          clear HS1
          clear HBY b1 HB1C
          obtain ⟨j, cur, hj, rfl, rfl, HC, HBY, HB1C⟩ := hrel
          obtain ⟨w5', rfl⟩ : ∃ w5' : World, w5' = wr := ⟨_, rfl⟩
          have b1 := HB1C.out
          have hwj : IntKind.i64.wrap ((j : Int) + 1) = (j : Int) + 1 := by rw [IntKind.wrap_i64]; omega
          have hcs : cur.size ≤ i * 1300 + 1 + j * 64 := by
            rw [← bs_size, HC.out, List.length_append]
            have h1 := HL0.out
            have h2 := kidsL_len HFX.out.1 (x.KS.take j) 0
            have h3 : (x.KS.take j).length ≤ j := by simp; omega
            have h4 := Nat.mul_le_mul_right 64 h3
            omega
          have hcs1 : cur.size ≤ 140000 := by omega
          have hcs2 : (cur.size : Int) ≤ 140000 := by omega
          clear hcs
          by_cases hjk : j < x.kn
          · have hjk2 : (j : Int) < x.kn := by omega
            obtain ⟨q, hq⟩ : ∃ q, x.KS[j]? = some q := ⟨_, List.getElem?_eq_getElem (by rw [← HKN.out.1]; exact hjk)⟩
            have HQ2 := Lib.hid hq
            have hqr := HON.out.kids q (List.mem_of_getElem? hq)
            obtain ⟨k, rfl⟩ : ∃ k : Nat, q = (k : Int) := ⟨q.toNat, (Int.toNat_of_nonneg hqr.1).symm⟩
            have HK9 : Hid (k < 100) := Lib.hid (by omega)
            obtain ⟨gk, ok, hke, hgk, hck⟩ := (HXO.out.kids.on HBY.out).2.resolve_left (by omega)
            have kc := hck j _ hq
            clear hck hq hqr hgk
            have HNN := Lib.hid HON.out.names
            generalize x.ka = ka at *
            subst hke
            rcases Nat.eq_zero_or_pos x.nn with h0 | h0
            · have h0' : ¬ (0 : Int) < x.nn := by omega
              have HNE : Hid (x.NS[j]? = none) := Lib.hid (List.getElem?_eq_none (by have := HKN.out.2; omega))
              clear h0
              go_wp2_with (go_at_call 78; (with_reducible refine (digits_any k HK9.out _).mono ?_); rintro e w9 ⟨ds, rfl, hds, rfl⟩; have HDS := Lib.hid hds; have hdz : ds.size ≤ 2 := (by rw [← bs_size, hds]; exact decL_len k); have hdz2 : (ds.size : Int) ≤ 2 := (by omega); clear hds)
              go_roundw
              case rel => exact ⟨j + 1, _, by omega, by go_num, rfl, Lib.hid (by
                rw [kidsL_step HQ2.out]
                unfold kidL
                rw [HNE.out, app_list, app_list, HC.out, HDS.out]
                simp [List.append_assoc]), HBY, HB1C⟩
              case measure => simp [intOf]; omega
            · have h0' : (0 : Int) < x.nn := by omega
              obtain ⟨s, hs⟩ : ∃ s, x.NS[j]? = some s := ⟨_, List.getElem?_eq_getElem (by
                have h1 := HKN.out
                rcases HNN.out with h2 | h2
                · rw [h2] at h1; simp at h1; omega
                · omega)⟩
              have HSS := Lib.hid hs
              have hsz : s.size ≤ 60 := HFX.out.1 s (List.mem_of_getElem? hs)
              have hsz2 : (s.size : Int) ≤ 60 := by omega
              have hjn : j < x.nn := by rw [HKN.out.2]; exact (List.getElem?_eq_some_iff.1 hs).1
              have hjn2 : (j : Int) < x.nn := by omega
              obtain ⟨gn, on, hne, hgn, hcn⟩ := (HXO.out.names.on HBY.out).2.resolve_left (by omega)
              have nc := hcn j s hs
              clear hcn hs hgn
              generalize x.na = na at *
              subst hne
              go_wp2_with (go_at_call 78; (with_reducible refine (digits_any k HK9.out _).mono ?_); rintro e w9 ⟨ds, rfl, hds, rfl⟩; have HDS := Lib.hid hds; have hdz : ds.size ≤ 2 := (by rw [← bs_size, hds]; exact decL_len k); have hdz2 : (ds.size : Int) ≤ 2 := (by omega); clear hds)
              go_roundw
              case rel => exact ⟨j + 1, _, by omega, by go_num, rfl, Lib.hid (by
                rw [kidsL_step HQ2.out]
                unfold kidL
                rw [HSS.out, app_list, app_list, app_list, app_list, HC.out, HDS.out]
                simp [List.append_assoc]), HBY, HB1C⟩
              case measure => simp [intOf]; omega
          · have hjk2 : ¬ (j : Int) < x.kn := by omega
            obtain rfl : j = x.kn := by omega
            have HTK : Hid (x.KS.take x.kn = x.KS) := Lib.hid (List.take_of_length_le (by rw [HKN.out.1]; exact Nat.le_refl _))
            rw [HTK.out] at HC
            go_wp2
            go_roundw
            case rel => exact ⟨i + 1, _, by omega, by go_num, rfl, Lib.hid (by
              rw [app_list, HC.out, HL0E.out, bytesL_step HXX.out]
              unfold rowL
              simp [List.append_assoc]), HBY⟩
            case measure => simp [intOf]; omega
    · have hin2 : ¬ (i : Int) < n := by omega
      obtain rfl : i = n := by omega
      have HTK : Hid (OS.take i = OS) := Lib.hid (List.take_of_length_le (by rw [← HN.out]; exact Nat.le_refl _))
      rw [HTK.out] at HS0
      go_wp2
      go_ret
      exact ⟨s0, rfl, HS0.out, HB1.out.trans (HBR.out.mono HB1.out.size)⟩
end Go.Proofs.YtifilhkkgkihpaaGreatDoor
