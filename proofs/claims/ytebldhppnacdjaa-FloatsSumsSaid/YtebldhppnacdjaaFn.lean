/- Walks: the reference's Round. -/
import Derived.Test.YtebldhppnacdjaaFh
import Derived.Test.YtebldhppnacdjaaFk
import Derived.Deep.LoopGhost
import Derived.Deep.DeepCutAuto
import Derived.Deep.CutBlock
set_option linter.unusedVariables false
namespace Go.Proofs.Ytebldhppnacdjaa
open Go.RowKit
def sg (s : Bool) : Nat := if s then 9223372036854775808 else 0
set_option maxRecDepth 100000 in
set_option maxHeartbeats 1000000 in
theorem round_zero (s : Bool) (v : Value) (e : Int) (more : Bool) (w : World) (hv : Rd w v []) :
    Calls Try.prog 28 #[.bool s, v, .int .i64 e, .bool more] w fun r w' => r = .returned (.int .u64 (sg s : Int)) ∧ w = w' := by
  obtain ⟨b, off, cap, rfl, -, -, -, -⟩ := hv
  cases s
  all_goals
    go_enter Try.func28, Try.ntmps28
    go_wp2
    go_ret
    exact ⟨rfl, rfl⟩
/-- the second part: what is kept is rounded, and put together. -/
def Norm (low : Int) (K1 : Nat) (low2 : Int) (K2 : Nat) : Prop := (low2 = low ∧ K2 = K1 ∧ K1 < 2 ^ 53) ∨ (low2 = low + 1 ∧ K2 = 2 ^ 52 ∧ K1 = 2 ^ 53)
theorem half_bit (a j : Nat) : a * 2 / 2 ^ (j + 1) = a / 2 ^ j := by rw [Nat.pow_succ, Nat.mul_div_mul_right _ _ (by decide)]
set_option maxRecDepth 100000 in
set_option maxHeartbeats 2000000 in
theorem round_pos (s : Bool) (v : Value) (n : Nat) (e : Int) (more : Bool) (hn : n ≠ 0) (he1 : -20000 ≤ e) (he2 : e ≤ 20000) (hlen : (Fl.dg n).length ≤ 20000) (w : World) (hv : Rd w v (Fl.dg n)) :
    Calls Try.prog 28 #[.bool s, v, .int .i64 e, .bool more] w fun r w' => r = .returned (.int .u64 (Fl.roundF s n e more : Int)) ∧ Below w.heap.size w w' := by
  obtain ⟨b, off, cap, rfl, hc1, -, hbw, hcells⟩ := hv
  have HCells := Lib.hid hcells
  clear hcells
  obtain ⟨L, hL⟩ : ∃ L, L = (Fl.dg n).length := ⟨_, rfl⟩
  obtain ⟨low, hlow⟩ : ∃ l, l = Fl.rlow n e := ⟨_, rfl⟩
  have hlow2 : low = max ((L : Int) + e - 53) (-1074) := by rw [hlow, hL]; rfl
  have hL1 : 1 ≤ L := by rw [hL, Fl.dg_length, if_neg hn]; omega
  obtain ⟨D, hD⟩ : ∃ D, D = Fl.rdn n e := ⟨_, rfl⟩
  have hD2 : D = (low - e).toNat := by rw [hD, hlow]; rfl
  have HN := Lib.hid hn
  have HLow := Lib.hid hlow
  have HD := Lib.hid hD
  rw [← hL] at HCells hlen hc1 ⊢
  have HL := Lib.hid hL
  clear hL hlow hn hD
  go_enter Try.func28, Try.ntmps28
  go_upto_if 17 with (fail)
  go_cut [9] (fun v wc => w = wc ∧ v = .int .u64 (sg s : Int))
  case first =>
    cases s
    all_goals
      go_wp2
      go_meet
      case rel => exact ⟨rfl, rfl⟩
  case rest =>
    obtain ⟨rfl, rfl⟩ := hcut
    have hL0 : ((L : Int) == 0) = false := by simp; omega
    go_upto_region 6 with (fail)
    go_cut [10] (fun v wc => w = wc ∧ v = .int .i64 low)
    case first =>
      by_cases hm : (L : Int) + e - 53 < -1074
      · have hl : low = -1074 := by omega
        have HH := Lib.hid hl
        clear hlow2 hD2 hl
        go_wp2
        go_meet
        case rel => exact ⟨rfl, by rw [HH.out]⟩
      · have hl : (L : Int) + e - 53 = low := by omega
        clear hlow2 hD2
        go_wp2
        go_meet
        case rel => exact ⟨rfl, rfl⟩
    case rest =>
      obtain ⟨rfl, rfl⟩ := hcut
      have hb1 : -1074 ≤ low := by omega
      have hb2 : low ≤ 40000 := by omega
      have HO := Lib.hid (Ow_empty w w.heap.size (Nat.le_refl _))
      have HD2 := Lib.hid hD2
      have hD3 : low - e ≤ (D : Int) := by omega
      have hD4 : 1 ≤ D → (D : Int) = low - e := by omega
      have HD4 := Lib.hid hD4
      clear hlow2 hD2 hD4
      go_wp2
      go_loopw [11, 12, 13, 32] (fun kp hf rs i wr => ∃ (k : Nat) (hb rb : Bool), k ≤ L ∧ i = .int .i64 k ∧ hf = .bool hb ∧ rs = .bool rb ∧ Hid (hb = Fl.rhalf n D k ∧ rb = Fl.rrest more n D k) ∧ Ow wr w.heap.size kp (((Fl.dg n).take k).drop D) ∧ Below w.heap.size w wr ∧ w.heap.size ≤ wr.heap.size) (fun _ _ _ i _ => L - (intOf i).toNat)
      case atStart => exact ⟨0, false, more, by omega, rfl, rfl, rfl, Lib.hid ⟨by simp [Fl.rhalf], by simp [Fl.rrest, Nat.mod_one]⟩, by simpa using HO.out, (Below.refl _ _).alloc (Nat.le_refl _) _, by simp⟩
      case round =>
        obtain ⟨k, hb, rb, hk, rfl, rfl, rfl, HB, hown, hbel, hsz⟩ := hrel
        by_cases hlt : k < L
        · obtain ⟨x, hx⟩ : ∃ x : Nat, n / 2 ^ k % 2 = x := ⟨_, rfl⟩
          have hcell : wr.cell? ⟨b, off + k, none⟩ = some (.int .u8 (x : Int)) := by
            rw [← hx, ← Fl.dg_getD, ← HCells.out k hlt]
            exact hbel.cell (p := ⟨b, off + k, none⟩) hbw
          have hx1 : x = 0 ∨ x = 1 := by omega
          have HX := Lib.hid hx
          obtain ⟨xb, hxb⟩ : ∃ xb, ((x : Int) == 1) = xb := ⟨_, rfl⟩
          have HXB : Hid ((n / 2 ^ k % 2 == 1) = xb) := Lib.hid (by rw [hx, ← hxb, Bool.eq_iff_iff]; simp; omega)
          clear hx
          by_cases c1 : D ≤ k
          · have hge : low ≤ (k : Int) + e := by omega
            have HT : Hid (((Fl.dg n).take (k + 1)).drop D = ((Fl.dg n).take k).drop D ++ [(x : Int)]) := Lib.hid (by
              rw [Fl.take_snoc (by rw [← HL.out]; exact hlt), Fl.dg_getD, HX.out, List.drop_append_of_le_length (by rw [List.length_take, ← HL.out]; omega)])
            have HB2 : Hid (hb = Fl.rhalf n D (k + 1) ∧ rb = Fl.rrest more n D (k + 1)) := Lib.hid ⟨by rw [Fl.rhalf_keep c1]; exact HB.out.1, by rw [Fl.rrest_keep (by omega)]; exact HB.out.2⟩
            have HLL : Hid ((((Fl.dg n).take k).drop D).length + [(x : Int)].length ≤ 100000) := Lib.hid (by simp; omega)
            clear c1 hD3 hxb
            go_wp2_with (at_builtin; refine wpList_append_O rfl _ _ 48 rfl w.heap.size Try.underlying48 _ _ rfl (hown.alloc _) _ [(x : Int)] rfl (Rd_one _ _) (by simp; omega) HLL.out ?_; intro v' w' hown' hbel' hsz')
            rw [← HT.out] at hown'
            have hbel2 : Below w.heap.size w w' := (hbel.alloc hsz _).trans hbel'
            clear hown hbel hbel' hcell
            go_wp2
            go_roundw
            case rel => exact ⟨k + 1, hb, rb, by omega, by go_num, rfl, rfl, HB2, hown', hbel2, hsz'⟩
            case measure => simp [intOf]; omega
          · have he : ((Fl.dg n).take (k + 1)).drop D = [] := List.drop_eq_nil_of_le (by rw [List.length_take]; omega)
            have he2 : ((Fl.dg n).take k).drop D = [] := List.drop_eq_nil_of_le (by rw [List.length_take]; omega)
            rw [he2, ← he] at hown
            have hD5 := HD4.out (by omega)
            by_cases c2 : D = k + 1
            · have hge : ¬ low ≤ (k : Int) + e := by omega
              have t1 : ((k : Int) + e == low - 1) = true := by simp; omega
              have HB2 : Hid (xb = Fl.rhalf n D (k + 1) ∧ rb = Fl.rrest more n D (k + 1)) := Lib.hid ⟨by rw [Fl.rhalf_at c2, HXB.out], by rw [Fl.rrest_keep (by omega)]; exact HB.out.2⟩
              clear c1 c2 hD3 hD5 he he2
              go_wp2
              go_roundw
              case rel => exact ⟨k + 1, xb, rb, by omega, by go_num, rfl, rfl, HB2, hown, hbel, hsz⟩
              case measure => simp [intOf]; omega
            · have hge : ¬ low ≤ (k : Int) + e := by omega
              have t1 : ((k : Int) + e == low - 1) = false := by simp; omega
              have hb0 : hb = false := by
                rw [HB.out.1]; unfold Fl.rhalf; rw [show decide (D - 1 < k) = false by simp; omega]; simp
              have HB2 : Hid (hb = Fl.rhalf n D (k + 1) ∧ (rb || xb) = Fl.rrest more n D (k + 1)) := Lib.hid ⟨by rw [Fl.rhalf_no (by omega)]; exact hb0, by rw [Fl.rrest_more (by omega), HXB.out, HB.out.2]⟩
              clear c1 c2 hD3 hD5 he he2 hb0 HB
              cases rb
              · go_wp2
                go_roundw
                case rel => exact ⟨k + 1, hb, xb, by omega, by go_num, rfl, rfl, HB2, hown, hbel, hsz⟩
                case measure => simp [intOf]; omega
              · go_wp2
                go_roundw
                case rel => exact ⟨k + 1, hb, true, by omega, by go_num, rfl, rfl, HB2, hown, hbel, hsz⟩
                case measure => simp [intOf]; omega
        · have hkL : k = L := by omega
          have heq : ((Fl.dg n).take k).drop D = Fl.dg (n / 2 ^ D) := by rw [List.take_of_length_le (by rw [← HL.out]; omega), Fl.drop_dg]
          rw [heq] at hown
          have hown2 := hown
          clear heq
          have HB2 : Hid (hb = Fl.rhalf n D (Fl.dg n).length ∧ rb = Fl.rrest more n D (Fl.dg n).length) := Lib.hid (by rw [← HL.out, ← hkL]; exact HB.out)
          obtain ⟨K0, hK0⟩ : ∃ K0, K0 = Fl.rk0 n e := ⟨_, rfl⟩
          have hK0lt : K0 < 2 ^ 53 := by rw [hK0]; exact Fl.rk0_lt HN.out
          have HK0 := Lib.hid hK0
          clear hown HB hkL hK0 hD3
          go_upto_if 71 with (fail)
          go_cut [11] (fun v wc => ∃ l : List Int, Ow wc w.heap.size v l ∧ Hid (Fl.Bits l ∧ Fl.vl l = K0) ∧ l.length ≤ 90000 ∧ Below w.heap.size w wc ∧ w.heap.size ≤ wc.heap.size)
          case first =>
            by_cases hup : low < e
            · obtain ⟨U, hU⟩ : ∃ U : Nat, e - low = U := ⟨(e - low).toNat, by omega⟩
              have hD0 : D = 0 := by rw [HD2.out]; omega
              have hmk := make_run U (by omega)
              have HM := Lib.hid (Ow_make wr w.heap.size hsz U (by omega))
              have hl2 : (Fl.dg (n / 2 ^ D)).length ≤ 20000 := by rw [hD0, Nat.pow_zero, Nat.div_one, ← HL.out]; exact hlen
              have HLL : Hid ((List.replicate U (0 : Int)).length + (Fl.dg (n / 2 ^ D)).length ≤ 100000) := Lib.hid (by rw [List.length_replicate]; omega)
              have HF : Hid (Fl.Bits (List.replicate U 0 ++ Fl.dg (n / 2 ^ D)) ∧ Fl.vl (List.replicate U 0 ++ Fl.dg (n / 2 ^ D)) = K0) := Lib.hid ⟨Fl.bits_append (Fl.bits_zeros U) (Fl.bits_dg _), by
                rw [Fl.vl_shift, HK0.out]
                unfold Fl.rk0
                rw [← HD.out, hD0, Nat.pow_zero, Nat.div_one, Nat.div_one]
                have : Fl.rup n e = U := by unfold Fl.rup; rw [← HLow.out, hU]; simp
                rw [this]⟩
              have HLen : Hid ((List.replicate U (0 : Int) ++ Fl.dg (n / 2 ^ D)).length ≤ 90000) := Lib.hid (by rw [List.length_append, List.length_replicate]; omega)
              have hrd := hown2.rd (by omega)
              have HRD := Lib.hid hrd
              clear hrd hl2 hD0
              go_wp2_with (at_builtin; refine wpList_append_O rfl _ _ 48 rfl w.heap.size Try.underlying48 _ _ rfl HM.out _ (Fl.dg (n / 2 ^ D)) rfl (HRD.out.alloc _) (by simp; omega) HLL.out ?_; intro v' w' hown' hbel' hsz')
              have hbel2 : Below w.heap.size w w' := (hbel.alloc hsz _).trans hbel'
              go_meet
              case rel => exact ⟨_, hown', HF, HLen.out, hbel2, hsz'⟩
            · have HF : Hid (Fl.Bits (Fl.dg (n / 2 ^ D)) ∧ Fl.vl (Fl.dg (n / 2 ^ D)) = K0) := Lib.hid ⟨Fl.bits_dg _, by
                rw [Fl.vl_dg, HK0.out]
                unfold Fl.rk0
                have : Fl.rup n e = 0 := by unfold Fl.rup; rw [← HLow.out]; omega
                rw [this, ← HD.out, Nat.pow_zero, Nat.mul_one]⟩
              have HLen : Hid ((Fl.dg (n / 2 ^ D)).length ≤ 90000) := Lib.hid (by
                rw [← Fl.drop_dg, List.length_drop, ← HL.out]; omega)
              go_wp2
              go_meet
              case rel => exact ⟨_, hown2, HF, HLen.out, hbel, hsz⟩
          case rest =>
            obtain ⟨l, hown3, HF, hl9, hbel3, hsz3⟩ := hcut
            have hrd := hown3.rd (by omega)
            have ht := trim_any _ _ HF.out.1 wc hrd
            rw [HF.out.2] at ht
            have HT := Lib.hid ht
            clear ht hrd hown3 hown2 hbel hsz HF hl9
            obtain ⟨rr, hrr⟩ : ∃ rr, rr = Fl.rround more n e := ⟨_, rfl⟩
            have HR : Hid (rr = (hb && (rb || K0 % 2 == 1))) := Lib.hid (by
              rw [hrr]; unfold Fl.rround; rw [← HD.out, ← HB2.out.1, ← HB2.out.2, ← HK0.out])
            have HRR := Lib.hid hrr
            clear hrr
            go_upto_region 21 with (go_at_call 39; ((with_reducible refine HT.out.mono ?_); rintro e w' ⟨⟨v', rfl, hv'⟩, rfl⟩))
            go_cut [88] (fun v wd => wc = wd ∧ v = .bool rr)
            case first =>
              have hbit := bit_any v' (Fl.dg K0) 0 (by omega) wc hv'
              rw [show (0 : Int).toNat = 0 from rfl, Fl.dg_getD, Nat.pow_zero, Nat.div_one] at hbit
              obtain ⟨x, hx⟩ : ∃ x, K0 % 2 = x := ⟨_, rfl⟩
              rw [hx] at hbit
              have hxb : ((x : Int) == 1) = (K0 % 2 == 1) := by rw [hx, Bool.eq_iff_iff]; simp; omega
              obtain ⟨xb, hxb2⟩ : ∃ xb, (K0 % 2 == 1) = xb := ⟨_, rfl⟩
              rw [hxb2] at hxb
              have HR2 : Hid (rr = (hb && (rb || xb))) := Lib.hid (by rw [HR.out, hxb2])
              have HBit := Lib.hid hbit
              clear hbit hx hxb2 HR
              cases hb
              · go_wp2_with (go_at_call 42; ((with_reducible refine HBit.out.mono ?_); rintro e w' ⟨rfl, rfl⟩))
                go_meet
                case rel => exact ⟨rfl, by rw [HR2.out]; rfl⟩
              · cases rb
                · go_wp2_with (go_at_call 42; ((with_reducible refine HBit.out.mono ?_); rintro e w' ⟨rfl, rfl⟩))
                  go_meet
                  case rel => exact ⟨rfl, by rw [HR2.out]; rfl⟩
                · go_wp2_with (go_at_call 42; ((with_reducible refine HBit.out.mono ?_); rintro e w' ⟨rfl, rfl⟩))
                  go_meet
                  case rel => exact ⟨rfl, by rw [HR2.out]; rfl⟩
            case rest =>
              obtain ⟨rfl, rfl⟩ := hcut
              obtain ⟨K1, hK1⟩ : ∃ K, K = Fl.rk1 more n e := ⟨_, rfl⟩
              have hK1' : K1 = K0 + rr.toNat := by rw [hK1, HRR.out, HK0.out]; rfl
              have hK1le : K1 ≤ 2 ^ 53 := by rw [hK1]; exact Fl.rk1_le HN.out
              have HK1 := Lib.hid hK1
              have HK1' := Lib.hid hK1'
              clear hK1 hK1'
              go_upto_if 88 with (fail)
              go_cut [11] (fun v wd => Rd wd v (Fl.dg K1) ∧ Below w.heap.size w wd)
              case first =>
                have hw1 : w.heap.size ≤ wc.heap.size := hsz3
                cases rr
                · have e1 : K1 = K0 := HK1'.out
                  rw [← e1] at hv'
                  clear e1
                  go_wp2
                  go_meet
                  case rel => exact ⟨hv', hbel3⟩
                · have e1 : K0 + 1 = K1 := HK1'.out.symm
                  have hl0 : (Fl.dg K0).length ≤ 90000 := Nat.le_trans (Fl.dg_len_le hK0lt) (by decide)
                  have hone := Rd_one wc 1
                  have hadd := dadd_any v' (.slice (some ⟨wc.heap.size, 0, none⟩) 1 1) K0 1 (wc.alloc (.cells #[.int .u8 1] 5)) (hv'.alloc _) (by rw [Fl.dg_one]; exact hone) hl0 (by rw [Fl.dg_one]; decide)
                  rw [e1] at hadd
                  have HAdd := Lib.hid hadd
                  clear hadd hone hl0 e1
                  go_wp2_with (go_at_call 36; ((with_reducible refine HAdd.out.mono ?_); rintro e w' ⟨⟨v2, rfl, hv2⟩, hb2⟩))
                  go_meet
                  case rel => exact ⟨hv2, (hbel3.alloc hw1 _).trans (hb2.mono (by simp; omega))⟩
              case rest =>
                obtain ⟨hv3, hbel4⟩ := hcut
                clear hv' HT hbel3 hsz3 HR HRR HK1' HB2
                obtain ⟨b3, o3, p3, rfl, h32, h33, h34, h35⟩ := hv3
                obtain ⟨n3, hn3⟩ : ∃ n3, n3 = (Fl.dg K1).length := ⟨_, rfl⟩
                rw [← hn3] at h32 h33 h35 ⊢
                have hn54 : n3 ≤ 54 := by rw [hn3]; exact Fl.dg_len_le (by omega)
                have HN3 := Lib.hid hn3
                have H35 := Lib.hid h35
                clear hn3 h35
                go_upto_if 94 with (fail)
                go_cut [10, 11] (fun u v wd => wc = wd ∧ ∃ (low2 : Int) (K2 : Nat) (o4 p4 n4 : Nat), u = .int .i64 low2 ∧ v = .slice (some ⟨b3, o4, none⟩) n4 p4 ∧ n4 ≤ p4 ∧ n4 ≤ 53 ∧ -1074 ≤ low2 ∧ low2 ≤ 40001 ∧
                  Hid (n4 = (Fl.dg K2).length ∧ (∀ j, j < n4 → wc.cell? ⟨b3, o4 + j, none⟩ = some (.int .u8 ((Fl.dg K2).getD j 0))) ∧ Norm low K1 low2 K2))
                case first =>
                  by_cases h54 : n3 = 54
                  · have hk : K1 = 2 ^ 53 := by
                      have h1 := HN3.out
                      rw [h54] at h1
                      have h2 : K1 ≠ 0 := by intro h0; rw [h0, Fl.dg_zero] at h1; cases h1
                      have h3 := Fl.dg_ge h2
                      rw [← h1] at h3
                      omega
                    have HF : Hid (n3 - 1 = (Fl.dg (2 ^ 52)).length ∧ (∀ j, j < n3 - 1 → wc.cell? ⟨b3, o3 + 1 + j, none⟩ = some (.int .u8 ((Fl.dg (2 ^ 52)).getD j 0))) ∧ Norm low K1 (low + 1) (2 ^ 52)) := Lib.hid ⟨by rw [h54]; decide +kernel, fun j hj => by
                      rw [show o3 + 1 + j = o3 + (j + 1) by omega, H35.out (j + 1) (by omega), Fl.dg_getD, Fl.dg_getD, hk, show (2 : Nat) ^ 53 = 4503599627370496 * 2 from rfl, show (2 : Nat) ^ 52 = 4503599627370496 from rfl, half_bit], Or.inr ⟨rfl, rfl, hk⟩⟩
                    have h1p : 1 < p3 := by omega
                    have t1 : ((n3 : Int) == 54) = true := by rw [h54]; rfl
                    have hn4 : n3 - 1 ≤ 53 := by omega
                    have hn5 : n3 - 1 ≤ p3 - 1 := by omega
                    have hn6 : 1 ≤ n3 := by omega
                    clear h54 hk
                    go_wp2
                    go_meet
                    case rel => exact ⟨rfl, low + 1, 2 ^ 52, o3 + 1, p3 - 1, n3 - 1, rfl, rfl, hn5, hn4, by omega, by omega, HF⟩
                  · have hk : K1 < 2 ^ 53 := by
                      have h1 := Fl.dg_lt K1
                      rw [← HN3.out] at h1
                      exact Nat.lt_of_lt_of_le h1 (Nat.pow_le_pow_right (by decide) (by omega))
                    have HF : Hid (n3 = (Fl.dg K1).length ∧ (∀ j, j < n3 → wc.cell? ⟨b3, o3 + j, none⟩ = some (.int .u8 ((Fl.dg K1).getD j 0))) ∧ Norm low K1 low K1) := Lib.hid ⟨HN3.out, H35.out, Or.inl ⟨rfl, rfl, hk⟩⟩
                    have t1 : ((n3 : Int) == 54) = false := by simp; omega
                    have hn4 : n3 ≤ 53 := by omega
                    clear h54 hk
                    go_wp2
                    go_meet
                    case rel => exact ⟨rfl, low, K1, o3, p3, n3, rfl, rfl, h32, hn4, by omega, by omega, HF⟩
                case rest =>
                  obtain ⟨rfl, low2, K2, o4, p4, n4, rfl, rfl, hnp, hn53, hl1, hl2, HF⟩ := hcut
                  have hK2 : K2 < 2 ^ 53 := by rcases HF.out.2.2 with h | h <;> omega
                  clear H35 HN3 h32 h33 h34 hn54
                  go_wp2
                  go_loop [15, 16] (fun m i => ∃ k q : Nat, k ≤ n4 ∧ i = .int .i64 ((k : Int) - 1) ∧ m = .int .u64 (q : Int) ∧ q < 2 ^ 53 ∧ Hid (q = K2 / 2 ^ k)) (fun _ i => (intOf i + 1).toNat)
                  case atStart => exact ⟨n4, 0, Nat.le_refl _, rfl, rfl, by omega, Lib.hid (by rw [HF.out.1, Nat.div_eq_of_lt (Fl.dg_lt K2)])⟩
                  case round =>
                    obtain ⟨k, q, hk, rfl, rfl, hq, HQ⟩ := hrel
                    by_cases h0 : k = 0
                    · have hqK : q = K2 := by have := HQ.out; rw [h0] at this; simpa using this
                      have hnorm : Norm (Fl.rlow n e) (Fl.rk1 more n e) low2 K2 := by have := HF.out.2.2; rw [HK1.out, HLow.out] at this; exact this
                      have hn4 : n4 = (Fl.dg K2).length := HF.out.1
                      have hsgm : sg s = if s then 2 ^ 63 else 0 := rfl
                      have h00 : ¬ ((1 : Int) ≤ k) := by omega
                      have hend : Below w.heap.size w wc := hbel4
                      have hsg2 : sg s = 0 ∨ sg s = 9223372036854775808 := by unfold sg; cases s; left; rfl; right; rfl
                      obtain ⟨g, hg⟩ : ∃ g, sg s = g := ⟨_, rfl⟩
                      obtain ⟨res, hres⟩ : ∃ r, r = Fl.roundF s n e more := ⟨_, rfl⟩
                      have HRes := Lib.hid hres
                      rw [hg] at hsgm hsg2 ⊢
                      by_cases c1 : n4 < 53
                      · have hk52 : K2 < 2 ^ 52 := by
                          have h1 := Fl.dg_lt K2
                          rw [← hn4] at h1
                          exact Nat.lt_of_lt_of_le h1 (Nat.pow_le_pow_right (by decide) (by omega))
                        have hr : ((g : Int) + (q : Int)) = (res : Int) := by
                          rcases hnorm with ⟨-, h2, -⟩ | ⟨-, h2, -⟩
                          · rw [hres, Fl.round_small HN.out (by omega), ← hsgm, hqK, h2]; simp
                          · omega
                        have hlt : g + q < 18446744073709551616 := by omega
                        clear hnorm hn4 hsgm hres hg hqK h0 HF HQ HK1 HLow hk52 hK2 hsg2
                        go_wp2
                        go_ret
                        exact ⟨by rw [← HRes.out, ← hr]; rfl, hend⟩
                      · have hk52 : 2 ^ 52 ≤ K2 := by
                          have h2 : K2 ≠ 0 := by intro h0; rw [h0, Fl.dg_zero] at hn4; simp at hn4; omega
                          have h3 := Fl.dg_ge h2
                          rw [← hn4] at h3
                          exact Nat.le_trans (Nat.pow_le_pow_right (by decide) (by omega)) h3
                        have hk1' : 2 ^ 52 ≤ Fl.rk1 more n e := by rcases hnorm with ⟨-, h2, -⟩ | ⟨-, -, h3⟩ <;> omega
                        by_cases c2 : 2047 ≤ low2 + 1075
                        · have hr : res = g + 9218868437227405312 := by
                            rw [hres, hsgm]
                            refine Fl.round_inf HN.out hk1' ?_
                            rcases hnorm with ⟨h1, -, -⟩ | ⟨h1, -, h3⟩
                            · left; omega
                            · right; exact ⟨h3, by omega⟩
                          have HRs := Lib.hid hr
                          have hlt : g + 9218868437227405312 < 18446744073709551616 := by omega
                          clear hnorm hn4 hsgm hres hg hqK h0 HF HQ HK1 HLow hk52 hk1' hr hK2
                          have hw : IntKind.u64.wrap ((g : Int) + 9218868437227405312) = (g : Int) + 9218868437227405312 := by rw [IntKind.wrap_u64]; omega
                          go_wp2
                          go_ret
                          exact ⟨by rw [← HRes.out, HRs.out]; rfl, hend⟩
                        · obtain ⟨lN, hlN⟩ : ∃ lN : Nat, low2 + 1075 = lN := ⟨(low2 + 1075).toNat, by omega⟩
                          have hr : res = g + (lN * 2 ^ 52 + K2 - 2 ^ 52) := by
                            rw [hres, hsgm]
                            refine Fl.round_mid HN.out lN K2 hk52 (by omega) (by omega) (by omega) ?_
                            rcases hnorm with ⟨h1, h2, h3⟩ | ⟨h1, h2, h3⟩
                            · left; exact ⟨by omega, h2.symm⟩
                            · right; exact ⟨by omega, h3, h2⟩
                          have HRs := Lib.hid hr
                          have hq52 : 4503599627370496 ≤ q := by omega
                          have hlN2 : lN < 2047 := by omega
                          have hlN1 : 1 ≤ lN := by omega
                          have HQK := Lib.hid hqK
                          clear hnorm hn4 hsgm hres hg hqK h0 HF HQ HK1 HLow hk52 hk1' hr hK2
                          go_wp2
                          go_ret
                          exact ⟨ret_u64 (by rw [← HRes.out, HRs.out, ← HQK.out]; omega), hend⟩
                    · obtain ⟨m, rfl⟩ : ∃ m, k = m + 1 := ⟨k - 1, by omega⟩
                      obtain ⟨x, hx⟩ : ∃ x : Nat, K2 / 2 ^ m % 2 = x := ⟨_, rfl⟩
                      have hcell := HF.out.2.1 m (by omega)
                      rw [Fl.dg_getD, hx] at hcell
                      have hx2 : x < 2 := by omega
                      obtain ⟨q', hq'⟩ : ∃ q', q * 2 + x = q' := ⟨_, rfl⟩
                      have hq'' : (q : Int) * 2 + (x : Int) = (q' : Int) := by omega
                      have HQ' : Hid (q' = K2 / 2 ^ m) := Lib.hid (by rw [← hq', HQ.out, ← hx, Fl.div_succ K2 m]; omega)
                      have hq3 : q' < 2 ^ 53 := by rw [HQ'.out]; exact Nat.lt_of_le_of_lt (Nat.div_le_self _ _) hK2
                      clear hx hq' h0
                      go_wp2
                      go_round
                      case rel => exact ⟨m, q', by omega, rfl, by first | rfl | rw [hq''], hq3, HQ'⟩
                      case measure => simp [intOf]
end Go.Proofs.Ytebldhppnacdjaa
