/- KeepSame: whatever the most and the acts, the law returns true; no condition. -/
import Derived.Test.YtebldhppnacdjabKzz
import Derived.Test.YtebldhppnacdjabLw
set_option linter.unusedVariables false
namespace Go.Proofs.Ytebldhppnacdjab.keepSame
open Go.ChangeShapes Go.WideShapes Go.ChangeAt Go.RowKit
set_option maxRecDepth 20000 in
set_option maxHeartbeats 4000000 in
theorem walk_some (w : World) (r8 r : Int) (b off n c : Nat) (A : List ActI) (hr8 : r8.tmod 9 = r) (hr : 0 ≤ r ∧ r ≤ 8) (hn : n ≤ 80) (hA : A.length = n) (hb : b < w.heap.size) (hacts : Hid (∀ i t, A[i]? = some t → ActIn w b off i t)) :
    Calls Try.prog 3 #[.int .u8 r8, .slice (some ⟨b, off, none⟩) n c] w fun e w' => e = .returned (.bool true) ∧ Below w.heap.size w w' := by
  have h3 : IntKind.u8.wrap r = r := by rw [IntKind.wrap_u8]; omega
  have h4 : IntKind.i64.wrap r = r := by rw [IntKind.wrap_i64]; omega
  obtain ⟨mo, hmo⟩ : ∃ mo, mo = 1 + r := ⟨_, rfl⟩
  have h5 : IntKind.i64.wrap (1 + r) = mo := by rw [IntKind.wrap_i64]; omega
  have hmo2 : 1 ≤ mo ∧ mo ≤ 65536 := by omega
  have HA := Lib.hid hA
  have hne : ¬ (80 : Int) < n := by omega
  clear hmo hA
  go_enter Try.func3, Try.ntmps3
  go_wp2_with (first
    | (go_at_call 7; ((with_reducible refine (lives_any _).mono ?_); rintro e w1 ⟨rfl, hb1⟩))
    | (go_at_call 8; first
      | ((with_reducible refine (new_ok13 _ _ hmo2).mono ?_); rintro e w2 ⟨rfl, hl1⟩)
      | ((with_reducible refine (new_ok9 _ _ hmo2).mono ?_); rintro e w3 ⟨rfl, hl2⟩)))
  have HT := Lib.hid (fun o => two_start hl1 hl2 hb1 o)
  have hb3 : Below w.heap.size w w3 := (hb1.trans (hl1.2.1.mono hb1.size)).trans (hl2.2.1.mono (by have := hb1.size; have := hl1.2.2; omega))
  generalize w1.heap.size + 1 = KA at *
  generalize w2.heap.size + 1 = KB at *
  clear hl1 hl2 hb1 h3 h4 h5 hr8
  go_loopw [41] (fun i wr => ∃ (k s : Nat) (P : List (List Int × Int)), k ≤ n ∧ i = .int .i64 (k : Int) ∧ s ≤ 4 * k ∧ P.length ≤ 2 * k ∧ Hid (∀ o, Two w (wr.alloc o) KA KB mo s P P wr.heap.size o) ∧ Below w.heap.size w wr) (fun i _ => n - (intOf i).toNat)
  case atStart => exact ⟨0, 0, [], by omega, rfl, by omega, by simp, HT, hb3⟩
  case round =>
    clear HT hb3
    obtain ⟨k, s, P, hk, rfl, hs, hP, HT, hbe⟩ := hrel
    by_cases hlt : k < n
    · obtain ⟨t, ht⟩ : ∃ t, A[k]? = some t := ⟨A[k]'(by rw [HA.out]; exact hlt), List.getElem?_eq_getElem _⟩
      obtain ⟨c0, c1, c2, hrow⟩ := hacts.out k t ht
      clear ht
      obtain ⟨kd, nn, ka, kl, kc, kb⟩ := t
      simp only at c0 c1 c2 hrow
      have d0 : wr.cell? ⟨b, off + k * 3, none⟩ = some (.int .i64 kd) := by rw [← c0]; exact hbe.cell (p := ⟨b, off + k * 3, none⟩) hb
      have d1 : wr.cell? ⟨b, off + k * 3 + 1, none⟩ = some (.int .i64 nn) := by rw [← c1]; exact hbe.cell (p := ⟨b, off + k * 3 + 1, none⟩) hb
      have d2 : wr.cell? ⟨b, off + k * 3 + 2, none⟩ = some (.slice ka kl kc) := by rw [← c2]; exact hbe.cell (p := ⟨b, off + k * 3 + 2, none⟩) hb
      have HT0 := Lib.hid (HT.out (.cells #[.int .i64 kd, .int .i64 nn, .slice ka kl kc] 31))
      clear c0 c1 c2 HT
      by_cases hkl : kl ≤ 50
      · obtain ⟨hr, hbyt, hlen⟩ := hrow hkl
        have HR := Lib.hid hr
        have HB := Lib.hid hbyt
        have hkl2 : ¬ (50 : Int) < kl := by omega
        have hs9 : s ≤ 9000 := by omega
        have hP9 : P.length ≤ 9000 := by omega
        have HP := Lib.hid hP
        have HS := Lib.hid hs
        clear hrow hr hbyt hs hP
        by_cases hk2 : kd < 2
        · have hq := Lib.hid (aPut_len mo P kb nn)
          have hq2 := Lib.hid (aDel_len (aPut mo P kb nn) kb)
          have hf := Lib.hid (aFind_put mo P kb nn)
          go_wp2_with (first
            | (go_at_call 10; first
              | ((with_reducible refine (two_putA w _ KA KB mo s P P _ _ _ kb nn HT0.out HR.out HB.out (by omega) (by omega) hmo2.1 (by omega)).mono ?_); rintro e w4 ⟨rfl, hT4⟩; obtain ⟨x0, x1, x2⟩ := act_cells hT4; have HT4 := Lib.hid hT4; clear hT4)
              | ((with_reducible refine (two_putB w _ KA KB mo (s + 1) _ P _ _ _ kb nn HT4.out HR.out HB.out (by omega) (by omega) hmo2.1 (by omega)).mono ?_); rintro e w5 ⟨rfl, hT5⟩; obtain ⟨y0, y1, y2⟩ := act_cells hT5; have HT5 := Lib.hid hT5; clear hT5))
            | (go_at_call 11; first
              | ((with_reducible refine (two_getA_some w _ KA KB mo (s + 1 + 1) _ _ _ _ _ kb nn HT5.out HR.out HB.out (by omega) (by have := hq.out; omega) (by omega) hf.out).mono ?_); rintro e w6 ⟨rfl, hT6⟩; obtain ⟨z0, z1, z2⟩ := act_cells hT6; have HT6 := Lib.hid hT6; clear hT6)
              | ((with_reducible refine (two_getB_some w _ KA KB mo (s + 1 + 1 + 1) _ _ _ _ _ kb nn HT6.out HR.out HB.out (by omega) (by have := hq.out; omega) (by omega) hf.out).mono ?_); rintro e w7 ⟨rfl, hT7⟩; obtain ⟨u0, u1, u2⟩ := act_cells hT7; have HT7 := Lib.hid hT7; clear hT7))
            | (go_at_call 12; first
              | ((with_reducible refine (two_lenA w _ KA KB mo (s + 1 + 1 + 1 + 1) _ _ _ _ HT7.out).mono ?_); rintro e w8 ⟨rfl, rfl⟩)
              | ((with_reducible refine (two_lenB w _ KA KB mo (s + 1 + 1 + 1 + 1) _ _ _ _ HT7.out).mono ?_); rintro e w8 ⟨rfl, rfl⟩)))
          all_goals
            refine ⟨⟨k + 1, s + 1 + 1 + 1 + 1, _, by omega, by go_num, by have := HS.out; omega, ?_, Lib.hid (fun o => HT7.out.alloc o), HT7.out.be⟩, by simp [intOf]; omega⟩
            have h1 := hq.out
            have h2 := hq2.out
            have h3 := HP.out
            rw [List.length_append, List.length_singleton]
            omega
        · have hq := Lib.hid (aDel_len P kb)
          cases hx : aFind P kb with
          | some y =>
            have HX := Lib.hid hx
            clear hx
            go_wp2_with (first
              | (go_at_call 11; first
                | ((with_reducible refine (two_getA_some w _ KA KB mo s _ _ _ _ _ kb y HT0.out HR.out HB.out (by omega) (by omega) (by omega) HX.out).mono ?_); rintro e w6 ⟨rfl, hT6⟩; obtain ⟨z0, z1, z2⟩ := act_cells hT6; have HT6 := Lib.hid hT6; clear hT6)
                | ((with_reducible refine (two_getB_some w _ KA KB mo (s + 1) _ _ _ _ _ kb y HT6.out HR.out HB.out (by omega) (by omega) (by omega) HX.out).mono ?_); rintro e w7 ⟨rfl, hT7⟩; obtain ⟨u0, u1, u2⟩ := act_cells hT7; have HT7 := Lib.hid hT7; clear hT7))
              | (go_at_call 12; first
                | ((with_reducible refine (two_lenA w _ KA KB mo (s + 1 + 1) _ _ _ _ HT7.out).mono ?_); rintro e w8 ⟨rfl, rfl⟩)
                | ((with_reducible refine (two_lenB w _ KA KB mo (s + 1 + 1) _ _ _ _ HT7.out).mono ?_); rintro e w8 ⟨rfl, rfl⟩)))
            all_goals
              refine ⟨⟨k + 1, s + 1 + 1, _, by omega, by go_num, by have := HS.out; omega, ?_, Lib.hid (fun o => HT7.out.alloc o), HT7.out.be⟩, by simp [intOf]; omega⟩
              have h1 := hq.out
              have h3 := HP.out
              rw [List.length_append, List.length_singleton]
              omega
          | none =>
            have HX := Lib.hid hx
            clear hx
            go_wp2_with (first
              | (go_at_call 11; first
                | ((with_reducible refine (two_getA_none w _ KA KB mo s _ _ _ _ _ kb HT0.out HR.out HB.out (by omega) (by omega) (by omega) HX.out).mono ?_); rintro e w6 ⟨rfl, hT6⟩; obtain ⟨z0, z1, z2⟩ := act_cells hT6; have HT6 := Lib.hid hT6; clear hT6)
                | ((with_reducible refine (two_getB_none w _ KA KB mo (s + 1) _ _ _ _ _ kb HT6.out HR.out HB.out (by omega) (by omega) (by omega) HX.out).mono ?_); rintro e w7 ⟨rfl, hT7⟩; obtain ⟨u0, u1, u2⟩ := act_cells hT7; have HT7 := Lib.hid hT7; clear hT7))
              | (go_at_call 12; first
                | ((with_reducible refine (two_lenA w _ KA KB mo (s + 1 + 1) _ _ _ _ HT7.out).mono ?_); rintro e w8 ⟨rfl, rfl⟩)
                | ((with_reducible refine (two_lenB w _ KA KB mo (s + 1 + 1) _ _ _ _ HT7.out).mono ?_); rintro e w8 ⟨rfl, rfl⟩)))
            all_goals
              refine ⟨⟨k + 1, s + 1 + 1, _, by omega, by go_num, by have := HS.out; omega, by have := HP.out; omega, Lib.hid (fun o => HT7.out.alloc o), HT7.out.be⟩, by simp [intOf]; omega⟩
      · have hkl2 : (50 : Int) < kl := by omega
        go_wp2
        go_ret
        exact ⟨rfl, hbe.alloc hbe.size _⟩
    · go_wp2
      go_ret
      exact ⟨rfl, hbe⟩
set_option maxRecDepth 20000 in
set_option maxHeartbeats 1000000 in
theorem walk_long (w : World) (r8 : Int) (a : Option Addr) (n c : Nat) (hn : 80 < n) : Calls Try.prog 3 #[.int .u8 r8, .slice a n c] w fun e w' => e = .returned (.bool true) ∧ Below w.heap.size w w' := by
  have h : (80 : Int) < n := by omega
  go_enter Try.func3, Try.ntmps3
  have hb : Below w.heap.size w w := Below.refl _ _
  go_wp2_with (go_at_call 7; ((with_reducible refine (lives_any _).mono ?_); rintro e w1 ⟨rfl, h1⟩; replace hb := hb.trans (h1.mono hb.size); clear h1))
  go_ret
  exact ⟨rfl, hb⟩
set_option maxRecDepth 20000 in
set_option maxHeartbeats 1000000 in
theorem walk_zero (w : World) (r8 r : Int) (a : Option Addr) (c : Nat) (hr8 : r8.tmod 9 = r) (hr : 0 ≤ r ∧ r ≤ 8) : Calls Try.prog 3 #[.int .u8 r8, .slice a 0 c] w fun e w' => e = .returned (.bool true) ∧ Below w.heap.size w w' := by
  have h3 : IntKind.u8.wrap r = r := by rw [IntKind.wrap_u8]; omega
  have h4 : IntKind.i64.wrap r = r := by rw [IntKind.wrap_i64]; omega
  obtain ⟨mo, hmo⟩ : ∃ mo, mo = 1 + r := ⟨_, rfl⟩
  have h5 : IntKind.i64.wrap (1 + r) = mo := by rw [IntKind.wrap_i64]; omega
  have hmo2 : 1 ≤ mo ∧ mo ≤ 65536 := by omega
  clear hmo
  go_enter Try.func3, Try.ntmps3
  go_wp2_with (first
    | (go_at_call 7; ((with_reducible refine (lives_any _).mono ?_); rintro e w1 ⟨rfl, hb1⟩))
    | (go_at_call 8; first
      | ((with_reducible refine (new_ok13 _ _ hmo2).mono ?_); rintro e w2 ⟨rfl, hl1⟩)
      | ((with_reducible refine (new_ok9 _ _ hmo2).mono ?_); rintro e w3 ⟨rfl, hl2⟩)))
  have hb3 : Below w.heap.size w w3 := (hb1.trans (hl1.2.1.mono hb1.size)).trans (hl2.2.1.mono (by have := hb1.size; have := hl1.2.2; omega))
  generalize w1.heap.size + 1 = KA at *
  generalize w2.heap.size + 1 = KB at *
  clear hl1 hl2 hb1 h3 h4 h5 hr8
  go_loopw [41] (fun i wr => i = .int .i64 0 ∧ wr = w3) (fun _ _ => 0)
  case atStart => exact ⟨rfl, rfl⟩
  case round =>
    obtain ⟨rfl, rfl⟩ := hrel
    go_wp2
    go_ret
    exact ⟨rfl, hb3⟩
theorem own : ownKnob Try.prog.godebug = none := by kernel_rfl
theorem laidOut : laidOutB Try.prog = true := by kernel_rfl
set_option maxRecDepth 100000 in
theorem lifted (os : Os) (started : os.Started) (H : Type) (enc : TypeId × Value → H) :
    ReturnsInHanded {} Try.checked os 3 .any (Rows.keepSameSpec.pre6 enc Try.prog Try.f3 Rows.keepSameRow.domain false) (Rows.keepSameSpec.post enc Try.prog Try.f3 false true false false) := by
  refine returnsInHanded_of_change (C := Try.checked) own started (by kernel_rfl) Try.func3
    (ChangeSpec.witness6 (enc := enc) (C := Try.checked) false ⟨#[], #[.int .u8 0, .slice none 0 0], []⟩ 8 (by kernel_rfl) (by kernel_rfl) (by kernel_rfl) (by kernel_rfl)) ?_
  intro W base args ds gs before hval0 hW hcnd _
  have hval : ∀ (j : Nat) t v, Try.f3.params[j]? = some t → args[j]? = some v → Value.okWide Try.prog W .any base t v := hval0
  have hW' := hW
  obtain ⟨p, q, hA0, hV, rfl, hfz, hnd⟩ := hW
  have hA : DataW.TrodAll enc Try.prog W 0 (fun _ => true) true Try.f3.params.toList args.toList ds p := hA0
  rw [Try.params3] at hA hval
  obtain ⟨v0, vs0, d0, ds0, p0, q0, hargs, rfl, rfl, h0, r0⟩ := trodAll_cons hA
  obtain ⟨v1, vs1, d1, ds1, p1, q1, rfl, rfl, rfl, h1, r1⟩ := trodAll_cons r0
  obtain ⟨rfl, rfl, rfl⟩ := trodAll_nil r1
  obtain rfl : args = #[v0, v1] := by cases args; simp_all
  obtain ⟨rfl, rfl⟩ := trodVars_none hV
  obtain ⟨r8, rfl, rfl, rfl, w0⟩ := open_int Try.underlying5 (hval 0 5 v0 rfl rfl) h0
  have hb8 := bounds_u8' w0
  obtain ⟨a1, n1, c1, rfl⟩ := okWide_slice Try.underlying22 (hval 1 22 v1 rfl rfl)
  obtain ⟨fuel, hf⟩ := h1
  have hend : Calls Try.prog 3 #[.int .u8 r8, .slice a1 n1 c1] W fun r w' => r = .returned (.bool true) ∧ Below W.heap.size W w' := by
    have hr : r8.tmod 9 = r8 % 9 := Int.tmod_eq_emod_of_nonneg hb8.1
    rcases Nat.lt_or_ge 80 n1 with h80 | h80
    · exact walk_long W r8 a1 n1 c1 h80
    · rcases acts_of hf with rfl | ⟨b, off, A, rfl, hb, hA1, hacts⟩
      · exact walk_zero W r8 (r8 % 9) a1 c1 hr (by omega)
      · exact walk_some W r8 (r8 % 9) b off n1 c1 A hr (by omega) h80 hA1 hb (Lib.hid hacts)
  refine hend.mono fun e W' ⟨he, hg⟩ => ?_
  subst he
  exact ⟨_, rfl, law_post laidOut (by kernel_rfl) rfl rfl Try.underlying4 rfl hW' hg⟩
theorem proved : Rows.KeepSameSaid :=
  OpenClaim.holds_of_wide 3 Try.f3 rfl rfl rfl rfl rfl rfl rfl ⟨rfl, rfl, rfl, rfl, rfl⟩ rfl rfl rfl rfl rfl (by kernel_rfl) Try.func3 (by kernel_rfl)
    (of_decide_eq_true (by kernel_rfl)) (by unfold Func.isWrapper; first | (rw [if_pos (by decide +kernel)]; kernel_rfl) | (rw [if_neg (by decide +kernel)]; exact ⟨rfl, rfl⟩))
    (fun os started H enc _ => lifted os started H enc)
end Go.Proofs.Ytebldhppnacdjab.keepSame
