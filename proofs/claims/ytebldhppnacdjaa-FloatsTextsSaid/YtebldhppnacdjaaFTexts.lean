/- FloatsTexts: for any word of 64 bits and any string the law returns true; no condition. -/
import Derived.Test.YtebldhppnacdjaaFr
import Derived.Test.YtebldhppnacdjaaLw
import Derived.Lib.Strings
set_option linter.unusedVariables false
namespace Go.Proofs.Ytebldhppnacdjaa.floatsTexts
open Go.ChangeShapes Go.WideShapes Go.ChangeAt Go.RowKit
theorem own : ownKnob Try.prog.godebug = none := by kernel_rfl
theorem laidOut : laidOutB Try.prog = true := by kernel_rfl
theorem hv_hexc (d : Nat) (hd : d < 16) : hv (UInt8.ofNat (hexc d).toNat) = d := by
  have h : ∀ i : Fin 16, hv (UInt8.ofNat (hexc i.val).toNat) = i.val := by decide +kernel
  exact h ⟨d, hd⟩
/-- the signs of a number, as bytes. -/
def bytesOf (c : Nat) : List UInt8 := (List.range 16).map fun j => UInt8.ofNat (hexc (c / 2 ^ (60 - 4 * j) % 16)).toNat
theorem pv_bytesOf (c : Nat) (hc : c < 2 ^ 64) : ∀ k, k ≤ 16 → pv (bytesOf c) k = some (c / 2 ^ (64 - 4 * k)) := by
  intro k
  induction k with
  | zero => intro _; rw [Nat.mul_zero, Nat.sub_zero, Nat.div_eq_of_lt hc]; rfl
  | succ k ih =>
    intro hk
    rw [pv_succ _ _ _ (ih (by omega))]
    have e : (bytesOf c).getD k 0 = UInt8.ofNat (hexc (c / 2 ^ (60 - 4 * k) % 16)).toNat := by
      have hk' : k < 16 := by omega
      simp [bytesOf, List.getD, hk']
    rw [e, hv_hexc _ (by omega), if_neg (by omega)]
    congr 1
    have e2 : c / 2 ^ (64 - 4 * k) = c / 2 ^ (60 - 4 * k) / 16 := by
      rw [show (16 : Nat) = 2 ^ 4 from rfl, Nat.div_div_eq_div_mul, ← Nat.pow_add]; congr 2; omega
    rw [e2, show 64 - 4 * (k + 1) = 60 - 4 * k by omega]
    omega
theorem parse_text (c : Nat) (hc : c < 2 ^ 64) : parseF (strOfNums (pre c 16)) = (Fl.canon c, 0) := by
  have hd : (strOfNums (pre c 16)).data.toList = [102, 39] ++ bytesOf c := by
    rw [strOfNums_data]; unfold pre bytesOf; rw [List.map_append, List.map_map]; rfl
  have hz : (strOfNums (pre c 16)).size = 18 := by rw [strOfNums_size, pre_len]
  have hm : marked (strOfNums (pre c 16)) = true := by
    unfold marked
    rw [Lib.extract_toList, hd, hz]
    rfl
  unfold parseF
  rw [if_pos ⟨hm, hz⟩, Lib.extract_data, hd]
  have e : (List.drop 2 ([102, 39] ++ bytesOf c)).take ((strOfNums (pre c 16)).size - 2) = bytesOf c := by
    rw [hz]
    show (bytesOf c).take 16 = _
    exact List.take_of_length_le (by simp [bytesOf])
  rw [e, pv_bytesOf c hc 16 (by omega)]
  simp

theorem parse_c (s : ByteArray) (hs : s.size ≤ maxLen) (v : Nat) (e : Int) (h : parseF s = (v, e)) (w : World) :
    Calls Try.prog 11 #[.string s] w fun r w' => r = .returned (.tuple #[.int .u64 v, .int .i64 e]) ∧ w = w' := by
  have := parse_any s hs w
  rw [h] at this
  exact this
theorem Below.more {B : Nat} {a b c : World} (h : Below B a b) (hB : B ≤ b.heap.size) (k : Below b.heap.size b c) : Below B a c := h.trans (k.mono hB)
set_option maxHeartbeats 400000 in
theorem walk_long (x : Nat) (s : ByteArray) (hs : (60 : Int) < s.size) (w : World) :
    Calls Try.prog 3 #[.int .u64 x, .string s] w fun e w' => e = .returned (.bool true) ∧ Below w.heap.size w w' := by
  have tok : True := trivial
  go_enter Try.func3, Try.ntmps3
  go_wp2_with (first
    | (go_at_call 9; have _t := tok; ((with_reducible refine (lives_any _).mono ?_); rintro e wa ⟨rfl, ha⟩); clear tok)
    | (go_at_call 9; ((with_reducible refine (lives_any _).mono ?_); rintro e wb ⟨rfl, hb⟩)))
  go_ret
  exact ⟨rfl, Below.more ha ha.size hb⟩
set_option maxHeartbeats 1000000 in
theorem walk_no (x : Nat) (hx : x < 2 ^ 64) (s : ByteArray) (hs : s.size ≤ 60) (r : Bool) (hr : ((s.size : Int) == 18) = r) (hm : r = true → ((s.extract 0 2).toList == [102, 39]) = false) (hp : parseF s = (0, 14)) (w : World) :
    Calls Try.prog 3 #[.int .u64 x, .string s] w fun e w' => e = .returned (.bool true) ∧ Below w.heap.size w w' := by
  obtain ⟨A, hA⟩ : ∃ A, Fl.canon x = A := ⟨_, rfl⟩
  have cA : Fl.canon A = A := by rw [← hA]; exact Fl.canon_canon x
  have lA : A < 2 ^ 64 := by rw [← hA]; exact Fl.canon_lt hx
  obtain ⟨t, ht⟩ : ∃ t, t = strOfNums (pre A 16) := ⟨_, rfl⟩
  have hpt : parseF t = (A, 0) := by rw [ht, parse_text A lA, cA]
  have hzt : t.size = 18 := by rw [ht, strOfNums_size, pre_len]
  have C10 : Hid (∀ w : World, Calls Try.prog 10 #[.int .u64 (x : Int)] w fun e w' => e = .returned (.string t) ∧ Below w.heap.size w w') := Lib.hid fun w => by
    have := text_any x hx w; rw [hA, ← ht] at this; exact this
  have C11t : Hid (∀ w : World, Calls Try.prog 11 #[.string t] w fun r w' => r = .returned (.tuple #[.int .u64 A, .int .i64 0]) ∧ w = w') := Lib.hid (parse_c t (by rw [hzt]; decide) A 0 hpt)
  have C13 : Hid (∀ w : World, Calls Try.prog 13 #[.int .u64 (x : Int)] w fun e w' => e = .returned (.int .u64 A) ∧ w = w') := Lib.hid fun w => by
    have := one_any x hx w; rw [hA] at this; exact this
  have C12 : Hid (∀ w : World, Calls Try.prog 12 #[.int .u64 (A : Int)] w fun e w' => e = .returned (.string t) ∧ w = w') := Lib.hid fun w => by
    have := rtext_any A lA w; rw [← ht] at this; exact this
  obtain ⟨v, hv0⟩ : ∃ v : Nat, v = 0 := ⟨_, rfl⟩
  have C11s : Hid (∀ w : World, Calls Try.prog 11 #[.string s] w fun r w' => r = .returned (.tuple #[.int .u64 v, .int .i64 14]) ∧ w = w') := Lib.hid (parse_c s (by unfold maxLen; omega) v 14 (by rw [hp, hv0]))
  clear hpt hzt ht hA cA lA hx
  have hv1 : ((v : Int) == 0) = true := by rw [hv0]; rfl
  clear hv0 hp
  cases r
  all_goals
    try (have hm' := hm rfl; have h2 : (2 : Int) ≤ s.size := by have := beq_iff_eq.1 hr; omega)
    clear hm
    go_enter Try.func3, Try.ntmps3
    go_wp2_with (first
      | (go_at_call 9; ((with_reducible refine (lives_any _).mono ?_); rintro e w1 ⟨rfl, hb1⟩))
      | (go_at_call 10; ((with_reducible refine (C10.out _).mono ?_); rintro e w2 ⟨rfl, hb2⟩))
      | (go_at_call 11; ((with_reducible refine (C11t.out _).mono ?_); rintro e w' ⟨rfl, rfl⟩))
      | (go_at_call 11; ((with_reducible refine (C11s.out _).mono ?_); rintro e w' ⟨rfl, rfl⟩))
      | (go_at_call 13; ((with_reducible refine (C13.out _).mono ?_); rintro e w' ⟨rfl, rfl⟩))
      | (go_at_call 12; ((with_reducible refine (C12.out _).mono ?_); rintro e w' ⟨rfl, rfl⟩)))
    go_loop [10, 11, 12] (fun r n i => r = .bool false ∧ n = .int .u64 0 ∧ i = .int .i64 2) (fun _ _ _ => 0)
    case atStart => exact ⟨rfl, rfl, rfl⟩
    case round =>
      obtain ⟨rfl, rfl, rfl⟩ := hrel
      go_wp2
      all_goals (go_ret; exact ⟨rfl, Below.more hb1 hb1.size hb2⟩)
theorem arm_digit (n b : Nat) (hn : n < 16 ^ 15) (h1 : 48 ≤ b) (h2 : b ≤ 57) : IntKind.u64.wrap (IntKind.u64.wrap ((n : Int) * 16) + ((b : Int) - 48)) = ((n * 16 + (b - 48) : Nat) : Int) := by
  rw [IntKind.wrap_u64, IntKind.wrap_u64]; omega
set_option maxHeartbeats 2000000 in
theorem walk_yes (x : Nat) (hx : x < 2 ^ 64) (s : ByteArray) (hs : s.size = 18) (hm : ((s.extract 0 2).toList == [102, 39]) = true) (w : World) :
    Calls Try.prog 3 #[.int .u64 x, .string s] w fun e w' => e = .returned (.bool true) ∧ Below w.heap.size w w' := by
  obtain ⟨A, hA⟩ : ∃ A, Fl.canon x = A := ⟨_, rfl⟩
  have cA : Fl.canon A = A := by rw [← hA]; exact Fl.canon_canon x
  have lA : A < 2 ^ 64 := by rw [← hA]; exact Fl.canon_lt hx
  obtain ⟨t, ht⟩ : ∃ t, t = strOfNums (pre A 16) := ⟨_, rfl⟩
  have hpt : parseF t = (A, 0) := by rw [ht, parse_text A lA, cA]
  have hzt : t.size = 18 := by rw [ht, strOfNums_size, pre_len]
  have C10 : Hid (∀ w : World, Calls Try.prog 10 #[.int .u64 (x : Int)] w fun e w' => e = .returned (.string t) ∧ Below w.heap.size w w') := Lib.hid fun w => by
    have := text_any x hx w; rw [hA, ← ht] at this; exact this
  have C11t : Hid (∀ w : World, Calls Try.prog 11 #[.string t] w fun r w' => r = .returned (.tuple #[.int .u64 A, .int .i64 0]) ∧ w = w') := Lib.hid (parse_c t (by rw [hzt]; decide) A 0 hpt)
  have C13 : Hid (∀ w : World, Calls Try.prog 13 #[.int .u64 (x : Int)] w fun e w' => e = .returned (.int .u64 A) ∧ w = w') := Lib.hid fun w => by
    have := one_any x hx w; rw [hA] at this; exact this
  have C12 : Hid (∀ w : World, Calls Try.prog 12 #[.int .u64 (A : Int)] w fun e w' => e = .returned (.string t) ∧ w = w') := Lib.hid fun w => by
    have := rtext_any A lA w; rw [← ht] at this; exact this
  obtain ⟨v, e, hve⟩ : ∃ v e, parseF s = (v, e) := ⟨_, _, rfl⟩
  have C11s : Hid (∀ w : World, Calls Try.prog 11 #[.string s] w fun r w' => r = .returned (.tuple #[.int .u64 v, .int .i64 e]) ∧ w = w') := Lib.hid (parse_c s (by unfold maxLen; omega) v e hve)
  clear hpt hzt ht hA cA lA hx
  have hpv : parseF s = match pv (s.extract 2 s.size).data.toList 16 with | some n => (Fl.canon n, 0) | none => (0, 14) := by
    unfold parseF
    rw [if_pos ⟨by unfold marked; rw [hm]; simp; omega, hs⟩]
    rfl
  obtain ⟨l, hl⟩ : ∃ l, l = (s.extract 2 s.size).data.toList := ⟨_, rfl⟩
  rw [← hl, hve] at hpv
  have HPV := Lib.hid hpv
  have HL := Lib.hid hl
  clear hpv hl hve
  go_enter Try.func3, Try.ntmps3
  go_wp2_with (first
    | (go_at_call 9; ((with_reducible refine (lives_any _).mono ?_); rintro e w1 ⟨rfl, hb1⟩))
    | (go_at_call 10; ((with_reducible refine (C10.out _).mono ?_); rintro e w2 ⟨rfl, hb2⟩))
    | (go_at_call 11; ((with_reducible refine (C11t.out _).mono ?_); rintro e w' ⟨rfl, rfl⟩))
    | (go_at_call 11; ((with_reducible refine (C11s.out _).mono ?_); rintro e w' ⟨rfl, rfl⟩))
    | (go_at_call 13; ((with_reducible refine (C13.out _).mono ?_); rintro e w' ⟨rfl, rfl⟩))
    | (go_at_call 12; ((with_reducible refine (C12.out _).mono ?_); rintro e w' ⟨rfl, rfl⟩)))
  go_loop [10, 11, 12] (fun r n i => ∃ (b : Bool) (m j : Nat), 2 ≤ j ∧ j ≤ 18 ∧ r = .bool b ∧ n = .int .u64 m ∧ i = .int .i64 j ∧ Hid (b = true → pv l (j - 2) = some m) ∧ Hid (b = false → pv l 16 = none)) (fun _ _ i => 18 - (intOf i).toNat)
  case atStart => exact ⟨true, 0, 2, by omega, by omega, rfl, rfl, rfl, Lib.hid (fun _ => rfl), Lib.hid (fun h => by cases h)⟩
  case round =>
    obtain ⟨b, m, j, hj1, hj2, rfl, rfl, rfl, HB1, HB2⟩ := hrel
    by_cases hlt : j < 18
    · cases b with
      | false =>
        have hn := HPV.out
        rw [HB2.out rfl] at hn
        have t1 : (e == 14) = true := by have h9 : e = 14 := (Prod.ext_iff.1 hn).2; rw [h9]; rfl
        have t2 : ((v : Int) == 0) = true := by have h9 : v = 0 := (Prod.ext_iff.1 hn).1; rw [h9]; rfl
        clear hn hm
        go_wp2
        go_ret
        exact ⟨rfl, Below.more hb1 hb1.size hb2⟩
      | true =>
        have hpm := HB1.out rfl
        have hm15 : m < 16 ^ 15 := Nat.lt_of_lt_of_le (pv_lt _ _ _ hpm) (Nat.pow_le_pow_right (by decide) (by omega))
        obtain ⟨c, hc⟩ : ∃ c, c = s.data.toList.getD j 0 := ⟨_, rfl⟩
        obtain ⟨d, hd⟩ : ∃ d, d = c.toNat := ⟨_, rfl⟩
        have hi := idx_lay s j (by omega)
        rw [← hc, ← hd] at hi
        have hd2 : d < 256 := by rw [hd]; exact c.toNat_lt
        have hlc : l.getD (j - 2) 0 = c := by
          rw [HL.out, Lib.extract_data, hc, hs]
          simp only [List.getD_eq_getElem?_getD, List.getElem?_take, List.getElem?_drop]
          rw [if_pos (by omega), show 2 + (j - 2) = j by omega]
        have hst := pv_succ _ _ _ hpm
        rw [hlc, show j - 2 + 1 = j + 1 - 2 by omega, hv_eq, ← hd] at hst
        clear hc hd hlc hpm hm
        by_cases c1 : 48 ≤ d ∧ d ≤ 57
        · rw [if_pos c1, if_neg (by omega), show ((d : Int) - 48).toNat = d - 48 by omega] at hst
          have HS := Lib.hid hst
          obtain ⟨c1, c2⟩ := c1
          clear hst
          go_wp2
          go_round
          case rel => exact ⟨true, m * 16 + (d - 48), j + 1, by omega, by omega, rfl, by go_num, by go_num, Lib.hid (fun _ => HS.out), Lib.hid (fun h => by cases h)⟩
          case measure => simp [intOf]; omega
        · rw [if_neg c1] at hst
          by_cases c2 : 97 ≤ d ∧ d ≤ 102
          · rw [if_pos c2, if_neg (by omega), show ((d : Int) - 87).toNat = d - 87 by omega] at hst
            have HS := Lib.hid hst
            obtain ⟨c2, c3⟩ := c2
            have c4 : (57 : Int) < d := by omega
            clear hst c1
            go_wp2
            go_round
            case rel => exact ⟨true, m * 16 + (d - 87), j + 1, by omega, by omega, rfl, by go_num, by go_num, Lib.hid (fun _ => HS.out), Lib.hid (fun h => by cases h)⟩
            case measure => simp [intOf]; omega
          · rw [if_neg c2, if_pos (by decide)] at hst
            have hnn := pv_none _ _ (18 - (j + 1)) hst
            rw [show j + 1 - 2 + (18 - (j + 1)) = 16 by omega] at hnn
            have HS := Lib.hid hnn
            have h3 : d < 48 ∨ (57 < d ∧ d < 97) ∨ 102 < d := by omega
            clear hst c1 c2 hnn
            rcases h3 with h3 | ⟨h3, h4⟩ | h3
            all_goals
              go_wp2
              go_round
              case rel => exact ⟨false, m, j + 1, by omega, by omega, rfl, rfl, by go_num, Lib.hid (fun h => by cases h), Lib.hid (fun _ => HS.out)⟩
              case measure => simp [intOf]; omega
    · cases b with
      | false =>
        have hn := HPV.out
        rw [HB2.out rfl] at hn
        have t1 : (e == 14) = true := by have h9 : e = 14 := (Prod.ext_iff.1 hn).2; rw [h9]; rfl
        have t2 : ((v : Int) == 0) = true := by have h9 : v = 0 := (Prod.ext_iff.1 hn).1; rw [h9]; rfl
        clear hn hm
        go_wp2
        go_ret
        exact ⟨rfl, Below.more hb1 hb1.size hb2⟩
      | true =>
        have hpm := HB1.out rfl
        have hn := HPV.out
        rw [show j - 2 = 16 by omega] at hpm
        rw [hpm] at hn
        have t1 : (e == 0) = true := by have h9 : e = 0 := (Prod.ext_iff.1 hn).2; rw [h9]; rfl
        have hm64 : m < 2 ^ 64 := pv_lt _ _ _ hpm
        have hv : Fl.canon m = v := (Prod.ext_iff.1 hn).1.symm
        have C13m : Hid (∀ w : World, Calls Try.prog 13 #[.int .u64 (m : Int)] w fun e w' => e = .returned (.int .u64 v) ∧ w = w') := Lib.hid fun w => by
          have := one_any m hm64 w; rw [hv] at this; exact this
        clear hn hm hpm hv hm64
        go_wp2_with (go_at_call 13; ((with_reducible refine (C13m.out _).mono ?_); rintro e w' ⟨rfl, rfl⟩))
        go_ret
        exact ⟨rfl, Below.more hb1 hb1.size hb2⟩
theorem walk (x : Nat) (hx : x < 2 ^ 64) (s : ByteArray) (w : World) :
    Calls Try.prog 3 #[.int .u64 x, .string s] w fun e w' => e = .returned (.bool true) ∧ Below w.heap.size w w' := by
  by_cases h1 : 60 < s.size
  · exact walk_long x s (by omega) w
  · by_cases h2 : s.size = 18
    · cases hm : ((s.extract 0 2).toList == [102, 39]) with
      | true => exact walk_yes x hx s h2 hm w
      | false => exact walk_no x hx s (by omega) true (by simp [h2]) (fun _ => hm) (by unfold parseF marked; rw [if_neg (by simp [hm])]) w
    · exact walk_no x hx s (by omega) false (by simp; omega) (fun h => by cases h) (by unfold parseF; rw [if_neg (by simp [h2])]) w
theorem nat_of {a : Int} (h : (Lit.int .u64 a).wf = true) : ∃ n : Nat, a = n ∧ n < 2 ^ 64 := by
  have := bounds_u64 h
  exact ⟨a.toNat, by omega, by omega⟩
set_option maxRecDepth 100000 in
theorem lifted (os : Os) (started : os.Started) (H : Type) (enc : TypeId × Value → H) :
    ReturnsInHanded {} Try.checked os 3 .any (Rows.floatsTextsSpec.pre6 enc Try.prog Try.f3 Rows.floatsTextsRow.domain false) (Rows.floatsTextsSpec.post enc Try.prog Try.f3 false true false false) := by
  refine returnsInHanded_of_change (C := Try.checked) own started (by kernel_rfl) Try.func3
    (ChangeSpec.witness6 (enc := enc) (C := Try.checked) false ⟨#[], #[.int .u64 0, .string ⟨#[]⟩], []⟩ 8 (by kernel_rfl) (by kernel_rfl) (by kernel_rfl) (by kernel_rfl)) ?_
  intro W base args ds gs before hval0 hW hcnd _
  have hval : ∀ (j : Nat) t v, Try.f3.params[j]? = some t → args[j]? = some v → Value.okWide Try.prog W .any base t v := hval0
  have hW' := hW
  obtain ⟨p, q, hA0, hV, rfl, hfz, hnd⟩ := hW
  have hA : DataW.TrodAll enc Try.prog W 0 (fun _ => true) true Try.f3.params.toList args.toList ds p := hA0
  rw [Try.params3] at hA hval
  obtain ⟨v0, vs0, d0, ds0, p0, q0, hargs, rfl, rfl, h0, r0⟩ := trodAll_cons hA
  obtain ⟨v1, vs1, d1, ds1, p1, q1, rfl, rfl, rfl, h1, r1⟩ := trodAll_cons r0
  obtain ⟨rfl, rfl, rfl⟩ := trodAll_nil r1
  obtain rfl : args = #[v0, v1] := by cases args; simp_all
  obtain ⟨rfl, rfl⟩ := trodVars_none hV
  obtain ⟨a0, rfl, rfl, rfl, w0⟩ := open_int Try.underlying22 (hval 0 22 v0 rfl rfl) h0
  obtain ⟨s, rfl, rfl, rfl, hs⟩ := ChangeMaps.open_string Try.underlying9 (hval 1 9 v1 rfl rfl) h1
  obtain ⟨n0, rfl, l0⟩ := nat_of w0
  refine (walk n0 l0 s W).mono fun e W' ⟨he, hg⟩ => ?_
  subst he
  exact ⟨_, rfl, law_post laidOut (by kernel_rfl) rfl rfl Try.underlying4 rfl hW' hg⟩
theorem proved : Rows.FloatsTextsSaid :=
  OpenClaim.holds_of_wide 3 Try.f3 rfl rfl rfl rfl rfl rfl rfl ⟨rfl, rfl, rfl, rfl, rfl⟩ rfl rfl rfl rfl rfl (by kernel_rfl) Try.func3 (by kernel_rfl)
    (of_decide_eq_true (by kernel_rfl)) (by unfold Func.isWrapper; first | (rw [if_pos (by decide +kernel)]; kernel_rfl) | (rw [if_neg (by decide +kernel)]; exact ⟨rfl, rfl⟩))
    (fun os started H enc _ => lifted os started H enc)
end Go.Proofs.Ytebldhppnacdjaa.floatsTexts
