/- KeepHashes: for any bytes the law returns true; no condition. -/
import Derived.Test.YtebldhppnacdjabKd
import Derived.Test.YtebldhppnacdjabLw
set_option linter.unusedVariables false
namespace Go.Proofs.Ytebldhppnacdjab.keepHashes
open Go.ChangeShapes Go.WideShapes Go.ChangeAt Go.RowKit
theorem own : ownKnob Try.prog.godebug = none := by kernel_rfl
theorem laidOut : laidOutB Try.prog = true := by kernel_rfl
/-- one byte more, in a way that nothing looks into. -/
def stepI (h b : Int) : Int := IntKind.u64.wrap (bits .xor .u64 h (IntKind.u64.wrap b) * 1099511628211)
def hashI (zs : List Int) : Int := zs.foldl stepI 14695981039346656037
theorem hash_step {zs : List Int} {k : Nat} (h : k < zs.length) : hashI (zs.take (k + 1)) = stepI (hashI (zs.take k)) (zs.getD k 0) := by
  unfold hashI
  rw [List.take_add_one, List.foldl_append, List.getElem?_eq_getElem h, List.getD_eq_getElem?_getD, List.getElem?_eq_getElem h]
  rfl
set_option maxRecDepth 20000 in
set_option maxHeartbeats 1000000 in
theorem usual_any (a : Addr) (n c : Nat) (zs : List Int) (hn : n ≤ zs.length) (hn2 : n ≤ 200) (w : World) (hc : Hid (∀ i, i < n → w.cell? (a.add i) = some (.int .u8 (zs.getD i 0)) )) :
    Calls Try.prog 13 #[.slice (some a) n c] w fun r w' => r = .returned (.int .u64 (hashI (zs.take n))) ∧ w = w' := by
  go_enter Try.func13, Try.ntmps13
  go_wp2
  go_loop [3, 8] (fun h i => ∃ k : Nat, k ≤ n ∧ i = .int .i64 (k : Int) ∧ h = .int .u64 (hashI (zs.take k))) (fun _ i => n - (intOf i).toNat)
  case atStart => exact ⟨0, by omega, rfl, rfl⟩
  case round =>
    obtain ⟨k, hk, rfl, rfl⟩ := hrel
    by_cases hlt : k < n
    · have hcell := hc.out k hlt
      obtain ⟨b, hb⟩ : ∃ b, zs.getD k 0 = b := ⟨_, rfl⟩
      rw [hb] at hcell
      obtain ⟨h, hh⟩ : ∃ h, hashI (zs.take k) = h := ⟨_, rfl⟩
      have HS := Lib.hid (hash_step (zs := zs) (k := k) (by omega))
      rw [hh, hb] at HS
      rw [hh]
      clear hb hh
      go_wp2
      go_round
      case rel => exact ⟨k + 1, by omega, by go_num, by rw [HS.out]; rfl⟩
      case measure => simp [intOf]; omega
    · have hk' : k = n := by omega
      subst hk'
      obtain ⟨h, hh⟩ : ∃ h, hashI (zs.take k) = h := ⟨_, rfl⟩
      rw [hh]
      go_wp2
      go_ret
      exact ⟨rfl, rfl⟩
set_option maxRecDepth 20000 in
set_option maxHeartbeats 1000000 in
theorem walk_some (a : Addr) (n c : Nat) (zs : List Int) (hn : n ≤ zs.length) (w : World) (hc : Hid (∀ i, i < n → w.cell? (a.add i) = some (.int .u8 (zs.getD i 0)))) (ha : a.block < w.heap.size) :
    Calls Try.prog 4 #[.slice (some a) n c] w fun r w' => r = .returned (.bool true) ∧ Below w.heap.size w w' := by
  by_cases h : (200 : Int) < n
  · go_enter Try.func4, Try.ntmps4
    have hb : Below w.heap.size w w := Below.refl _ _
    go_wp2_with (go_at_call 7; ((with_reducible refine (lives_any _).mono ?_); rintro e w1 ⟨rfl, h1⟩; replace hb := hb.trans (h1.mono hb.size); clear h1))
    go_ret
    exact ⟨rfl, hb⟩
  · go_enter Try.func4, Try.ntmps4
    go_wp2_with (go_at_call 7; ((with_reducible refine (lives_any _).mono ?_); rintro e w1 ⟨rfl, hb⟩))
    have hc1 : Hid (∀ i, i < n → w1.cell? (a.add i) = some (.int .u8 (zs.getD i 0))) := Lib.hid fun i hi => by
      rw [← hc.out i hi]
      exact hb.cell (p := a.add i) (by unfold Addr.add; split <;> exact ha)
    go_loop [3, 16] (fun h i => ∃ k : Nat, k ≤ n ∧ i = .int .i64 (k : Int) ∧ h = .int .u64 (hashI (zs.take k))) (fun _ i => n - (intOf i).toNat)
    case atStart => exact ⟨0, by omega, rfl, rfl⟩
    case round =>
      obtain ⟨k, hk, rfl, rfl⟩ := hrel
      by_cases hlt : k < n
      · have hcell := hc1.out k hlt
        obtain ⟨b, hb2⟩ : ∃ b, zs.getD k 0 = b := ⟨_, rfl⟩
        rw [hb2] at hcell
        obtain ⟨h, hh⟩ : ∃ h, hashI (zs.take k) = h := ⟨_, rfl⟩
        have HS := Lib.hid (hash_step (zs := zs) (k := k) (by omega))
        rw [hh, hb2] at HS
        rw [hh]
        clear hb2 hh
        go_wp2
        go_round
        case rel => exact ⟨k + 1, by omega, by go_num, by rw [HS.out]; rfl⟩
        case measure => simp [intOf]; omega
      · have hk' : k = n := by omega
        subst hk'
        have U := Lib.hid (usual_any a k c zs hn (by omega) w1 hc1)
        obtain ⟨h, hh⟩ : ∃ h, hashI (zs.take k) = h := ⟨_, rfl⟩
        rw [hh] at U ⊢
        go_wp2_with (go_at_call 13; ((with_reducible refine U.out.mono ?_); rintro e w' ⟨rfl, rfl⟩))
        go_ret
        exact ⟨rfl, hb⟩
set_option maxRecDepth 20000 in
set_option maxHeartbeats 1000000 in
theorem usual_nil (w : World) : Calls Try.prog 13 #[.slice none 0 0] w fun r w' => r = .returned (.int .u64 14695981039346656037) ∧ w = w' := by
  go_enter Try.func13, Try.ntmps13
  go_wp2
  go_loop [3, 8] (fun h i => i = .int .i64 0 ∧ h = .int .u64 14695981039346656037) (fun _ _ => 0)
  case atStart => exact ⟨rfl, rfl⟩
  case round =>
    obtain ⟨rfl, rfl⟩ := hrel
    go_wp2
    go_ret
    exact ⟨rfl, rfl⟩
set_option maxRecDepth 20000 in
set_option maxHeartbeats 1000000 in
theorem walk_nil (w : World) : Calls Try.prog 4 #[.slice none 0 0] w fun r w' => r = .returned (.bool true) ∧ Below w.heap.size w w' := by
  go_enter Try.func4, Try.ntmps4
  go_wp2_with (go_at_call 7; ((with_reducible refine (lives_any _).mono ?_); rintro e w1 ⟨rfl, hb⟩))
  go_loop [3, 16] (fun h i => i = .int .i64 0 ∧ h = .int .u64 14695981039346656037) (fun _ _ => 0)
  case atStart => exact ⟨rfl, rfl⟩
  case round =>
    obtain ⟨rfl, rfl⟩ := hrel
    go_wp2_with (go_at_call 13; ((with_reducible refine (usual_nil _).mono ?_); rintro e w' ⟨rfl, rfl⟩))
    go_ret
    exact ⟨rfl, hb⟩
set_option maxRecDepth 20000 in
set_option maxHeartbeats 1000000 in
theorem usual_zero (a : Addr) (c : Nat) (w : World) : Calls Try.prog 13 #[.slice (some a) 0 c] w fun r w' => r = .returned (.int .u64 14695981039346656037) ∧ w = w' := by
  go_enter Try.func13, Try.ntmps13
  go_wp2
  go_loop [3, 8] (fun h i => i = .int .i64 0 ∧ h = .int .u64 14695981039346656037) (fun _ _ => 0)
  case atStart => exact ⟨rfl, rfl⟩
  case round =>
    obtain ⟨rfl, rfl⟩ := hrel
    go_wp2
    go_ret
    exact ⟨rfl, rfl⟩
set_option maxRecDepth 20000 in
set_option maxHeartbeats 1000000 in
theorem walk_zero (a : Addr) (c : Nat) (w : World) : Calls Try.prog 4 #[.slice (some a) 0 c] w fun r w' => r = .returned (.bool true) ∧ Below w.heap.size w w' := by
  go_enter Try.func4, Try.ntmps4
  go_wp2_with (go_at_call 7; ((with_reducible refine (lives_any _).mono ?_); rintro e w1 ⟨rfl, hb⟩))
  go_loop [3, 16] (fun h i => i = .int .i64 0 ∧ h = .int .u64 14695981039346656037) (fun _ _ => 0)
  case atStart => exact ⟨rfl, rfl⟩
  case round =>
    obtain ⟨rfl, rfl⟩ := hrel
    go_wp2_with (go_at_call 13; ((with_reducible refine (usual_zero _ _ _).mono ?_); rintro e w' ⟨rfl, rfl⟩))
    go_ret
    exact ⟨rfl, hb⟩
theorem Try.cells5 : Try.prog.cellsOf 5 = 1 := by kernel_rfl
set_option maxRecDepth 100000 in
theorem lifted (os : Os) (started : os.Started) (H : Type) (enc : TypeId × Value → H) :
    ReturnsInHanded {} Try.checked os 4 .any (Rows.keepHashesSpec.pre6 enc Try.prog Try.f4 Rows.keepHashesRow.domain false) (Rows.keepHashesSpec.post enc Try.prog Try.f4 false true false false) := by
  refine returnsInHanded_of_change (C := Try.checked) own started (by kernel_rfl) Try.func4
    (ChangeSpec.witness6 (enc := enc) (C := Try.checked) false ⟨#[], #[.slice none 0 0], []⟩ 8 (by kernel_rfl) (by kernel_rfl) (by kernel_rfl) (by kernel_rfl)) ?_
  intro W base args ds gs before hval0 hW hcnd _
  have hval : ∀ (j : Nat) t v, Try.f4.params[j]? = some t → args[j]? = some v → Value.okWide Try.prog W .any base t v := hval0
  have hW' := hW
  obtain ⟨p, q, hA0, hV, rfl, hfz, hnd⟩ := hW
  have hA : DataW.TrodAll enc Try.prog W 0 (fun _ => true) true Try.f4.params.toList args.toList ds p := hA0
  rw [Try.params4] at hA hval
  obtain ⟨v0, vs0, d0, ds0, p0, q0, hargs, rfl, rfl, h0, r0⟩ := trodAll_cons hA
  obtain ⟨rfl, rfl, rfl⟩ := trodAll_nil r0
  obtain rfl : args = #[v0] := by cases args; simp_all
  obtain ⟨rfl, rfl⟩ := trodVars_none hV
  obtain ⟨fuel, hf⟩ := h0
  have hend : Calls Try.prog 4 #[v0] W fun r w' => r = .returned (.bool true) ∧ Below W.heap.size W w' := by
    obtain ⟨a0, n0, c0, rfl⟩ := okWide_slice Try.underlying29 (hval 0 29 v0 rfl rfl)
    rcases open_ints Try.underlying29 Try.underlying5 Try.cells5 hf with ⟨hcs, hx⟩ | ⟨a, len, cap, zs, hcs, _, hl, hm, hz, hx, hcell, hwz⟩
    · simp [Value.cells] at hcs
      obtain ⟨rfl, rfl, rfl⟩ := hcs
      exact walk_nil W
    · simp [Value.cells] at hcs
      obtain ⟨rfl, rfl, rfl⟩ := hcs
      simp only [if_true] at hz
      by_cases h0 : n0 = 0
      · subst h0
        exact walk_zero a c0 W
      · have hc0 := hcell 0 (by omega)
        have hlt : a.block < W.heap.size := by
          rcases Nat.lt_or_ge a.block W.heap.size with h' | h'
          · exact h'
          · have : (a.add 0).block = a.block := by unfold Addr.add; split <;> rfl
            simp [World.cell?, this, Array.getElem?_eq_none h'] at hc0
        exact walk_some a n0 c0 zs (by omega) W (Lib.hid fun i hi => hcell i (by omega)) hlt
  refine hend.mono fun e W' ⟨he, hg⟩ => ?_
  subst he
  exact ⟨_, rfl, law_post laidOut (by kernel_rfl) rfl rfl Try.underlying4 rfl hW' hg⟩
theorem proved : Rows.KeepHashesSaid :=
  OpenClaim.holds_of_wide 4 Try.f4 rfl rfl rfl rfl rfl rfl rfl ⟨rfl, rfl, rfl, rfl, rfl⟩ rfl rfl rfl rfl rfl (by kernel_rfl) Try.func4 (by kernel_rfl)
    (of_decide_eq_true (by kernel_rfl)) (by unfold Func.isWrapper; first | (rw [if_pos (by decide +kernel)]; kernel_rfl) | (rw [if_neg (by decide +kernel)]; exact ⟨rfl, rfl⟩))
    (fun os started H enc _ => lifted os started H enc)
end Go.Proofs.Ytebldhppnacdjab.keepHashes
