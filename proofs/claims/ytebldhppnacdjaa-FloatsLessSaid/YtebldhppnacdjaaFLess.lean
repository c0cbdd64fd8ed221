/- FloatsLess: for any three words of 64 bits the law returns true; no condition. -/
import Derived.Test.YtebldhppnacdjaaFl
import Derived.Test.YtebldhppnacdjaaLw
namespace Go.Proofs.Ytebldhppnacdjaa.floatsLess
open Go.ChangeShapes Go.WideShapes Go.ChangeAt Go.RowKit
theorem own : ownKnob Try.prog.godebug = none := by kernel_rfl
theorem laidOut : laidOutB Try.prog = true := by kernel_rfl
theorem less_c (a b : Nat) (r : Bool) (ha : Fl.canon a = a) (hb : Fl.canon b = b) (h : (Fl.D.order a b == some .lt) = r) (w : World) :
    Calls Try.prog 22 #[.int .u64 a, .int .u64 b] w fun e w' => e = .returned (.bool r) ∧ w = w' := by
  have := less_any a b w
  rw [ha, hb, h] at this
  exact this
theorem equal_c (a b : Nat) (r : Bool) (ha : Fl.canon a = a) (hb : Fl.canon b = b) (h : (Fl.D.order a b == some .eq) = r) (w : World) :
    Calls Try.prog 23 #[.int .u64 a, .int .u64 b] w fun e w' => e = .returned (.bool r) ∧ w = w' := by
  have := equal_any a b w
  rw [ha, hb, h] at this
  exact this
theorem kind_c (a : Nat) (hl : a < 2 ^ 64) (k : Int) (ha : Fl.canon a = a) (h : Fl.kindF a = k) (w : World) :
    Calls Try.prog 24 #[.int .u64 a] w fun e w' => e = .returned (.int .i64 k) ∧ w = w' := by
  have := kind_any a hl w
  rw [ha, h] at this
  exact this
theorem of_c (a b : Nat) (h : Fl.canon a = b) (w : World) : Calls Try.prog 14 #[.int .u64 a] w fun e w' => e = .returned (.int .u64 b) ∧ w = w' := by
  have := of_any a w
  rw [h] at this
  exact this
def cnt (l : List Bool) (k : Nat) : Nat := (l.take k).countP id
theorem cnt_step (l : List Bool) (k : Nat) (h : k < l.length) : cnt l (k + 1) = cnt l k + if l.getD k false = true then 1 else 0 := by
  unfold cnt
  rw [List.take_succ_eq_append_getElem h, List.countP_append]
  simp [List.getD, List.getElem?_eq_getElem h]
theorem cnt_le (l : List Bool) (k : Nat) : cnt l k ≤ k := Nat.le_trans List.countP_le_length (List.length_take_le _ _)
set_option maxHeartbeats 1000000 in
theorem walk_lt1 (x y z A B C : Nat) (kA kB : Int) (Hx : Hid (Fl.canon x = A)) (Hy : Hid (Fl.canon y = B)) (Hz : Hid (Fl.canon z = C)) (HA : Hid (Fl.canon A = A)) (HB : Hid (Fl.canon B = B)) (HC : Hid (Fl.canon C = C))
    (LA : Hid (A < 2 ^ 64)) (LB : Hid (B < 2 ^ 64)) (HlAB : Hid ((Fl.D.order A B == some .lt) = true)) (HeAB : Hid ((Fl.D.order A B == some .eq) = false)) (HlBA : Hid ((Fl.D.order B A == some .lt) = false)) (HlBC : Hid ((Fl.D.order B C == some .lt) = true)) (HlAC : Hid ((Fl.D.order A C == some .lt) = true)) (HkA : Hid (Fl.kindF A = kA)) (HkB : Hid (Fl.kindF B = kB)) (tA : (kA == 4) = false) (tB : (kB == 4) = false) (w : World) :
    Calls Try.prog 5 #[.int .u64 x, .int .u64 y, .int .u64 z] w fun e w' => e = .returned (.bool true) ∧ Below w.heap.size w w' := by
  go_enter Try.func5, Try.ntmps5
  go_wp2_with (first
    | (go_at_call 9; ((with_reducible refine (lives_any _).mono ?_); rintro e w1 ⟨rfl, hb⟩))
    | (go_at_call 14; ((with_reducible refine (of_c x A Hx.out _).mono ?_); rintro e w' ⟨rfl, rfl⟩))
    | (go_at_call 14; ((with_reducible refine (of_c y B Hy.out _).mono ?_); rintro e w' ⟨rfl, rfl⟩))
    | (go_at_call 14; ((with_reducible refine (of_c z C Hz.out _).mono ?_); rintro e w' ⟨rfl, rfl⟩))
    | (go_at_call 22; ((with_reducible refine (less_c A B _ HA.out HB.out HlAB.out _).mono ?_); rintro e w' ⟨rfl, rfl⟩))
    | (go_at_call 23; ((with_reducible refine (equal_c A B _ HA.out HB.out HeAB.out _).mono ?_); rintro e w' ⟨rfl, rfl⟩))
    | (go_at_call 22; ((with_reducible refine (less_c B A _ HB.out HA.out HlBA.out _).mono ?_); rintro e w' ⟨rfl, rfl⟩))
    | (go_at_call 22; ((with_reducible refine (less_c B C _ HB.out HC.out HlBC.out _).mono ?_); rintro e w' ⟨rfl, rfl⟩))
    | (go_at_call 22; ((with_reducible refine (less_c A C _ HA.out HC.out HlAC.out _).mono ?_); rintro e w' ⟨rfl, rfl⟩)))
  have hcell : ∀ k, k < 3 → (w1.alloc (Obj.cells #[Value.bool true, Value.bool false, Value.bool false] 4)).cell? ⟨w1.heap.size, k, none⟩ = some (Value.bool ([true, false, false].getD k false)) := by
    intro k hk
    rw [World.cell?_alloc_mark]
    match k, hk with
    | 0, _ => rfl
    | 1, _ => rfl
    | 2, _ => rfl
  have HC3 := Lib.hid hcell
  clear hcell
  have hend : Below w.heap.size w (w1.alloc (Obj.cells #[Value.bool true, Value.bool false, Value.bool false] 4)) := hb.alloc hb.size _
  have HE := Lib.hid hend
  clear hend hb
  go_loop [10, 62] (fun n i => ∃ k : Nat, k ≤ 3 ∧ i = .int .i64 k ∧ n = .int .i64 (cnt [true, false, false] k)) (fun _ i => 3 - (intOf i).toNat)
  case atStart => exact ⟨0, by omega, rfl, rfl⟩
  case round =>
    obtain ⟨k, hk, rfl, rfl⟩ := hrel
    by_cases hlt : k < 3
    · obtain ⟨b, hbk⟩ : ∃ b, b = ([true, false, false] : List Bool).getD k false := ⟨_, rfl⟩
      have hs := cnt_step [true, false, false] k hlt
      have hc := HC3.out k hlt
      rw [← hbk] at hc hs
      have hl := cnt_le [true, false, false] k
      have HS := Lib.hid hs
      clear hs hbk
      cases b
      all_goals
        go_wp2
        go_round
        case rel => exact ⟨k + 1, by omega, by go_num, by rw [HS.out]; go_num⟩
        case measure => simp [intOf]; omega
    · obtain ⟨n, hn⟩ : ∃ n, n = cnt [true, false, false] k := ⟨_, rfl⟩
      have hn1 : n = 1 := by rw [hn, show k = 3 by omega]; rfl
      rw [← hn]
      have t0 : ((n : Int) == 0) = false := by rw [hn1]; rfl
      have t1 : ((n : Int) == 1) = true := by rw [hn1]; rfl
      clear hn hn1
      go_wp2_with (first
        | (go_at_call 24; ((with_reducible refine (kind_c A LA.out kA HA.out HkA.out _).mono ?_); rintro e w' ⟨rfl, rfl⟩))
        | (go_at_call 24; ((with_reducible refine (kind_c B LB.out kB HB.out HkB.out _).mono ?_); rintro e w' ⟨rfl, rfl⟩)))
      go_ret
      exact ⟨rfl, HE.out⟩
set_option maxHeartbeats 1000000 in
theorem walk_lt0 (x y z A B C : Nat) (kA kB : Int) (Hx : Hid (Fl.canon x = A)) (Hy : Hid (Fl.canon y = B)) (Hz : Hid (Fl.canon z = C)) (HA : Hid (Fl.canon A = A)) (HB : Hid (Fl.canon B = B)) (HC : Hid (Fl.canon C = C))
    (LA : Hid (A < 2 ^ 64)) (LB : Hid (B < 2 ^ 64)) (HlAB : Hid ((Fl.D.order A B == some .lt) = true)) (HeAB : Hid ((Fl.D.order A B == some .eq) = false)) (HlBA : Hid ((Fl.D.order B A == some .lt) = false)) (HlBC : Hid ((Fl.D.order B C == some .lt) = false)) (HkA : Hid (Fl.kindF A = kA)) (HkB : Hid (Fl.kindF B = kB)) (tA : (kA == 4) = false) (tB : (kB == 4) = false) (w : World) :
    Calls Try.prog 5 #[.int .u64 x, .int .u64 y, .int .u64 z] w fun e w' => e = .returned (.bool true) ∧ Below w.heap.size w w' := by
  go_enter Try.func5, Try.ntmps5
  go_wp2_with (first
    | (go_at_call 9; ((with_reducible refine (lives_any _).mono ?_); rintro e w1 ⟨rfl, hb⟩))
    | (go_at_call 14; ((with_reducible refine (of_c x A Hx.out _).mono ?_); rintro e w' ⟨rfl, rfl⟩))
    | (go_at_call 14; ((with_reducible refine (of_c y B Hy.out _).mono ?_); rintro e w' ⟨rfl, rfl⟩))
    | (go_at_call 14; ((with_reducible refine (of_c z C Hz.out _).mono ?_); rintro e w' ⟨rfl, rfl⟩))
    | (go_at_call 22; ((with_reducible refine (less_c A B _ HA.out HB.out HlAB.out _).mono ?_); rintro e w' ⟨rfl, rfl⟩))
    | (go_at_call 23; ((with_reducible refine (equal_c A B _ HA.out HB.out HeAB.out _).mono ?_); rintro e w' ⟨rfl, rfl⟩))
    | (go_at_call 22; ((with_reducible refine (less_c B A _ HB.out HA.out HlBA.out _).mono ?_); rintro e w' ⟨rfl, rfl⟩))
    | (go_at_call 22; ((with_reducible refine (less_c B C _ HB.out HC.out HlBC.out _).mono ?_); rintro e w' ⟨rfl, rfl⟩)))
  have hcell : ∀ k, k < 3 → (w1.alloc (Obj.cells #[Value.bool true, Value.bool false, Value.bool false] 4)).cell? ⟨w1.heap.size, k, none⟩ = some (Value.bool ([true, false, false].getD k false)) := by
    intro k hk
    rw [World.cell?_alloc_mark]
    match k, hk with
    | 0, _ => rfl
    | 1, _ => rfl
    | 2, _ => rfl
  have HC3 := Lib.hid hcell
  clear hcell
  have hend : Below w.heap.size w (w1.alloc (Obj.cells #[Value.bool true, Value.bool false, Value.bool false] 4)) := hb.alloc hb.size _
  have HE := Lib.hid hend
  clear hend hb
  go_loop [10, 62] (fun n i => ∃ k : Nat, k ≤ 3 ∧ i = .int .i64 k ∧ n = .int .i64 (cnt [true, false, false] k)) (fun _ i => 3 - (intOf i).toNat)
  case atStart => exact ⟨0, by omega, rfl, rfl⟩
  case round =>
    obtain ⟨k, hk, rfl, rfl⟩ := hrel
    by_cases hlt : k < 3
    · obtain ⟨b, hbk⟩ : ∃ b, b = ([true, false, false] : List Bool).getD k false := ⟨_, rfl⟩
      have hs := cnt_step [true, false, false] k hlt
      have hc := HC3.out k hlt
      rw [← hbk] at hc hs
      have hl := cnt_le [true, false, false] k
      have HS := Lib.hid hs
      clear hs hbk
      cases b
      all_goals
        go_wp2
        go_round
        case rel => exact ⟨k + 1, by omega, by go_num, by rw [HS.out]; go_num⟩
        case measure => simp [intOf]; omega
    · obtain ⟨n, hn⟩ : ∃ n, n = cnt [true, false, false] k := ⟨_, rfl⟩
      have hn1 : n = 1 := by rw [hn, show k = 3 by omega]; rfl
      rw [← hn]
      have t0 : ((n : Int) == 0) = false := by rw [hn1]; rfl
      have t1 : ((n : Int) == 1) = true := by rw [hn1]; rfl
      clear hn hn1
      go_wp2_with (first
        | (go_at_call 24; ((with_reducible refine (kind_c A LA.out kA HA.out HkA.out _).mono ?_); rintro e w' ⟨rfl, rfl⟩))
        | (go_at_call 24; ((with_reducible refine (kind_c B LB.out kB HB.out HkB.out _).mono ?_); rintro e w' ⟨rfl, rfl⟩)))
      go_ret
      exact ⟨rfl, HE.out⟩
set_option maxHeartbeats 1000000 in
theorem walk_eq1 (x y z A B C : Nat) (kA kB : Int) (Hx : Hid (Fl.canon x = A)) (Hy : Hid (Fl.canon y = B)) (Hz : Hid (Fl.canon z = C)) (HA : Hid (Fl.canon A = A)) (HB : Hid (Fl.canon B = B)) (HC : Hid (Fl.canon C = C))
    (LA : Hid (A < 2 ^ 64)) (LB : Hid (B < 2 ^ 64)) (HlAB : Hid ((Fl.D.order A B == some .lt) = false)) (HeAB : Hid ((Fl.D.order A B == some .eq) = true)) (HlBA : Hid ((Fl.D.order B A == some .lt) = false)) (HeBC : Hid ((Fl.D.order B C == some .eq) = true)) (HeAC : Hid ((Fl.D.order A C == some .eq) = true)) (HkA : Hid (Fl.kindF A = kA)) (HkB : Hid (Fl.kindF B = kB)) (tA : (kA == 4) = false) (tB : (kB == 4) = false) (w : World) :
    Calls Try.prog 5 #[.int .u64 x, .int .u64 y, .int .u64 z] w fun e w' => e = .returned (.bool true) ∧ Below w.heap.size w w' := by
  go_enter Try.func5, Try.ntmps5
  go_wp2_with (first
    | (go_at_call 9; ((with_reducible refine (lives_any _).mono ?_); rintro e w1 ⟨rfl, hb⟩))
    | (go_at_call 14; ((with_reducible refine (of_c x A Hx.out _).mono ?_); rintro e w' ⟨rfl, rfl⟩))
    | (go_at_call 14; ((with_reducible refine (of_c y B Hy.out _).mono ?_); rintro e w' ⟨rfl, rfl⟩))
    | (go_at_call 14; ((with_reducible refine (of_c z C Hz.out _).mono ?_); rintro e w' ⟨rfl, rfl⟩))
    | (go_at_call 22; ((with_reducible refine (less_c A B _ HA.out HB.out HlAB.out _).mono ?_); rintro e w' ⟨rfl, rfl⟩))
    | (go_at_call 23; ((with_reducible refine (equal_c A B _ HA.out HB.out HeAB.out _).mono ?_); rintro e w' ⟨rfl, rfl⟩))
    | (go_at_call 22; ((with_reducible refine (less_c B A _ HB.out HA.out HlBA.out _).mono ?_); rintro e w' ⟨rfl, rfl⟩))
    | (go_at_call 23; ((with_reducible refine (equal_c B C _ HB.out HC.out HeBC.out _).mono ?_); rintro e w' ⟨rfl, rfl⟩))
    | (go_at_call 23; ((with_reducible refine (equal_c A C _ HA.out HC.out HeAC.out _).mono ?_); rintro e w' ⟨rfl, rfl⟩)))
  have hcell : ∀ k, k < 3 → (w1.alloc (Obj.cells #[Value.bool false, Value.bool true, Value.bool false] 4)).cell? ⟨w1.heap.size, k, none⟩ = some (Value.bool ([false, true, false].getD k false)) := by
    intro k hk
    rw [World.cell?_alloc_mark]
    match k, hk with
    | 0, _ => rfl
    | 1, _ => rfl
    | 2, _ => rfl
  have HC3 := Lib.hid hcell
  clear hcell
  have hend : Below w.heap.size w (w1.alloc (Obj.cells #[Value.bool false, Value.bool true, Value.bool false] 4)) := hb.alloc hb.size _
  have HE := Lib.hid hend
  clear hend hb
  go_loop [10, 62] (fun n i => ∃ k : Nat, k ≤ 3 ∧ i = .int .i64 k ∧ n = .int .i64 (cnt [false, true, false] k)) (fun _ i => 3 - (intOf i).toNat)
  case atStart => exact ⟨0, by omega, rfl, rfl⟩
  case round =>
    obtain ⟨k, hk, rfl, rfl⟩ := hrel
    by_cases hlt : k < 3
    · obtain ⟨b, hbk⟩ : ∃ b, b = ([false, true, false] : List Bool).getD k false := ⟨_, rfl⟩
      have hs := cnt_step [false, true, false] k hlt
      have hc := HC3.out k hlt
      rw [← hbk] at hc hs
      have hl := cnt_le [false, true, false] k
      have HS := Lib.hid hs
      clear hs hbk
      cases b
      all_goals
        go_wp2
        go_round
        case rel => exact ⟨k + 1, by omega, by go_num, by rw [HS.out]; go_num⟩
        case measure => simp [intOf]; omega
    · obtain ⟨n, hn⟩ : ∃ n, n = cnt [false, true, false] k := ⟨_, rfl⟩
      have hn1 : n = 1 := by rw [hn, show k = 3 by omega]; rfl
      rw [← hn]
      have t0 : ((n : Int) == 0) = false := by rw [hn1]; rfl
      have t1 : ((n : Int) == 1) = true := by rw [hn1]; rfl
      clear hn hn1
      go_wp2_with (first
        | (go_at_call 24; ((with_reducible refine (kind_c A LA.out kA HA.out HkA.out _).mono ?_); rintro e w' ⟨rfl, rfl⟩))
        | (go_at_call 24; ((with_reducible refine (kind_c B LB.out kB HB.out HkB.out _).mono ?_); rintro e w' ⟨rfl, rfl⟩)))
      go_ret
      exact ⟨rfl, HE.out⟩
set_option maxHeartbeats 1000000 in
theorem walk_eq0 (x y z A B C : Nat) (kA kB : Int) (Hx : Hid (Fl.canon x = A)) (Hy : Hid (Fl.canon y = B)) (Hz : Hid (Fl.canon z = C)) (HA : Hid (Fl.canon A = A)) (HB : Hid (Fl.canon B = B)) (HC : Hid (Fl.canon C = C))
    (LA : Hid (A < 2 ^ 64)) (LB : Hid (B < 2 ^ 64)) (HlAB : Hid ((Fl.D.order A B == some .lt) = false)) (HeAB : Hid ((Fl.D.order A B == some .eq) = true)) (HlBA : Hid ((Fl.D.order B A == some .lt) = false)) (HeBC : Hid ((Fl.D.order B C == some .eq) = false)) (HkA : Hid (Fl.kindF A = kA)) (HkB : Hid (Fl.kindF B = kB)) (tA : (kA == 4) = false) (tB : (kB == 4) = false) (w : World) :
    Calls Try.prog 5 #[.int .u64 x, .int .u64 y, .int .u64 z] w fun e w' => e = .returned (.bool true) ∧ Below w.heap.size w w' := by
  go_enter Try.func5, Try.ntmps5
  go_wp2_with (first
    | (go_at_call 9; ((with_reducible refine (lives_any _).mono ?_); rintro e w1 ⟨rfl, hb⟩))
    | (go_at_call 14; ((with_reducible refine (of_c x A Hx.out _).mono ?_); rintro e w' ⟨rfl, rfl⟩))
    | (go_at_call 14; ((with_reducible refine (of_c y B Hy.out _).mono ?_); rintro e w' ⟨rfl, rfl⟩))
    | (go_at_call 14; ((with_reducible refine (of_c z C Hz.out _).mono ?_); rintro e w' ⟨rfl, rfl⟩))
    | (go_at_call 22; ((with_reducible refine (less_c A B _ HA.out HB.out HlAB.out _).mono ?_); rintro e w' ⟨rfl, rfl⟩))
    | (go_at_call 23; ((with_reducible refine (equal_c A B _ HA.out HB.out HeAB.out _).mono ?_); rintro e w' ⟨rfl, rfl⟩))
    | (go_at_call 22; ((with_reducible refine (less_c B A _ HB.out HA.out HlBA.out _).mono ?_); rintro e w' ⟨rfl, rfl⟩))
    | (go_at_call 23; ((with_reducible refine (equal_c B C _ HB.out HC.out HeBC.out _).mono ?_); rintro e w' ⟨rfl, rfl⟩)))
  have hcell : ∀ k, k < 3 → (w1.alloc (Obj.cells #[Value.bool false, Value.bool true, Value.bool false] 4)).cell? ⟨w1.heap.size, k, none⟩ = some (Value.bool ([false, true, false].getD k false)) := by
    intro k hk
    rw [World.cell?_alloc_mark]
    match k, hk with
    | 0, _ => rfl
    | 1, _ => rfl
    | 2, _ => rfl
  have HC3 := Lib.hid hcell
  clear hcell
  have hend : Below w.heap.size w (w1.alloc (Obj.cells #[Value.bool false, Value.bool true, Value.bool false] 4)) := hb.alloc hb.size _
  have HE := Lib.hid hend
  clear hend hb
  go_loop [10, 62] (fun n i => ∃ k : Nat, k ≤ 3 ∧ i = .int .i64 k ∧ n = .int .i64 (cnt [false, true, false] k)) (fun _ i => 3 - (intOf i).toNat)
  case atStart => exact ⟨0, by omega, rfl, rfl⟩
  case round =>
    obtain ⟨k, hk, rfl, rfl⟩ := hrel
    by_cases hlt : k < 3
    · obtain ⟨b, hbk⟩ : ∃ b, b = ([false, true, false] : List Bool).getD k false := ⟨_, rfl⟩
      have hs := cnt_step [false, true, false] k hlt
      have hc := HC3.out k hlt
      rw [← hbk] at hc hs
      have hl := cnt_le [false, true, false] k
      have HS := Lib.hid hs
      clear hs hbk
      cases b
      all_goals
        go_wp2
        go_round
        case rel => exact ⟨k + 1, by omega, by go_num, by rw [HS.out]; go_num⟩
        case measure => simp [intOf]; omega
    · obtain ⟨n, hn⟩ : ∃ n, n = cnt [false, true, false] k := ⟨_, rfl⟩
      have hn1 : n = 1 := by rw [hn, show k = 3 by omega]; rfl
      rw [← hn]
      have t0 : ((n : Int) == 0) = false := by rw [hn1]; rfl
      have t1 : ((n : Int) == 1) = true := by rw [hn1]; rfl
      clear hn hn1
      go_wp2_with (first
        | (go_at_call 24; ((with_reducible refine (kind_c A LA.out kA HA.out HkA.out _).mono ?_); rintro e w' ⟨rfl, rfl⟩))
        | (go_at_call 24; ((with_reducible refine (kind_c B LB.out kB HB.out HkB.out _).mono ?_); rintro e w' ⟨rfl, rfl⟩)))
      go_ret
      exact ⟨rfl, HE.out⟩
set_option maxHeartbeats 1000000 in
theorem walk_gt (x y z A B C : Nat) (kA kB : Int) (Hx : Hid (Fl.canon x = A)) (Hy : Hid (Fl.canon y = B)) (Hz : Hid (Fl.canon z = C)) (HA : Hid (Fl.canon A = A)) (HB : Hid (Fl.canon B = B)) (HC : Hid (Fl.canon C = C))
    (LA : Hid (A < 2 ^ 64)) (LB : Hid (B < 2 ^ 64)) (HlAB : Hid ((Fl.D.order A B == some .lt) = false)) (HeAB : Hid ((Fl.D.order A B == some .eq) = false)) (HlBA : Hid ((Fl.D.order B A == some .lt) = true)) (HkA : Hid (Fl.kindF A = kA)) (HkB : Hid (Fl.kindF B = kB)) (tA : (kA == 4) = false) (tB : (kB == 4) = false) (w : World) :
    Calls Try.prog 5 #[.int .u64 x, .int .u64 y, .int .u64 z] w fun e w' => e = .returned (.bool true) ∧ Below w.heap.size w w' := by
  go_enter Try.func5, Try.ntmps5
  go_wp2_with (first
    | (go_at_call 9; ((with_reducible refine (lives_any _).mono ?_); rintro e w1 ⟨rfl, hb⟩))
    | (go_at_call 14; ((with_reducible refine (of_c x A Hx.out _).mono ?_); rintro e w' ⟨rfl, rfl⟩))
    | (go_at_call 14; ((with_reducible refine (of_c y B Hy.out _).mono ?_); rintro e w' ⟨rfl, rfl⟩))
    | (go_at_call 14; ((with_reducible refine (of_c z C Hz.out _).mono ?_); rintro e w' ⟨rfl, rfl⟩))
    | (go_at_call 22; ((with_reducible refine (less_c A B _ HA.out HB.out HlAB.out _).mono ?_); rintro e w' ⟨rfl, rfl⟩))
    | (go_at_call 23; ((with_reducible refine (equal_c A B _ HA.out HB.out HeAB.out _).mono ?_); rintro e w' ⟨rfl, rfl⟩))
    | (go_at_call 22; ((with_reducible refine (less_c B A _ HB.out HA.out HlBA.out _).mono ?_); rintro e w' ⟨rfl, rfl⟩)))
  have hcell : ∀ k, k < 3 → (w1.alloc (Obj.cells #[Value.bool false, Value.bool false, Value.bool true] 4)).cell? ⟨w1.heap.size, k, none⟩ = some (Value.bool ([false, false, true].getD k false)) := by
    intro k hk
    rw [World.cell?_alloc_mark]
    match k, hk with
    | 0, _ => rfl
    | 1, _ => rfl
    | 2, _ => rfl
  have HC3 := Lib.hid hcell
  clear hcell
  have hend : Below w.heap.size w (w1.alloc (Obj.cells #[Value.bool false, Value.bool false, Value.bool true] 4)) := hb.alloc hb.size _
  have HE := Lib.hid hend
  clear hend hb
  go_loop [10, 62] (fun n i => ∃ k : Nat, k ≤ 3 ∧ i = .int .i64 k ∧ n = .int .i64 (cnt [false, false, true] k)) (fun _ i => 3 - (intOf i).toNat)
  case atStart => exact ⟨0, by omega, rfl, rfl⟩
  case round =>
    obtain ⟨k, hk, rfl, rfl⟩ := hrel
    by_cases hlt : k < 3
    · obtain ⟨b, hbk⟩ : ∃ b, b = ([false, false, true] : List Bool).getD k false := ⟨_, rfl⟩
      have hs := cnt_step [false, false, true] k hlt
      have hc := HC3.out k hlt
      rw [← hbk] at hc hs
      have hl := cnt_le [false, false, true] k
      have HS := Lib.hid hs
      clear hs hbk
      cases b
      all_goals
        go_wp2
        go_round
        case rel => exact ⟨k + 1, by omega, by go_num, by rw [HS.out]; go_num⟩
        case measure => simp [intOf]; omega
    · obtain ⟨n, hn⟩ : ∃ n, n = cnt [false, false, true] k := ⟨_, rfl⟩
      have hn1 : n = 1 := by rw [hn, show k = 3 by omega]; rfl
      rw [← hn]
      have t0 : ((n : Int) == 0) = false := by rw [hn1]; rfl
      have t1 : ((n : Int) == 1) = true := by rw [hn1]; rfl
      clear hn hn1
      go_wp2_with (first
        | (go_at_call 24; ((with_reducible refine (kind_c A LA.out kA HA.out HkA.out _).mono ?_); rintro e w' ⟨rfl, rfl⟩))
        | (go_at_call 24; ((with_reducible refine (kind_c B LB.out kB HB.out HkB.out _).mono ?_); rintro e w' ⟨rfl, rfl⟩)))
      go_ret
      exact ⟨rfl, HE.out⟩
set_option maxHeartbeats 1000000 in
theorem walk_na (x y z A B C : Nat) (kA kB : Int) (Hx : Hid (Fl.canon x = A)) (Hy : Hid (Fl.canon y = B)) (Hz : Hid (Fl.canon z = C)) (HA : Hid (Fl.canon A = A)) (HB : Hid (Fl.canon B = B)) (HC : Hid (Fl.canon C = C))
    (LA : Hid (A < 2 ^ 64)) (LB : Hid (B < 2 ^ 64)) (HlAB : Hid ((Fl.D.order A B == some .lt) = false)) (HeAB : Hid ((Fl.D.order A B == some .eq) = false)) (HlBA : Hid ((Fl.D.order B A == some .lt) = false)) (HkA : Hid (Fl.kindF A = kA)) (HkB : Hid (Fl.kindF B = kB)) (tA : (kA == 4) = true)  (w : World) :
    Calls Try.prog 5 #[.int .u64 x, .int .u64 y, .int .u64 z] w fun e w' => e = .returned (.bool true) ∧ Below w.heap.size w w' := by
  go_enter Try.func5, Try.ntmps5
  go_wp2_with (first
    | (go_at_call 9; ((with_reducible refine (lives_any _).mono ?_); rintro e w1 ⟨rfl, hb⟩))
    | (go_at_call 14; ((with_reducible refine (of_c x A Hx.out _).mono ?_); rintro e w' ⟨rfl, rfl⟩))
    | (go_at_call 14; ((with_reducible refine (of_c y B Hy.out _).mono ?_); rintro e w' ⟨rfl, rfl⟩))
    | (go_at_call 14; ((with_reducible refine (of_c z C Hz.out _).mono ?_); rintro e w' ⟨rfl, rfl⟩))
    | (go_at_call 22; ((with_reducible refine (less_c A B _ HA.out HB.out HlAB.out _).mono ?_); rintro e w' ⟨rfl, rfl⟩))
    | (go_at_call 23; ((with_reducible refine (equal_c A B _ HA.out HB.out HeAB.out _).mono ?_); rintro e w' ⟨rfl, rfl⟩))
    | (go_at_call 22; ((with_reducible refine (less_c B A _ HB.out HA.out HlBA.out _).mono ?_); rintro e w' ⟨rfl, rfl⟩)))
  have hcell : ∀ k, k < 3 → (w1.alloc (Obj.cells #[Value.bool false, Value.bool false, Value.bool false] 4)).cell? ⟨w1.heap.size, k, none⟩ = some (Value.bool ([false, false, false].getD k false)) := by
    intro k hk
    rw [World.cell?_alloc_mark]
    match k, hk with
    | 0, _ => rfl
    | 1, _ => rfl
    | 2, _ => rfl
  have HC3 := Lib.hid hcell
  clear hcell
  have hend : Below w.heap.size w (w1.alloc (Obj.cells #[Value.bool false, Value.bool false, Value.bool false] 4)) := hb.alloc hb.size _
  have HE := Lib.hid hend
  clear hend hb
  go_loop [10, 62] (fun n i => ∃ k : Nat, k ≤ 3 ∧ i = .int .i64 k ∧ n = .int .i64 (cnt [false, false, false] k)) (fun _ i => 3 - (intOf i).toNat)
  case atStart => exact ⟨0, by omega, rfl, rfl⟩
  case round =>
    obtain ⟨k, hk, rfl, rfl⟩ := hrel
    by_cases hlt : k < 3
    · obtain ⟨b, hbk⟩ : ∃ b, b = ([false, false, false] : List Bool).getD k false := ⟨_, rfl⟩
      have hs := cnt_step [false, false, false] k hlt
      have hc := HC3.out k hlt
      rw [← hbk] at hc hs
      have hl := cnt_le [false, false, false] k
      have HS := Lib.hid hs
      clear hs hbk
      cases b
      all_goals
        go_wp2
        go_round
        case rel => exact ⟨k + 1, by omega, by go_num, by rw [HS.out]; go_num⟩
        case measure => simp [intOf]; omega
    · obtain ⟨n, hn⟩ : ∃ n, n = cnt [false, false, false] k := ⟨_, rfl⟩
      have hn1 : n = 0 := by rw [hn, show k = 3 by omega]; rfl
      rw [← hn]
      have t0 : ((n : Int) == 0) = true := by rw [hn1]; rfl
      have t1 : ((n : Int) == 1) = false := by rw [hn1]; rfl
      clear hn hn1
      go_wp2_with (first
        | (go_at_call 24; ((with_reducible refine (kind_c A LA.out kA HA.out HkA.out _).mono ?_); rintro e w' ⟨rfl, rfl⟩))
        | (go_at_call 24; ((with_reducible refine (kind_c B LB.out kB HB.out HkB.out _).mono ?_); rintro e w' ⟨rfl, rfl⟩)))
      go_ret
      exact ⟨rfl, HE.out⟩
set_option maxHeartbeats 1000000 in
theorem walk_nb (x y z A B C : Nat) (kA kB : Int) (Hx : Hid (Fl.canon x = A)) (Hy : Hid (Fl.canon y = B)) (Hz : Hid (Fl.canon z = C)) (HA : Hid (Fl.canon A = A)) (HB : Hid (Fl.canon B = B)) (HC : Hid (Fl.canon C = C))
    (LA : Hid (A < 2 ^ 64)) (LB : Hid (B < 2 ^ 64)) (HlAB : Hid ((Fl.D.order A B == some .lt) = false)) (HeAB : Hid ((Fl.D.order A B == some .eq) = false)) (HlBA : Hid ((Fl.D.order B A == some .lt) = false)) (HkA : Hid (Fl.kindF A = kA)) (HkB : Hid (Fl.kindF B = kB)) (tA : (kA == 4) = false) (tB : (kB == 4) = true) (w : World) :
    Calls Try.prog 5 #[.int .u64 x, .int .u64 y, .int .u64 z] w fun e w' => e = .returned (.bool true) ∧ Below w.heap.size w w' := by
  go_enter Try.func5, Try.ntmps5
  go_wp2_with (first
    | (go_at_call 9; ((with_reducible refine (lives_any _).mono ?_); rintro e w1 ⟨rfl, hb⟩))
    | (go_at_call 14; ((with_reducible refine (of_c x A Hx.out _).mono ?_); rintro e w' ⟨rfl, rfl⟩))
    | (go_at_call 14; ((with_reducible refine (of_c y B Hy.out _).mono ?_); rintro e w' ⟨rfl, rfl⟩))
    | (go_at_call 14; ((with_reducible refine (of_c z C Hz.out _).mono ?_); rintro e w' ⟨rfl, rfl⟩))
    | (go_at_call 22; ((with_reducible refine (less_c A B _ HA.out HB.out HlAB.out _).mono ?_); rintro e w' ⟨rfl, rfl⟩))
    | (go_at_call 23; ((with_reducible refine (equal_c A B _ HA.out HB.out HeAB.out _).mono ?_); rintro e w' ⟨rfl, rfl⟩))
    | (go_at_call 22; ((with_reducible refine (less_c B A _ HB.out HA.out HlBA.out _).mono ?_); rintro e w' ⟨rfl, rfl⟩)))
  have hcell : ∀ k, k < 3 → (w1.alloc (Obj.cells #[Value.bool false, Value.bool false, Value.bool false] 4)).cell? ⟨w1.heap.size, k, none⟩ = some (Value.bool ([false, false, false].getD k false)) := by
    intro k hk
    rw [World.cell?_alloc_mark]
    match k, hk with
    | 0, _ => rfl
    | 1, _ => rfl
    | 2, _ => rfl
  have HC3 := Lib.hid hcell
  clear hcell
  have hend : Below w.heap.size w (w1.alloc (Obj.cells #[Value.bool false, Value.bool false, Value.bool false] 4)) := hb.alloc hb.size _
  have HE := Lib.hid hend
  clear hend hb
  go_loop [10, 62] (fun n i => ∃ k : Nat, k ≤ 3 ∧ i = .int .i64 k ∧ n = .int .i64 (cnt [false, false, false] k)) (fun _ i => 3 - (intOf i).toNat)
  case atStart => exact ⟨0, by omega, rfl, rfl⟩
  case round =>
    obtain ⟨k, hk, rfl, rfl⟩ := hrel
    by_cases hlt : k < 3
    · obtain ⟨b, hbk⟩ : ∃ b, b = ([false, false, false] : List Bool).getD k false := ⟨_, rfl⟩
      have hs := cnt_step [false, false, false] k hlt
      have hc := HC3.out k hlt
      rw [← hbk] at hc hs
      have hl := cnt_le [false, false, false] k
      have HS := Lib.hid hs
      clear hs hbk
      cases b
      all_goals
        go_wp2
        go_round
        case rel => exact ⟨k + 1, by omega, by go_num, by rw [HS.out]; go_num⟩
        case measure => simp [intOf]; omega
    · obtain ⟨n, hn⟩ : ∃ n, n = cnt [false, false, false] k := ⟨_, rfl⟩
      have hn1 : n = 0 := by rw [hn, show k = 3 by omega]; rfl
      rw [← hn]
      have t0 : ((n : Int) == 0) = true := by rw [hn1]; rfl
      have t1 : ((n : Int) == 1) = false := by rw [hn1]; rfl
      clear hn hn1
      go_wp2_with (first
        | (go_at_call 24; ((with_reducible refine (kind_c A LA.out kA HA.out HkA.out _).mono ?_); rintro e w' ⟨rfl, rfl⟩))
        | (go_at_call 24; ((with_reducible refine (kind_c B LB.out kB HB.out HkB.out _).mono ?_); rintro e w' ⟨rfl, rfl⟩)))
      go_ret
      exact ⟨rfl, HE.out⟩
theorem kind_ne {a : Nat} (h : Fl.nan a = false) : (Fl.kindF a == 4) = false := by
  unfold Fl.kindF
  rw [if_neg (by simp [h])]
  split
  · rfl
  · split
    · rfl
    · split <;> rfl
theorem kind_nan {a : Nat} (h : Fl.nan a = true) : Fl.kindF a = 4 := by unfold Fl.kindF; rw [if_pos h]
theorem walk (x y z : Nat) (hx : x < 2 ^ 64) (hy : y < 2 ^ 64) (w : World) :
    Calls Try.prog 5 #[.int .u64 x, .int .u64 y, .int .u64 z] w fun e w' => e = .returned (.bool true) ∧ Below w.heap.size w w' := by
  obtain ⟨A, hA⟩ : ∃ A, Fl.canon x = A := ⟨_, rfl⟩
  obtain ⟨B, hB⟩ : ∃ A, Fl.canon y = A := ⟨_, rfl⟩
  obtain ⟨C, hC⟩ : ∃ A, Fl.canon z = A := ⟨_, rfl⟩
  have cA : Fl.canon A = A := by rw [← hA]; exact Fl.canon_canon x
  have cB : Fl.canon B = B := by rw [← hB]; exact Fl.canon_canon y
  have cC : Fl.canon C = C := by rw [← hC]; exact Fl.canon_canon z
  have lA : A < 2 ^ 64 := by rw [← hA]; exact Fl.canon_lt hx
  have lB : B < 2 ^ 64 := by rw [← hB]; exact Fl.canon_lt hy
  have nn : ∀ {a : Nat}, Fl.nan a = false → Fl.rung a ≤ Fl.infR := fun h => Fl.rung_le_of h
  have ny : ∀ {a : Nat}, Fl.nan a = true → Fl.infR < Fl.rung a := fun h => by unfold Fl.nan at h; simpa using h
  cases nA : Fl.nan A with
  | true =>
    exact walk_na x y z A B C 4 (Fl.kindF B) (Lib.hid hA) (Lib.hid hB) (Lib.hid hC) (Lib.hid cA) (Lib.hid cB) (Lib.hid cC) (Lib.hid lA) (Lib.hid lB)
      (Lib.hid (by rw [Fl.order_nan_left (ny nA)]; rfl)) (Lib.hid (by rw [Fl.order_nan_left (ny nA)]; rfl)) (Lib.hid (by rw [Fl.order_nan_right (ny nA)]; rfl)) (Lib.hid (kind_nan nA)) (Lib.hid rfl) rfl w
  | false =>
    cases nB : Fl.nan B with
    | true =>
      exact walk_nb x y z A B C (Fl.kindF A) 4 (Lib.hid hA) (Lib.hid hB) (Lib.hid hC) (Lib.hid cA) (Lib.hid cB) (Lib.hid cC) (Lib.hid lA) (Lib.hid lB)
        (Lib.hid (by rw [Fl.order_nan_right (ny nB)]; rfl)) (Lib.hid (by rw [Fl.order_nan_right (ny nB)]; rfl)) (Lib.hid (by rw [Fl.order_nan_left (ny nB)]; rfl)) (Lib.hid rfl) (Lib.hid (kind_nan nB)) (kind_ne nA) rfl w
    | false =>
      have oAB := Fl.order_ev (nn nA) (nn nB)
      have oBA := Fl.order_ev (nn nB) (nn nA)
      have oAC : Fl.nan C = false → _ := fun h => Fl.order_ev (nn nA) (nn h)
      have oBC : Fl.nan C = false → _ := fun h => Fl.order_ev (nn nB) (nn h)
      rcases Int.lt_trichotomy (Fl.ev A) (Fl.ev B) with h | h | h
      · have e1 : (Fl.D.order A B == some .lt) = true := by rw [oAB, Fl.cmp_lt]; simpa using h
        have e2 : (Fl.D.order A B == some .eq) = false := by rw [oAB, Fl.cmp_eq]; simp; omega
        have e3 : (Fl.D.order B A == some .lt) = false := by rw [oBA, Fl.cmp_lt]; simp; omega
        cases hbc : (Fl.D.order B C == some .lt) with
        | true =>
          have e4 : (Fl.D.order A C == some .lt) = true := by
            cases nC : Fl.nan C with
            | true => rw [Fl.order_nan_right (ny nC)] at hbc; cases hbc
            | false =>
              rw [oBC nC, Fl.cmp_lt] at hbc
              rw [oAC nC, Fl.cmp_lt]
              simp at hbc ⊢; omega
          exact walk_lt1 x y z A B C (Fl.kindF A) (Fl.kindF B) (Lib.hid hA) (Lib.hid hB) (Lib.hid hC) (Lib.hid cA) (Lib.hid cB) (Lib.hid cC) (Lib.hid lA) (Lib.hid lB)
            (Lib.hid e1) (Lib.hid e2) (Lib.hid e3) (Lib.hid hbc) (Lib.hid e4) (Lib.hid rfl) (Lib.hid rfl) (kind_ne nA) (kind_ne nB) w
        | false =>
          exact walk_lt0 x y z A B C (Fl.kindF A) (Fl.kindF B) (Lib.hid hA) (Lib.hid hB) (Lib.hid hC) (Lib.hid cA) (Lib.hid cB) (Lib.hid cC) (Lib.hid lA) (Lib.hid lB)
            (Lib.hid e1) (Lib.hid e2) (Lib.hid e3) (Lib.hid hbc) (Lib.hid rfl) (Lib.hid rfl) (kind_ne nA) (kind_ne nB) w
      · have e1 : (Fl.D.order A B == some .lt) = false := by rw [oAB, Fl.cmp_lt]; simp; omega
        have e2 : (Fl.D.order A B == some .eq) = true := by rw [oAB, Fl.cmp_eq]; simpa using h
        have e3 : (Fl.D.order B A == some .lt) = false := by rw [oBA, Fl.cmp_lt]; simp; omega
        cases hbc : (Fl.D.order B C == some .eq) with
        | true =>
          have e4 : (Fl.D.order A C == some .eq) = true := by
            cases nC : Fl.nan C with
            | true => rw [Fl.order_nan_right (ny nC)] at hbc; cases hbc
            | false =>
              rw [oBC nC, Fl.cmp_eq] at hbc
              rw [oAC nC, Fl.cmp_eq]
              simp at hbc ⊢; omega
          exact walk_eq1 x y z A B C (Fl.kindF A) (Fl.kindF B) (Lib.hid hA) (Lib.hid hB) (Lib.hid hC) (Lib.hid cA) (Lib.hid cB) (Lib.hid cC) (Lib.hid lA) (Lib.hid lB)
            (Lib.hid e1) (Lib.hid e2) (Lib.hid e3) (Lib.hid hbc) (Lib.hid e4) (Lib.hid rfl) (Lib.hid rfl) (kind_ne nA) (kind_ne nB) w
        | false =>
          exact walk_eq0 x y z A B C (Fl.kindF A) (Fl.kindF B) (Lib.hid hA) (Lib.hid hB) (Lib.hid hC) (Lib.hid cA) (Lib.hid cB) (Lib.hid cC) (Lib.hid lA) (Lib.hid lB)
            (Lib.hid e1) (Lib.hid e2) (Lib.hid e3) (Lib.hid hbc) (Lib.hid rfl) (Lib.hid rfl) (kind_ne nA) (kind_ne nB) w
      · have e1 : (Fl.D.order A B == some .lt) = false := by rw [oAB, Fl.cmp_lt]; simp; omega
        have e2 : (Fl.D.order A B == some .eq) = false := by rw [oAB, Fl.cmp_eq]; simp; omega
        have e3 : (Fl.D.order B A == some .lt) = true := by rw [oBA, Fl.cmp_lt]; simpa using h
        exact walk_gt x y z A B C (Fl.kindF A) (Fl.kindF B) (Lib.hid hA) (Lib.hid hB) (Lib.hid hC) (Lib.hid cA) (Lib.hid cB) (Lib.hid cC) (Lib.hid lA) (Lib.hid lB)
          (Lib.hid e1) (Lib.hid e2) (Lib.hid e3) (Lib.hid rfl) (Lib.hid rfl) (kind_ne nA) (kind_ne nB) w
theorem nat_of {a : Int} (h : (Lit.int .u64 a).wf = true) : ∃ n : Nat, a = n ∧ n < 2 ^ 64 := by
  have := bounds_u64 h
  exact ⟨a.toNat, by omega, by omega⟩
set_option maxRecDepth 100000 in
theorem lifted (os : Os) (started : os.Started) (H : Type) (enc : TypeId × Value → H) :
    ReturnsInHanded {} Try.checked os 5 .any (Rows.floatsLessSpec.pre6 enc Try.prog Try.f5 Rows.floatsLessRow.domain false) (Rows.floatsLessSpec.post enc Try.prog Try.f5 false true false false) := by
  refine returnsInHanded_of_change (C := Try.checked) own started (by kernel_rfl) Try.func5
    (ChangeSpec.witness6 (enc := enc) (C := Try.checked) false ⟨#[], #[.int .u64 0, .int .u64 0, .int .u64 0], []⟩ 8 (by kernel_rfl) (by kernel_rfl) (by kernel_rfl) (by kernel_rfl)) ?_
  intro W base args ds gs before hval0 hW hcnd _
  have hval : ∀ (j : Nat) t v, Try.f5.params[j]? = some t → args[j]? = some v → Value.okWide Try.prog W .any base t v := hval0
  have hW' := hW
  obtain ⟨p, q, hA0, hV, rfl, hfz, hnd⟩ := hW
  have hA : DataW.TrodAll enc Try.prog W 0 (fun _ => true) true Try.f5.params.toList args.toList ds p := hA0
  rw [Try.params5] at hA hval
  obtain ⟨v0, vs0, d0, ds0, p0, q0, hargs, rfl, rfl, h0, r0⟩ := trodAll_cons hA
  obtain ⟨v1, vs1, d1, ds1, p1, q1, rfl, rfl, rfl, h1, r1⟩ := trodAll_cons r0
  obtain ⟨v2, vs2, d2, ds2, p2, q2, rfl, rfl, rfl, h2, r2⟩ := trodAll_cons r1
  obtain ⟨rfl, rfl, rfl⟩ := trodAll_nil r2
  obtain rfl : args = #[v0, v1, v2] := by cases args; simp_all
  obtain ⟨rfl, rfl⟩ := trodVars_none hV
  obtain ⟨a0, rfl, rfl, rfl, w0⟩ := open_int Try.underlying22 (hval 0 22 v0 rfl rfl) h0
  obtain ⟨a1, rfl, rfl, rfl, w1⟩ := open_int Try.underlying22 (hval 1 22 v1 rfl rfl) h1
  obtain ⟨a2, rfl, rfl, rfl, w2⟩ := open_int Try.underlying22 (hval 2 22 v2 rfl rfl) h2
  obtain ⟨n0, rfl, l0⟩ := nat_of w0
  obtain ⟨n1, rfl, l1⟩ := nat_of w1
  obtain ⟨n2, rfl, l2⟩ := nat_of w2
  refine (walk n0 n1 n2 l0 l1 W).mono fun e W' ⟨he, hg⟩ => ?_
  subst he
  exact ⟨_, rfl, law_post laidOut (by kernel_rfl) rfl rfl Try.underlying4 rfl hW' hg⟩
theorem proved : Rows.FloatsLessSaid :=
  OpenClaim.holds_of_wide 5 Try.f5 rfl rfl rfl rfl rfl rfl rfl ⟨rfl, rfl, rfl, rfl, rfl⟩ rfl rfl rfl rfl rfl (by kernel_rfl) Try.func5 (by kernel_rfl)
    (of_decide_eq_true (by kernel_rfl)) (by unfold Func.isWrapper; first | (rw [if_pos (by decide +kernel)]; kernel_rfl) | (rw [if_neg (by decide +kernel)]; exact ⟨rfl, rfl⟩))
    (fun os started H enc _ => lifted os started H enc)
end Go.Proofs.Ytebldhppnacdjaa.floatsLess
