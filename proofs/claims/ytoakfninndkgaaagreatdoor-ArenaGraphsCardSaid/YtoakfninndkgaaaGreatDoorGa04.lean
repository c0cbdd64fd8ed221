/- Walks: slices.Insert of one element, at strings and at values. Walks: cmp.Less, isNaN, slices.BinarySearch at strings. Walks: the kid of a name: value.kid, ref09.find. Walks: a row of bytes that grows; the text of a number of one digit. Walks: put, of a number of one digit, and of the example's record. -/
import Derived.Test.YtoakfninndkgaaaGreatDoorRows
import Derived.WalkKit
import Derived.WalkSpells
import Derived.WalkLawsBesides
import Derived.Lib.Hide
import Derived.Laws.OwnMore
import Derived.Laws.MakeOwn
import Derived.Laws.CopyRow
import Derived.Lib.AppendZerosOnto
import Derived.Lib.Overlaps
import Derived.OwnWalk
import Derived.Carry
import Derived.OneCell
import Derived.BigRegion
import Derived.BigQuiet
import Derived.Deep.QuietTactic
import Derived.Deep.LoopGhost
import Derived.Deep.DeepCutAuto
import Derived.Deep.CutBlock
import Derived.Deep.RegionHeld3
import Derived.Deep.AppendLies
import Derived.Test.YtoakfninndkgaaaGreatDoorGa03
import Derived.Lib.AppendStr
set_option linter.unusedSimpArgs false
set_option linter.unusedVariables false
set_option linter.unusedVariables false
namespace Go.Proofs.YtoakfninndkgaaaGreatDoor.Val
open Go.RowKit
theorem run_copy_many {P : Program} (w : World) (dT sT ty elem : TypeId) (size : Nat) (g o dLen dCap : Nat) (a : Addr) (sLen sCap : Nat) (cur : Array Value) (t : TypeId) (cs : List Value)
    (hu : P.underlying dT = some (.slice elem)) (hs : (P.info? elem).map (·.size) = some size)
    (hg : w.heap[g]? = some (.cells cur t (0, 0))) (hn : cs.length = Nat.min sLen dLen * size)
    (hsrc : ∀ j v, cs[j]? = some v → w.cell? (a.add j) = some v) (hfit : o + cs.length ≤ cur.size) (h1 : ∀ v ∈ cs, v.oneCell' = true) :
    (Builtin.copy_ #[dT, sT] ty #[.slice (some ⟨g, o, none⟩) dLen dCap, .slice (some a) sLen sCap]).run P w =
      .ok (goInt (Nat.min sLen dLen)) (w.setRow g (cur.toList.take o ++ cs ++ cur.toList.drop (o + cs.length)).toArray) := by
  have hl := run_loadCells_list (P := P) w a cs hsrc
  have hst := run_storeCells_at P g o t cs 0 cur w hg (by simpa using hfit) h1
  cases hq : P.info? elem with
  | none => simp [hq] at hs
  | some i =>
    have hi : i.size = size := by simpa [hq] using hs
    simp [Builtin.copy_, run_underlying hu, Builtin.lenOf, Builtin.firstCells, sizeOf, typeInfo, hq, hi, ← hn, hl, hst]
theorem Tryz.info9 : (Tryz.prog.info? 9).map (fun i => (i.zero, i.size, i.bytes)) = some (some (.string ByteArray.empty), 1, 16) := by kernel_rfl
theorem news9 {w : World} {B : Nat} {new : List Value} (hB : w.heap[B]? = some (.cells new.toArray 9 (0, 0))) : ∀ (j : Nat) (u : Value), new[j]? = some u → w.cell? ((⟨B, 0, none⟩ : Addr).add j) = some u := by
  intro j u h
  have hadd : (⟨B, 0, none⟩ : Addr).add j = ⟨B, j, none⟩ := by unfold Addr.add; split <;> simp_all
  rw [hadd, cell_of_row _ _ j _ 9 _ hB]
  simpa using h
set_option maxRecDepth 20000 in
set_option maxHeartbeats 2000000 in
theorem ins_end_nil_24 (w : World) (base B c : Nat) (new : List Value) (hl : new.length = 1) (hB : w.heap[B]? = some (.cells new.toArray 9 (0, 0))) (hone : ∀ u ∈ new, u.oneCell' = true) (hb : base ≤ w.heap.size) :
    Calls Tryz.prog 66 #[.slice none 0 0, .int .i64 0, .slice (some ⟨B, 0, none⟩) 1 c] w fun e w' => ∃ g cap, e = .returned (.slice (some ⟨g, 0, none⟩) 1 cap) ∧ w'.ownsRow base 9 1 (.slice (some ⟨g, 0, none⟩) 1 cap) 1 new ∧ w.grownBy w' none ∧ g = w.heap.size := by
  obtain ⟨i0, hi, hz0, hz1, hz2⟩ := info_parts Tryz.info9
  have HN := Lib.hid (news9 hB)
  have HO := Lib.hid hone
  clear hB hone
  go_enter Tryz.func66, Tryz.ntmps66
  go_wp2_with (at_builtin; refine wpList_append_lies _ rfl _ _ 35 rfl base 9 i0 (.string ByteArray.empty) 1 16 Tryz.underlying35 hi hz0 hz1 hz2 rfl (by decide) (.slice none 0 0) 0 [] rfl (World.ownsRow_nil _ _ _ _) ⟨B, 0, none⟩ 1 c new rfl hl HN.out HO.out (by decide) (by unfold maxLen; omega) (by omega) hb _ rfl ?_; intro g cap w' hown' hgr hat hlt)
  have HE : Hid (w'.ownsRow base 9 1 (.slice (some ⟨g, 0, none⟩) 1 cap) 1 new ∧ w.grownBy w' none ∧ g = w.heap.size) := Lib.hid ⟨by simpa using hown', hgr, by rcases hat with h | h; cases h; exact h⟩
  clear hown' hgr hat hlt
  go_wp2
  go_ret
  exact ⟨g, cap, rfl, HE.out⟩
set_option maxRecDepth 20000 in
set_option maxHeartbeats 2000000 in
theorem ins_end_24 (w : World) (base g n cap B c : Nat) (xs new : List Value) (hn : n ≤ 100000) (hown : w.ownsRow base 9 1 (.slice (some ⟨g, 0, none⟩) n cap) n xs) (hl : new.length = 1) (hB : w.heap[B]? = some (.cells new.toArray 9 (0, 0))) (hone : ∀ u ∈ new, u.oneCell' = true) (hb : base ≤ w.heap.size) :
    Calls Tryz.prog 66 #[.slice (some ⟨g, 0, none⟩) n cap, .int .i64 (n : Int), .slice (some ⟨B, 0, none⟩) 1 c] w fun e w' => ∃ g' cap', e = .returned (.slice (some ⟨g', 0, none⟩) (n + 1) cap') ∧ w'.ownsRow base 9 1 (.slice (some ⟨g', 0, none⟩) (n + 1) cap') (n + 1) (xs ++ new) ∧ w.grownBy w' (some g) ∧ (g' = g ∨ g' = w.heap.size) := by
  obtain ⟨i0, hi, hz0, hz1, hz2⟩ := info_parts Tryz.info9
  have hcap : n ≤ cap := by
    rcases hown.2 with ⟨h', _⟩ | ⟨g', cap', cur, h', e1, e2, e3, e4, -⟩
    · simp at h'
    · simp only [Value.slice.injEq, Option.some.injEq, Addr.mk.injEq, and_true, true_and] at h'
      omega
  have hcap2 : (n : Int) ≤ cap := by omega
  have HN := Lib.hid (news9 hB)
  have HO := Lib.hid hone
  have HW := Lib.hid hown
  clear hB hone hown
  go_enter Tryz.func66, Tryz.ntmps66
  go_wp2_with (at_builtin; refine wpList_append_lies _ rfl _ _ 35 rfl base 9 i0 (.string ByteArray.empty) 1 16 Tryz.underlying35 hi hz0 hz1 hz2 rfl (by decide) (.slice (some ⟨g, 0, none⟩) n cap) n xs rfl HW.out ⟨B, 0, none⟩ 1 c new rfl hl HN.out HO.out (by decide) (by unfold maxLen; omega) (by omega) hb _ rfl ?_; intro g' cap' w' hown' hgr hat hlt)
  all_goals
    have HE : Hid (w'.ownsRow base 9 1 (.slice (some ⟨g', 0, none⟩) (n + 1) cap') (n + 1) (xs ++ new) ∧ w.grownBy w' (some g) ∧ (g' = g ∨ g' = w.heap.size)) := Lib.hid ⟨hown', hgr, hat.elim (fun h => Or.inl (Option.some.inj (show some g = some g' from h)).symm) (fun h => Or.inr h)⟩
    clear hown' hgr hat hlt
    go_wp2
    go_ret
    exact ⟨g', cap', rfl, HE.out⟩
theorem Tryz.info70 : (Tryz.prog.info? 70).map (fun i => (i.zero, i.size, i.bytes)) = some (some (.agg #[.int .i64 0, .int .i64 0, .int .u64 0, .string ByteArray.empty, .slice none 0 0, .slice none 0 0, .pointer none, .int .i64 0]), 8, 104) := by kernel_rfl
theorem news28 {w : World} {B : Nat} {new : List Value} (hB : w.heap[B]? = some (.cells new.toArray 70 (0, 0))) : ∀ (j : Nat) (u : Value), new[j]? = some u → w.cell? ((⟨B, 0, none⟩ : Addr).add j) = some u := by
  intro j u h
  have hadd : (⟨B, 0, none⟩ : Addr).add j = ⟨B, j, none⟩ := by unfold Addr.add; split <;> simp_all
  rw [hadd, cell_of_row _ _ j _ 70 _ hB]
  simpa using h
set_option maxRecDepth 20000 in
set_option maxHeartbeats 2000000 in
theorem ins_end_nil_25 (w : World) (base B c : Nat) (new : List Value) (hl : new.length = 8) (hB : w.heap[B]? = some (.cells new.toArray 70 (0, 0))) (hone : ∀ u ∈ new, u.oneCell' = true) (hb : base ≤ w.heap.size) :
    Calls Tryz.prog 67 #[.slice none 0 0, .int .i64 0, .slice (some ⟨B, 0, none⟩) 1 c] w fun e w' => ∃ g cap, e = .returned (.slice (some ⟨g, 0, none⟩) 1 cap) ∧ w'.ownsRow base 70 8 (.slice (some ⟨g, 0, none⟩) 1 cap) 1 new ∧ w.grownBy w' none ∧ g = w.heap.size := by
  obtain ⟨i0, hi, hz0, hz1, hz2⟩ := info_parts Tryz.info70
  have HN := Lib.hid (news28 hB)
  have HO := Lib.hid hone
  clear hB hone
  go_enter Tryz.func67, Tryz.ntmps67
  go_wp2_with (at_builtin; refine wpList_append_lies _ rfl _ _ 67 rfl base 70 i0 (.agg #[.int .i64 0, .int .i64 0, .int .u64 0, .string ByteArray.empty, .slice none 0 0, .slice none 0 0, .pointer none, .int .i64 0]) 8 104 Tryz.underlying67 hi hz0 hz1 hz2 rfl (by decide) (.slice none 0 0) 0 [] rfl (World.ownsRow_nil _ _ _ _) ⟨B, 0, none⟩ 1 c new rfl hl HN.out HO.out (by decide) (by unfold maxLen; omega) (by omega) hb _ rfl ?_; intro g cap w' hown' hgr hat hlt)
  have HE : Hid (w'.ownsRow base 70 8 (.slice (some ⟨g, 0, none⟩) 1 cap) 1 new ∧ w.grownBy w' none ∧ g = w.heap.size) := Lib.hid ⟨by simpa using hown', hgr, by rcases hat with h | h; cases h; exact h⟩
  clear hown' hgr hat hlt
  go_wp2
  go_ret
  exact ⟨g, cap, rfl, HE.out⟩
set_option maxRecDepth 20000 in
set_option maxHeartbeats 2000000 in
theorem ins_end_25 (w : World) (base g n cap B c : Nat) (xs new : List Value) (hn : n ≤ 100000) (hown : w.ownsRow base 70 8 (.slice (some ⟨g, 0, none⟩) n cap) n xs) (hl : new.length = 8) (hB : w.heap[B]? = some (.cells new.toArray 70 (0, 0))) (hone : ∀ u ∈ new, u.oneCell' = true) (hb : base ≤ w.heap.size) :
    Calls Tryz.prog 67 #[.slice (some ⟨g, 0, none⟩) n cap, .int .i64 (n : Int), .slice (some ⟨B, 0, none⟩) 1 c] w fun e w' => ∃ g' cap', e = .returned (.slice (some ⟨g', 0, none⟩) (n + 1) cap') ∧ w'.ownsRow base 70 8 (.slice (some ⟨g', 0, none⟩) (n + 1) cap') (n + 1) (xs ++ new) ∧ w.grownBy w' (some g) ∧ (g' = g ∨ g' = w.heap.size) := by
  obtain ⟨i0, hi, hz0, hz1, hz2⟩ := info_parts Tryz.info70
  have hcap : n ≤ cap := by
    rcases hown.2 with ⟨h', _⟩ | ⟨g', cap', cur, h', e1, e2, e3, e4, -⟩
    · simp at h'
    · simp only [Value.slice.injEq, Option.some.injEq, Addr.mk.injEq, and_true, true_and] at h'
      omega
  have hcap2 : (n : Int) ≤ cap := by omega
  have HN := Lib.hid (news28 hB)
  have HO := Lib.hid hone
  have HW := Lib.hid hown
  clear hB hone hown
  go_enter Tryz.func67, Tryz.ntmps67
  go_wp2_with (at_builtin; refine wpList_append_lies _ rfl _ _ 67 rfl base 70 i0 (.agg #[.int .i64 0, .int .i64 0, .int .u64 0, .string ByteArray.empty, .slice none 0 0, .slice none 0 0, .pointer none, .int .i64 0]) 8 104 Tryz.underlying67 hi hz0 hz1 hz2 rfl (by decide) (.slice (some ⟨g, 0, none⟩) n cap) n xs rfl HW.out ⟨B, 0, none⟩ 1 c new rfl hl HN.out HO.out (by decide) (by unfold maxLen; omega) (by omega) hb _ rfl ?_; intro g' cap' w' hown' hgr hat hlt)
  all_goals
    have HE : Hid (w'.ownsRow base 70 8 (.slice (some ⟨g', 0, none⟩) (n + 1) cap') (n + 1) (xs ++ new) ∧ w.grownBy w' (some g) ∧ (g' = g ∨ g' = w.heap.size)) := Lib.hid ⟨hown', hgr, hat.elim (fun h => Or.inl (Option.some.inj (show some g = some g' from h)).symm) (fun h => Or.inr h)⟩
    clear hown' hgr hat hlt
    go_wp2
    go_ret
    exact ⟨g', cap', rfl, HE.out⟩
end Go.Proofs.YtoakfninndkgaaaGreatDoor.Val
set_option linter.unusedVariables false
namespace Go.Proofs.YtoakfninndkgaaaGreatDoor.Val
open Go.RowKit
theorem nan22 (a : ByteArray) (w : World) : Calls Tryz.prog 79 #[.string a] w fun e w' => e = .returned (.bool false) ∧ w = w' := by
  go_enter Tryz.func79, Tryz.ntmps79
  go_wp2
  go_ret
  exact ⟨by simp, rfl⟩
theorem nan31 (a : ByteArray) (w : World) : Calls Tryz.prog 94 #[.string a] w fun e w' => e = .returned (.bool false) ∧ w = w' := by
  go_enter Tryz.func94, Tryz.ntmps94
  go_wp2
  go_ret
  exact ⟨by simp, rfl⟩
theorem less_any (a b : ByteArray) (w : World) : Calls Tryz.prog 78 #[.string a, .string b] w fun e w' => e = .returned (.bool (Op.bytesLess a.toList b.toList)) ∧ w = w' := by
  go_enter Tryz.func78, Tryz.ntmps78
  go_wp2_with (go_at_call 94; ((with_reducible refine (nan31 _ _).mono ?_); rintro e w' ⟨rfl, rfl⟩))
  go_ret
  exact ⟨rfl, rfl⟩
/-- is it there? -/
def isAt (S : List ByteArray) (p : Nat) (x : ByteArray) : Bool := match S[p]? with
  | some s => s.toList == x.toList
  | none => false
set_option maxRecDepth 20000 in
set_option maxHeartbeats 2000000 in
theorem bs_any (w : World) (b off n cap p : Nat) (S : List ByteArray) (x : ByteArray) (hS : S.length = n) (hn : n ≤ 100000) (hc : Hid (∀ k s, S[k]? = some s → w.cell? ⟨b, off + k, none⟩ = some (.string s))) (hp : p ≤ n) (hpart : Hid (∀ k s, S[k]? = some s → Op.bytesLess s.toList x.toList = decide (k < p))) :
    Calls Tryz.prog 65 #[.slice (some ⟨b, off, none⟩) n cap, .string x] w fun e w' => e = .returned (.tuple #[.int .i64 (p : Int), .bool (isAt S p x)]) ∧ w = w' := by
  have HS := Lib.hid hS
  clear hS
  go_enter Tryz.func65, Tryz.ntmps65
  go_wp2
  go_loop [7, 8] (fun s7 s8 => ∃ i j : Nat, i ≤ p ∧ p ≤ j ∧ j ≤ n ∧ s7 = .int .i64 (i : Int) ∧ s8 = .int .i64 (j : Int)) (fun s7 s8 => (intOf s8).toNat - (intOf s7).toNat)
  case atStart => exact ⟨0, n, by omega, hp, by omega, rfl, rfl⟩
  case round =>
    obtain ⟨i, j, hi, hj, hjn, rfl, rfl⟩ := hrel
    by_cases hij : i < j
    · have hmi : i ≤ (i + j) / 2 ∧ (i + j) / 2 < j := by omega
      obtain ⟨s, hs⟩ : ∃ s, S[(i + j) / 2]? = some s := ⟨S[(i + j) / 2]'(by rw [HS.out]; omega), List.getElem?_eq_getElem _⟩
      have hcell := hc.out _ s hs
      have hl := hpart.out _ s hs
      have hmn : ((i : Int) + j) / 2 < n := by omega
      have h1 : IntKind.i64.wrap ((i : Int) + j) = (i : Int) + j := by rw [IntKind.wrap_i64]; omega
      have h2 : IntKind.u64.wrap ((i : Int) + j) = (i : Int) + j := by rw [IntKind.wrap_u64]; omega
      clear hs
      by_cases hmp : (i + j) / 2 < p
      · have hl2 : Op.bytesLess s.toList x.toList = true := by rw [hl]; exact decide_eq_true hmp
        clear hl
        go_wp2_with (go_at_call 78; ((with_reducible refine (less_any _ _ _).mono ?_); rintro e w' ⟨rfl, rfl⟩))
        go_round
        case rel => exact ⟨(i + j) / 2 + 1, j, by omega, hj, hjn, by go_num, rfl⟩
        case measure => simp [intOf]; omega
      · have hl2 : Op.bytesLess s.toList x.toList = false := by rw [hl]; exact decide_eq_false hmp
        clear hl
        go_wp2_with (go_at_call 78; ((with_reducible refine (less_any _ _ _).mono ?_); rintro e w' ⟨rfl, rfl⟩))
        go_round
        case rel => exact ⟨i, (i + j) / 2, hi, by omega, by omega, rfl, by go_num⟩
        case measure => simp [intOf]; omega
    · obtain rfl : i = p := by omega
      obtain rfl : j = i := by omega
      by_cases hpn : j < n
      · obtain ⟨s, hs⟩ : ∃ s, S[j]? = some s := ⟨S[j]'(by rw [HS.out]; exact hpn), List.getElem?_eq_getElem _⟩
        have hcell := hc.out _ s hs
        have hi2 : (j : Int) < n := by omega
        have HI : Hid (isAt S j x = (s.toList == x.toList)) := Lib.hid (by unfold isAt; rw [hs])
        clear hs
        by_cases he : (s.toList == x.toList) = true
        · go_wp2
          go_ret2
          exact ⟨by rw [HI.out, he]; rfl, rfl⟩
        · have he2 : (s.toList == x.toList) = false := by simpa using he
          clear he
          go_wp2_with (go_at_call 79; ((with_reducible refine (nan22 _ _).mono ?_); rintro e w' ⟨rfl, rfl⟩))
          go_ret2
          exact ⟨by rw [HI.out, he2]; rfl, rfl⟩
      · have hi2 : ¬ (j : Int) < n := by omega
        have HI : Hid (isAt S j x = false) := Lib.hid (by unfold isAt; rw [List.getElem?_eq_none (by rw [HS.out]; omega)])
        go_wp2
        go_ret2
        exact ⟨by rw [HI.out]; rfl, rfl⟩
theorem bs_nil (w : World) (x : ByteArray) : Calls Tryz.prog 65 #[.slice none 0 0, .string x] w fun e w' => e = .returned (.tuple #[.int .i64 0, .bool false]) ∧ w = w' := by
  go_enter Tryz.func65, Tryz.ntmps65
  go_wp2
  go_loop [7, 8] (fun s7 s8 => s7 = .int .i64 0 ∧ s8 = .int .i64 0) (fun _ _ => 0)
  case atStart => exact ⟨rfl, rfl⟩
  case round =>
    obtain ⟨rfl, rfl⟩ := hrel
    go_wp2
    go_ret2
    exact ⟨rfl, rfl⟩
end Go.Proofs.YtoakfninndkgaaaGreatDoor.Val
set_option linter.unusedVariables false
namespace Go.Proofs.YtoakfninndkgaaaGreatDoor
open Go.RowKit
/-- the kid of a name; -1: there is none. -/
def findK : List ByteArray → List Int → ByteArray → Int
  | n :: NS, k :: KS, s => if n = s then k else findK NS KS s
  | _, _, _ => -1
theorem findK_at : ∀ (NS : List ByteArray) (KS : List Int) (s : ByteArray) (p : Nat) (k : Int), NS[p]? = some s → KS[p]? = some k → (∀ q, q < p → NS[q]? ≠ some s) → findK NS KS s = k
  | n :: NS, x :: KS, s, 0, k, h1, h2, h3 => by
    simp at h1 h2
    simp [findK, h1, h2]
  | n :: NS, x :: KS, s, p + 1, k, h1, h2, h3 => by
    have h0 : n ≠ s := fun e => h3 0 (by omega) (by simp [e])
    have := findK_at NS KS s p k (by simpa using h1) (by simpa using h2) (fun q hq => by simpa using h3 (q + 1) (by omega))
    simp [findK, h0, this]
  | [], _, _, _, _, h1, _, _ => by simp at h1
  | _ :: _, [], _, _, _, _, h2, _ => by simp at h2
theorem findK_none : ∀ (NS : List ByteArray) (KS : List Int) (s : ByteArray), (∀ q : Nat, NS[q]? ≠ some s) → findK NS KS s = -1
  | n :: NS, x :: KS, s, h => by
    have h0 : n ≠ s := fun e => h 0 (by simp [e])
    have := findK_none NS KS s (fun q => by simpa using h (q + 1))
    simp [findK, h0, this]
  | [], _, _, _ => by simp [findK]
  | _ :: _, [], _, _ => by simp [findK]
theorem findK_cases : ∀ (NS : List ByteArray) (KS : List Int) (s : ByteArray), NS.length = KS.length → (findK NS KS s = -1 ∧ ∀ q : Nat, NS[q]? ≠ some s) ∨ ∃ (p : Nat) (k : Int), NS[p]? = some s ∧ KS[p]? = some k ∧ findK NS KS s = k ∧ ∀ q, q < p → NS[q]? ≠ some s
  | [], [], s, _ => Or.inl ⟨rfl, fun q => by simp⟩
  | n :: NS, x :: KS, s, h => by
    by_cases h0 : n = s
    · exact Or.inr ⟨0, x, by simp [h0], by simp, by simp [findK, h0], fun q hq => by omega⟩
    · rcases findK_cases NS KS s (by simpa using h) with ⟨h1, h2⟩ | ⟨p, k, h1, h2, h3, h4⟩
      · refine Or.inl ⟨by simp [findK, h0, h1], fun q => ?_⟩
        cases q with
        | zero => simpa using h0
        | succ q => simpa using h2 q
      · refine Or.inr ⟨p + 1, k, by simpa using h1, by simpa using h2, by simp [findK, h0, h3], fun q hq => ?_⟩
        cases q with
        | zero => simpa using h0
        | succ q => simpa using h4 q (by omega)
/-- how many names are ahead of one. -/
def lowN (NS : List ByteArray) (s : ByteArray) : Nat := (NS.takeWhile fun n => bl n s).length
theorem lowN_le (NS : List ByteArray) (s : ByteArray) : lowN NS s ≤ NS.length := by
  unfold lowN
  induction NS with
  | nil => simp
  | cons n l ih =>
    rw [List.takeWhile_cons]
    split
    · simp only [List.length_cons]; omega
    · simp
theorem lowN_part : ∀ (NS : List ByteArray) (s : ByteArray), NS.Pairwise (fun a b => bl a b = true) → ∀ (k : Nat) n, NS[k]? = some n → bl n s = decide (k < lowN NS s)
  | [], s, _, k, n, h => by simp at h
  | m :: NS, s, hp, k, n, h => by
    rw [List.pairwise_cons] at hp
    unfold lowN
    rw [List.takeWhile_cons]
    cases hm : bl m s with
    | false =>
      simp only [Bool.false_eq_true, if_false, List.length_nil, Nat.not_lt_zero, decide_false]
      cases k with
      | zero => simp at h; rw [← h]; exact hm
      | succ k =>
        have h2 := hp.1 n (List.mem_of_getElem? (by simpa using h))
        cases hn : bl n s with
        | false => rfl
        | true => rw [bl_trans h2 hn] at hm; cases hm
    | true =>
      simp only [if_true, List.length_cons]
      cases k with
      | zero => simp at h; rw [← h, hm]; simp
      | succ k =>
        rw [lowN_part NS s hp.2 k n (by simpa using h)]
        exact decide_eq_decide.2 (by simp [lowN])
theorem find_low (NS : List ByteArray) (KS : List Int) (s : ByteArray) (hr : risesB NS = true) (hl : NS.length = KS.length) :
    (Val.isAt NS (lowN NS s) s = true ∧ ∃ k, KS[lowN NS s]? = some k ∧ NS[lowN NS s]? = some s ∧ findK NS KS s = k) ∨ (Val.isAt NS (lowN NS s) s = false ∧ findK NS KS s = -1) := by
  have hp := rises_pair NS hr
  have hpart := lowN_part NS s hp
  rcases findK_cases NS KS s hl with ⟨h1, h2⟩ | ⟨p, k, h1, h2, h3, h4⟩
  · refine Or.inr ⟨?_, h1⟩
    unfold Val.isAt
    cases hn : NS[lowN NS s]? with
    | none => rfl
    | some n =>
      cases he : (n.toList == s.toList) with
      | false => simp [he]
      | true => exact absurd (hn.trans (congrArg some (toList_inj (by simpa using he)))) (h2 (lowN NS s))
  · have hpl : p = lowN NS s := by
      have h5 := hpart p s h1
      rw [bl_irrefl] at h5
      have h6 : ¬ p < lowN NS s := by simpa using h5.symm
      rcases Nat.lt_or_ge (lowN NS s) p with h7 | h7
      · obtain ⟨n, hn⟩ : ∃ n, NS[lowN NS s]? = some n := ⟨_, List.getElem?_eq_getElem (by have := (List.getElem?_eq_some_iff.1 h1).1; omega)⟩
        have h8 := hpart _ n hn
        rw [rises_at NS hr _ _ _ _ h7 hn h1] at h8
        simp at h8
      · omega
    subst hpl
    refine Or.inl ⟨?_, k, h2, h1, h3⟩
    unfold Val.isAt
    rw [h1]
    simp
theorem bs_zero (w : World) (a : Option Addr) (c : Nat) (x : ByteArray) : Calls Tryz.prog 65 #[.slice a 0 c, .string x] w fun e w' => e = .returned (.tuple #[.int .i64 0, .bool false]) ∧ w = w' := by
  go_enter Tryz.func65, Tryz.ntmps65
  go_wp2
  go_loop [7, 8] (fun s7 s8 => s7 = .int .i64 0 ∧ s8 = .int .i64 0) (fun _ _ => 0)
  case atStart => exact ⟨rfl, rfl⟩
  case round =>
    obtain ⟨rfl, rfl⟩ := hrel
    go_wp2
    go_ret2
    exact ⟨rfl, rfl⟩
theorem bs_names (w : World) (a : Option Addr) (n c : Nat) (NS : List ByteArray) (s : ByteArray) (hN : NamesAt w a n NS) (hn : n ≤ 100000) (hr : risesB NS = true) :
    Calls Tryz.prog 65 #[.slice a n c, .string s] w fun e w' => e = .returned (.tuple #[.int .i64 (lowN NS s : Nat), .bool (Val.isAt NS (lowN NS s) s)]) ∧ w = w' := by
  rcases hN.2 with rfl | ⟨g, o, rfl, hg, hc⟩
  · have := hN.1
    obtain rfl : NS = [] := List.eq_nil_of_length_eq_zero this.symm
    exact bs_zero w a c s
  · exact Val.bs_any w g o n c (lowN NS s) NS s hN.1.symm hn (Lib.hid hc) (by rw [hN.1]; exact lowN_le NS s) (Lib.hid (lowN_part NS s (rises_pair NS hr)))
def IntPost (w : World) (k : Int) (e : Ending) (w' : World) : Prop := e = .returned (.int .i64 k) ∧ Below w.heap.size w w'
set_option maxRecDepth 20000 in
set_option maxHeartbeats 2000000 in
theorem kid_any (w : World) (kd : Int) (na : Option Addr) (nn nc : Nat) (NS : List ByteArray) (ka : Option Addr) (kn kc : Nat) (KS : List Int) (op : Bool) (s : ByteArray) (hN : NamesAt w na nn NS) (hK : IntsAt w ka kn KS) (hn : nn ≤ 100000) (hl : nn = kn) (hr : risesB NS = true) :
    Calls Tryz.prog 61 #[.agg #[.int .i64 kd, .slice na nn nc, .slice ka kn kc, .bool op], .string s] w (IntPost w (findK NS KS s)) := by
  have hxb : (w.alloc (.cells #[.int .i64 kd, .slice na nn nc, .slice ka kn kc, .bool op] 38)).heap[w.heap.size]? = some (.cells #[.int .i64 kd, .slice na nn nc, .slice ka kn kc, .bool op] 38 (0, 0)) := heap_alloc_new w _
  have hba : Below w.heap.size w (w.alloc (.cells #[.int .i64 kd, .slice na nn nc, .slice ka kn kc, .bool op] 38)) := (Below.refl _ _).alloc (Nat.le_refl _) _
  have hbs := bs_names (w.alloc (.cells #[.int .i64 kd, .slice na nn nc, .slice ka kn kc, .bool op] 38)) na nn nc NS s (hN.on hba) hn hr
  have hkk := hK.on hba
  have b1 : (w.alloc (.cells #[.int .i64 kd, .slice na nn nc, .slice ka kn kc, .bool op] 38)).cell? ⟨w.heap.size, 1, none⟩ = some (.slice na nn nc) := by rw [cell_of_row _ _ 1 _ 38 _ hxb]; rfl
  have b2 : (w.alloc (.cells #[.int .i64 kd, .slice na nn nc, .slice ka kn kc, .bool op] 38)).cell? ⟨w.heap.size, 2, none⟩ = some (.slice ka kn kc) := by rw [cell_of_row _ _ 2 _ 38 _ hxb]; rfl
  have HB := Lib.hid hba
  have hfl := find_low NS KS s hr (by rw [← hN.1, ← hK.1]; exact hl)
  rcases hfl with ⟨h1, k, h2, h3, h4⟩ | ⟨h1, h4⟩
  · have hlt : lowN NS s < kn := by rw [hK.1]; exact (List.getElem?_eq_some_iff.1 h2).1
    obtain ⟨gk, ok, rfl, hgk, hck⟩ := hkk.2.resolve_left (by omega)
    have ck := hck _ _ h2
    have hlt2 : ((lowN NS s : Nat) : Int) < kn := by omega
    rw [h1] at hbs
    have HBS := Lib.hid hbs
    have H4 := Lib.hid h4
    clear hbs h1 h2 h3 h4 hck hxb hkk hN hK hr hba hl
    go_enter Tryz.func61, Tryz.ntmps61
    go_upto_region 1 with (fail)
    generalize (w.alloc (.cells #[.int .i64 kd, .slice na nn nc, .slice (some ⟨gk, ok, none⟩) kn kc, .bool op] 38)) = w1 at *
    generalize lowN NS s = p at *
    go_wp2_with (go_at_call 65; refine HBS.out.mono ?_; rintro e w' ⟨rfl, rfl⟩)
    go_ret
    exact ⟨by rw [H4.out]; rfl, HB.out⟩
  · rw [h1] at hbs
    have HBS := Lib.hid hbs
    have H4 := Lib.hid h4
    clear hbs h1 h4 hxb hkk hN hK hr hba hl
    go_enter Tryz.func61, Tryz.ntmps61
    go_wp2_with (go_at_call 65; refine HBS.out.mono ?_; rintro e w' ⟨rfl, rfl⟩)
    go_ret
    exact ⟨by rw [H4.out]; rfl, HB.out⟩
set_option maxRecDepth 20000 in
set_option maxHeartbeats 2000000 in
theorem rfind_any (w : World) (kd : Int) (na : Option Addr) (nn nc : Nat) (NS : List ByteArray) (ka : Option Addr) (kn kc : Nat) (KS : List Int) (op : Bool) (s : ByteArray) (hN : NamesAt w na nn NS) (hK : IntsAt w ka kn KS) (hn : nn ≤ 100000) (hl : nn = kn) :
    Calls Tryz.prog 75 #[.agg #[.int .i64 kd, .slice na nn nc, .slice ka kn kc, .bool op], .string s] w (IntPost w (findK NS KS s)) := by
  have hxb : (w.alloc (.cells #[.int .i64 kd, .slice na nn nc, .slice ka kn kc, .bool op] 38)).heap[w.heap.size]? = some (.cells #[.int .i64 kd, .slice na nn nc, .slice ka kn kc, .bool op] 38 (0, 0)) := heap_alloc_new w _
  have hba : Below w.heap.size w (w.alloc (.cells #[.int .i64 kd, .slice na nn nc, .slice ka kn kc, .bool op] 38)) := (Below.refl _ _).alloc (Nat.le_refl _) _
  have HNM := Lib.hid (hN.on hba)
  have HKD := Lib.hid (hK.on hba)
  have b1 : (w.alloc (.cells #[.int .i64 kd, .slice na nn nc, .slice ka kn kc, .bool op] 38)).cell? ⟨w.heap.size, 1, none⟩ = some (.slice na nn nc) := by rw [cell_of_row _ _ 1 _ 38 _ hxb]; rfl
  have b2 : (w.alloc (.cells #[.int .i64 kd, .slice na nn nc, .slice ka kn kc, .bool op] 38)).cell? ⟨w.heap.size, 2, none⟩ = some (.slice ka kn kc) := by rw [cell_of_row _ _ 2 _ 38 _ hxb]; rfl
  have HB := Lib.hid hba
  have HL := Lib.hid hl
  have HNL := Lib.hid hN.1
  have HKL := Lib.hid hK.1
  clear hxb hba hN hK hl
  go_enter Tryz.func75, Tryz.ntmps75
  go_upto_region 1 with (fail)
  generalize (w.alloc (.cells #[.int .i64 kd, .slice na nn nc, .slice ka kn kc, .bool op] 38)) = w1 at *
  go_wp2
  go_loop [10] (fun s10 => ∃ j : Nat, s10 = .int .i64 (j : Int) ∧ j ≤ nn ∧ Hid (∀ q, q < j → NS[q]? ≠ some s)) (fun s10 => nn - (intOf s10).toNat)
  case atStart => exact ⟨0, rfl, Nat.zero_le _, Lib.hid (fun q hq => by omega)⟩
  case round =>
    obtain ⟨j, rfl, hj, HQ⟩ := hrel
    have hwj : IntKind.i64.wrap ((j : Int) + 1) = (j : Int) + 1 := by rw [IntKind.wrap_i64]; omega
    by_cases hjn : j < nn
    · have hjn2 : (j : Int) < nn := by omega
      have hjn3 : (j : Int) < kn := by have := HL.out; omega
      obtain ⟨t, ht⟩ : ∃ t, NS[j]? = some t := ⟨_, List.getElem?_eq_getElem (by rw [← HNL.out]; exact hjn)⟩
      obtain ⟨k, hk⟩ : ∃ k, KS[j]? = some k := ⟨_, List.getElem?_eq_getElem (by rw [← HKL.out, ← HL.out]; exact hjn)⟩
      obtain ⟨gn, on, en, hgn, hcn⟩ := HNM.out.2.resolve_left (by omega)
      obtain ⟨gk, ok, ek, hgk, hck⟩ := HKD.out.2.resolve_left (by omega)
      have cn := hcn j t ht
      have ck := hck j k hk
      have HT := Lib.hid ht
      have HK := Lib.hid hk
      clear ht hk hcn hck hgn hgk
      subst en ek
      by_cases he : t = s
      · have hts : (t.toList == s.toList) = true := by simp [he]
        have HF := Lib.hid (findK_at NS KS s j k (by rw [HT.out, he]) HK.out HQ.out)
        clear he
        go_wp2
        go_ret
        exact ⟨by rw [HF.out]; rfl, HB.out⟩
      · have hts : (t.toList == s.toList) = false := by
          cases hh : (t.toList == s.toList) with
          | false => rfl
          | true => exact absurd (toList_inj (by simpa using hh)) he
        have HE := Lib.hid he
        clear he
        go_wp2
        go_round
        case rel => exact ⟨j + 1, by go_num, by omega, Lib.hid (fun q hq e => by
          by_cases h9 : q = j
          · subst h9
            have := HT.out.symm.trans e
            cases this
            exact HE.out rfl
          · exact HQ.out q (by omega) e)⟩
        case measure => simp [intOf]; omega
    · have hjn2 : ¬ (j : Int) < nn := by omega
      have HF := Lib.hid (findK_none NS KS s (fun q e => HQ.out q (by
        have := (List.getElem?_eq_some_iff.1 e).1
        rw [← HNL.out] at this
        omega) e))
      go_wp2
      go_ret
      exact ⟨by rw [HF.out]; rfl, HB.out⟩
end Go.Proofs.YtoakfninndkgaaaGreatDoor
set_option linter.unusedVariables false
namespace Go.Proofs.YtoakfninndkgaaaGreatDoor.Val
open Go.RowKit
theorem Tryz.info5 : (Tryz.prog.info? 5).map (fun i => (i.zero, i.size, i.bytes)) = some (some (.int .u8 0), 1, 1) := by kernel_rfl
theorem ownsRow_ge {w : World} {base : Nat} {e : TypeId} {size : Nat} {v : Value} {n : Nat} {xs : List Value} (h : w.ownsRow base e size v n xs) : ∀ g, v.ownBlock = some g → base ≤ g := by
  intro g hg
  rcases h.2 with h' | ⟨g', cap, cur, rfl, e2, -⟩
  · rw [h'.1] at hg; cases hg
  · cases hg; exact e2
/-- a slice of bytes of one's own, from block base on. -/
def BOwn (w : World) (base : Nat) (v : Value) (l : List Int) : Prop := w.ownsRow base 5 1 v l.length (l.map (Value.int .u8))
theorem BOwn.mono {w w' : World} {base : Nat} {v : Value} {l : List Int} (h : BOwn w base v l) (hb : ∀ k, k < w.heap.size → w'.heap[k]? = w.heap[k]?) : BOwn w' base v l := by
  refine ⟨h.1, ?_⟩
  rcases h.2 with h' | ⟨g, cap, cur, e1, e2, e3, e4⟩
  · exact Or.inl h'
  · exact Or.inr ⟨g, cap, cur, e1, e2, by rw [hb g (Array.getElem?_eq_some_iff.1 e3).1]; exact e3, e4⟩
theorem BOwn.alloc {w : World} {base : Nat} {v : Value} {l : List Int} (h : BOwn w base v l) (o : Obj) : BOwn (w.alloc o) base v l := h.mono (fun k hk => Below.heap_alloc w o k hk)
theorem BOwn.drew {w : World} {base : Nat} {v : Value} {l : List Int} (h : BOwn w base v l) : BOwn w.drew base v l := h.mono (fun k hk => rfl)
theorem BOwn.nil (w : World) (base : Nat) : BOwn w base (.slice none 0 0) [] := World.ownsRow_nil _ _ _ _
theorem bown_str (w : World) (base : Nat) (ty : TypeId) (v : Value) (l : List Int) (h : BOwn w base v l) (s : ByteArray) (m : List Int) (hm : Lib.strCells s = m.map (Value.int .u8)) (hlen : l.length + m.length ≤ 100000) (hb : base ≤ w.heap.size) :
    ∃ v' w', (Builtin.append_ #[123, 9] ty #[v, .string s]).run Tryz.prog w = .ok v' w' ∧ BOwn w' base v' (l ++ m) ∧ Below base w w' ∧ base ≤ w'.heap.size ∧ w.grownBy w' v.ownBlock := by
  obtain ⟨i0, hi, hz0, hz1, hz2⟩ := info_parts Tryz.info5
  have hsz : s.size = m.length := by
    have := congrArg List.length hm
    rw [Lib.strCells_length, List.length_map] at this
    exact this
  obtain ⟨v', w', r1, r2, r3, r4⟩ := Lib.run_append_own_string (P := Tryz.prog) w base 123 9 ty 5 i0 Tryz.underlying123 Tryz.underlying9 hi hz0 hz1 hz2 v l.length _ h s (by unfold maxLen; omega) (by omega) hb
  refine ⟨v', w', r1, ?_, (Below.refl base w).grown r3 hb (ownsRow_ge h), by have := r3.size; omega, r3⟩
  unfold BOwn
  rw [List.length_append, List.map_append, ← hm, ← hsz]
  exact r2
theorem bown_byte (w : World) (base : Nat) (ty : TypeId) (v : Value) (l : List Int) (h : BOwn w base v l) (B c : Nat) (x : Int) (hB : w.heap[B]? = some (.cells #[.int .u8 x] 5 (0, 0))) (hlen : l.length ≤ 99999) (hb : base ≤ w.heap.size) :
    ∃ v' w', (Builtin.append_ #[123, 123] ty #[v, .slice (some ⟨B, 0, none⟩) 1 c]).run Tryz.prog w = .ok v' w' ∧ BOwn w' base v' (l ++ [x]) ∧ Below base w w' ∧ base ≤ w'.heap.size ∧ w.grownBy w' v.ownBlock := by
  obtain ⟨i0, hi, hz0, hz1, hz2⟩ := info_parts Tryz.info5
  have hnews : ∀ (j : Nat) (u : Value), [Value.int .u8 x][j]? = some u → w.cell? ((⟨B, 0, none⟩ : Addr).add j) = some u := by
    intro j u hj
    have hadd : (⟨B, 0, none⟩ : Addr).add j = ⟨B, j, none⟩ := by unfold Addr.add; split <;> simp_all
    rw [hadd, cell_of_row w B j _ 5 _ hB]
    simpa using hj
  obtain ⟨v', w', r1, r2, r3, r4⟩ := run_append_own (P := Tryz.prog) w base 123 ty 5 i0 (.int .u8 0) 1 1 Tryz.underlying123 hi hz0 hz1 hz2 rfl (by decide) v l.length _ h ⟨B, 0, none⟩ 1 c [.int .u8 x] rfl hnews (by intro u hu; simp at hu; subst hu; rfl) (by unfold maxLen; omega) (by omega) hb
  refine ⟨v', w', r1, ?_, (Below.refl base w).grown r3 hb (ownsRow_ge h), by have := r3.size; omega, r3⟩
  unfold BOwn
  rw [List.length_append, List.map_append]
  exact r2
theorem wpList_bstr {w : World} {ops : Array Oper} {rest : List Oper} {o : Oper} {a : Act} {Q : Exit → Act → World → Prop} (hgd : o.guard = none) (sl x : Operand)
    (ho : o.op = .call { callee := .builtin .append, args := #[sl, x], argTypes := #[123, 9] }) (base : Nat) (v : Value) (l : List Int) (hs : a.eval sl = v) (h : BOwn w base v l) (s : ByteArray) (m : List Int) (hx : a.eval x = .string s) (hm : Lib.strCells s = m.map (Value.int .u8)) (hlen : l.length + m.length ≤ 100000) (hb : base ≤ w.heap.size)
    (hK : ∀ v' w', BOwn w' base v' (l ++ m) → Below base w w' → base ≤ w'.heap.size → w.grownBy w' v.ownBlock → wpList Tryz.prog ops Q rest (a.put o.dst v') w') : wpList Tryz.prog ops Q (o :: rest) a w := by
  refine wpList_plain hgd fun K hK' => ?_
  obtain ⟨v', w', hr, h2, h3, h4, h5⟩ := bown_str w base o.type v l h s m hm hlen hb
  unfold Oper.wp execOp
  simp only [ho, resolve, invoke, builtin, Sem.run_bind, Sem.run_pure, Result.andThen_ok, List.map_toArray, List.map_cons, List.map_nil, hs, hx, hr]
  exact hK' _ _ (hK v' w' h2 h3 h4 h5)
theorem wpList_bbyte {w : World} {ops : Array Oper} {rest : List Oper} {o : Oper} {a : Act} {Q : Exit → Act → World → Prop} (hgd : o.guard = none) (sl x : Operand)
    (ho : o.op = .call { callee := .builtin .append, args := #[sl, x], argTypes := #[123, 123] }) (base : Nat) (v : Value) (l : List Int) (hs : a.eval sl = v) (h : BOwn w base v l) (B c : Nat) (y : Int) (hx : a.eval x = .slice (some ⟨B, 0, none⟩) 1 c) (hB : w.heap[B]? = some (.cells #[.int .u8 y] 5 (0, 0))) (hlen : l.length ≤ 99999) (hb : base ≤ w.heap.size)
    (hK : ∀ v' w', BOwn w' base v' (l ++ [y]) → Below base w w' → base ≤ w'.heap.size → w.grownBy w' v.ownBlock → wpList Tryz.prog ops Q rest (a.put o.dst v') w') : wpList Tryz.prog ops Q (o :: rest) a w := by
  refine wpList_plain hgd fun K hK' => ?_
  obtain ⟨v', w', hr, h2, h3, h4, h5⟩ := bown_byte w base o.type v l h B c y hB hlen hb
  unfold Oper.wp execOp
  simp only [ho, resolve, invoke, builtin, Sem.run_bind, Sem.run_pure, Result.andThen_ok, List.map_toArray, List.map_cons, List.map_nil, hs, hx, hr]
  exact hK' _ _ (hK v' w' h2 h3 h4 h5)
theorem step_bstr {w : World} {ops : Array Oper} {o : Oper} {a : Act} {K : Act → World → Prop} {Q : Exit → Act → World → Prop} {E : Prop} (hgd : o.guard = none) (sl x : Operand)
    (ho : o.op = .call { callee := .builtin .append, args := #[sl, x], argTypes := #[123, 9] }) (base : Nat) (v : Value) (l : List Int) (hs : a.eval sl = v) (h : BOwn w base v l) (s : ByteArray) (m : List Int) (hx : a.eval x = .string s) (hm : Lib.strCells s = m.map (Value.int .u8)) (hlen : l.length + m.length ≤ 100000) (hb : base ≤ w.heap.size)
    (hK : ∀ v' w', BOwn w' base v' (l ++ m) → Below base w w' → base ≤ w'.heap.size → w.grownBy w' v.ownBlock → K (a.put o.dst v') w') :
    if Region.wanted o (yielded ops a.tmps) = true then Oper.wp Tryz.prog o a w K Q else E := by
  have hw : Region.wanted o (yielded ops a.tmps) = true := by simp [Region.wanted, hgd]
  rw [if_pos hw]
  obtain ⟨v', w', hr, h2, h3, h4, h5⟩ := bown_str w base o.type v l h s m hm hlen hb
  unfold Oper.wp execOp
  simp only [ho, resolve, invoke, builtin, Sem.run_bind, Sem.run_pure, Result.andThen_ok, List.map_toArray, List.map_cons, List.map_nil, hs, hx, hr]
  exact hK v' w' h2 h3 h4 h5
theorem BOwn.apart {w : World} {base Y : Nat} {v : Value} {l : List Int} {c : Array Value} (h : BOwn w base v l) (hY : w.heap[Y]? = some (.cells c 70 (0, 0))) : v.ownBlock ≠ some Y := by
  intro hv
  rcases h.2 with h' | ⟨g, cap, cur, e1, e2, e3, e4⟩
  · rw [h'.1] at hv; cases hv
  · rw [e1] at hv
    cases hv
    rw [e3] at hY
    simp at hY
set_option maxRecDepth 20000 in
set_option maxHeartbeats 2000000 in
theorem uint_1 (w : World) (base : Nat) (v : Value) (l : List Int) (h : BOwn w base v l) (hlen : l.length ≤ 9999) (hb : base ≤ w.heap.size) : Calls Tryz.prog 97 #[v, .int .u64 1, .int .i64 10] w fun e w' => ∃ v', e = .returned v' ∧ BOwn w' base v' (l ++ [49]) ∧ w.grownBy w' v.ownBlock ∧ base ≤ w'.heap.size := by
  have H := Lib.hid h
  clear h
  go_enter Tryz.func97, Tryz.ntmps97
  go_wp2_with (first
    | (at_builtin; refine wpList_bstr rfl _ _ rfl base v l rfl H.out _ [49] rfl (by kernel_rfl) (by simp; omega) hb ?_; intro v' w' hown' hbel' hsz' hgr')
    | go_in)
  go_ret
  exact ⟨v', rfl, hown', hgr', hsz'⟩
theorem int_1 (w : World) (base : Nat) (v : Value) (l : List Int) (h : BOwn w base v l) (hlen : l.length ≤ 9999) (hb : base ≤ w.heap.size) : Calls Tryz.prog 68 #[v, .int .i64 1, .int .i64 10] w fun e w' => ∃ v', e = .returned v' ∧ BOwn w' base v' (l ++ [49]) ∧ w.grownBy w' v.ownBlock ∧ base ≤ w'.heap.size := by
  have H := Lib.hid (uint_1 w base v l h hlen hb)
  clear h
  go_enter Tryz.func68, Tryz.ntmps68
  go_wp2_with (first
    | (go_at_call 97; ((with_reducible refine H.out.mono ?_); rintro e w' ⟨v', rfl, h1, h2, h3⟩))
    | go_in)
  go_ret
  exact ⟨v', rfl, h1, h2, h3⟩
set_option maxRecDepth 20000 in
set_option maxHeartbeats 2000000 in
theorem uint_2 (w : World) (base : Nat) (v : Value) (l : List Int) (h : BOwn w base v l) (hlen : l.length ≤ 9999) (hb : base ≤ w.heap.size) : Calls Tryz.prog 97 #[v, .int .u64 2, .int .i64 10] w fun e w' => ∃ v', e = .returned v' ∧ BOwn w' base v' (l ++ [50]) ∧ w.grownBy w' v.ownBlock ∧ base ≤ w'.heap.size := by
  have H := Lib.hid h
  clear h
  go_enter Tryz.func97, Tryz.ntmps97
  go_wp2_with (first
    | (at_builtin; refine wpList_bstr rfl _ _ rfl base v l rfl H.out _ [50] rfl (by kernel_rfl) (by simp; omega) hb ?_; intro v' w' hown' hbel' hsz' hgr')
    | go_in)
  go_ret
  exact ⟨v', rfl, hown', hgr', hsz'⟩
theorem int_2 (w : World) (base : Nat) (v : Value) (l : List Int) (h : BOwn w base v l) (hlen : l.length ≤ 9999) (hb : base ≤ w.heap.size) : Calls Tryz.prog 68 #[v, .int .i64 2, .int .i64 10] w fun e w' => ∃ v', e = .returned v' ∧ BOwn w' base v' (l ++ [50]) ∧ w.grownBy w' v.ownBlock ∧ base ≤ w'.heap.size := by
  have H := Lib.hid (uint_2 w base v l h hlen hb)
  clear h
  go_enter Tryz.func68, Tryz.ntmps68
  go_wp2_with (first
    | (go_at_call 97; ((with_reducible refine H.out.mono ?_); rintro e w' ⟨v', rfl, h1, h2, h3⟩))
    | go_in)
  go_ret
  exact ⟨v', rfl, h1, h2, h3⟩
end Go.Proofs.YtoakfninndkgaaaGreatDoor.Val
set_option linter.unusedVariables false
namespace Go.Proofs.YtoakfninndkgaaaGreatDoor.Val
open Go.RowKit
/-- a number's cells. -/
def kidC (d : Int) : List Value := [.int .i64 0, .int .i64 d, .int .u64 0, .string ⟨#[]⟩, .slice none 0 0, .slice none 0 0, .pointer none, .int .i64 0]
theorem put_1 (w : World) (base : Nat) (v : Value) (l : List Int) (h : BOwn w base v l) (hlen : l.length ≤ 9999) (hb : base ≤ w.heap.size) :
    Calls Tryz.prog 58 #[v, .agg #[.int .i64 0, .int .i64 1, .int .u64 0, .string ⟨#[]⟩, .slice none 0 0, .slice none 0 0, .pointer none, .int .i64 0]] w fun e w' => ∃ v', e = .returned v' ∧ BOwn w' base v' (l ++ [49]) ∧ w.grownBy w' v.ownBlock ∧ base ≤ w'.heap.size := by
  have H := Lib.hid (int_1 (w.alloc (.cells #[.int .i64 0, .int .i64 1, .int .u64 0, .string ⟨#[]⟩, .slice none 0 0, .slice none 0 0, .pointer none, .int .i64 0] 70)) base v l (h.alloc _) hlen (by simp; omega))
  clear h
  go_enter Tryz.func58, Tryz.ntmps58
  go_wp2_with (first
    | (go_at_call 68; ((with_reducible refine H.out.mono ?_); rintro e w' ⟨v', rfl, h1, h2, h3⟩))
    | go_in)
  go_ret
  exact ⟨v', rfl, h1, (World.grownBy_alloc _ _ _).trans h2, h3⟩
theorem put_2 (w : World) (base : Nat) (v : Value) (l : List Int) (h : BOwn w base v l) (hlen : l.length ≤ 9999) (hb : base ≤ w.heap.size) :
    Calls Tryz.prog 58 #[v, .agg #[.int .i64 0, .int .i64 2, .int .u64 0, .string ⟨#[]⟩, .slice none 0 0, .slice none 0 0, .pointer none, .int .i64 0]] w fun e w' => ∃ v', e = .returned v' ∧ BOwn w' base v' (l ++ [50]) ∧ w.grownBy w' v.ownBlock ∧ base ≤ w'.heap.size := by
  have H := Lib.hid (int_2 (w.alloc (.cells #[.int .i64 0, .int .i64 2, .int .u64 0, .string ⟨#[]⟩, .slice none 0 0, .slice none 0 0, .pointer none, .int .i64 0] 70)) base v l (h.alloc _) hlen (by simp; omega))
  clear h
  go_enter Tryz.func58, Tryz.ntmps58
  go_wp2_with (first
    | (go_at_call 68; ((with_reducible refine H.out.mono ?_); rintro e w' ⟨v', rfl, h1, h2, h3⟩))
    | go_in)
  go_ret
  exact ⟨v', rfl, h1, (World.grownBy_alloc _ _ _).trans h2, h3⟩
theorem BOwn.base {w : World} {Z X : Nat} {v : Value} {l : List Int} (h : BOwn w Z v l) (hx : X ≤ Z) : BOwn w X v l := by
  refine ⟨h.1, ?_⟩
  rcases h.2 with h' | ⟨g, cap, cur, e1, e2, e3⟩
  · exact Or.inl h'
  · exact Or.inr ⟨g, cap, cur, e1, by omega, e3⟩
/-- a record of two numbers, as it lies. -/
structure RecIn (w : World) (g1 g2 : Nat) : Prop where
  n0 : w.cell? ⟨g1, 0, none⟩ = some (.string ⟨#[97]⟩)
  n1 : w.cell? ⟨g1, 1, none⟩ = some (.string ⟨#[98]⟩)
  k0 : ∀ j u, (kidC 2)[j]? = some u → w.cell? ⟨g2, j, none⟩ = some u
  k1 : ∀ j u, (kidC 1)[j]? = some u → w.cell? ⟨g2, 8 + j, none⟩ = some u
  l1 : g1 < w.heap.size
  l2 : g2 < w.heap.size
theorem RecIn.below {w w' : World} {Z g1 g2 : Nat} (h : RecIn w g1 g2) (hb : Below Z w w') (h1 : g1 < Z) (h2 : g2 < Z) : RecIn w' g1 g2 where
  n0 := by rw [← h.n0]; exact hb.cell (p := ⟨g1, 0, none⟩) h1
  n1 := by rw [← h.n1]; exact hb.cell (p := ⟨g1, 1, none⟩) h1
  k0 := fun j u hu => by rw [← h.k0 j u hu]; exact hb.cell (p := ⟨g2, j, none⟩) h2
  k1 := fun j u hu => by rw [← h.k1 j u hu]; exact hb.cell (p := ⟨g2, 8 + j, none⟩) h2
  l1 := Nat.lt_of_lt_of_le h.l1 hb.size
  l2 := Nat.lt_of_lt_of_le h.l2 hb.size
def txt : Nat → List Int
  | 0 => [123]
  | 1 => [123, 97, 32, 61, 32, 50]
  | _ => [123, 97, 32, 61, 32, 50, 44, 32, 98, 32, 61, 32, 49]
set_option maxRecDepth 20000 in
set_option maxHeartbeats 2000000 in
theorem put_rec (w : World) (g1 c1 g2 c2 : Nat) (hr : RecIn w g1 g2) (h1 : 2 ≤ c1) (h2 : 2 ≤ c2) :
    Calls Tryz.prog 58 #[.slice none 0 0, .agg #[.int .i64 4, .int .i64 0, .int .u64 0, .string ⟨#[]⟩, .slice (some ⟨g1, 0, none⟩) 2 c1, .slice (some ⟨g2, 0, none⟩) 2 c2, .pointer none, .int .i64 3]] w fun e w' => ∃ v', e = .returned v' ∧ BOwn w' w.heap.size v' [123, 97, 32, 61, 32, 50, 44, 32, 98, 32, 61, 32, 49, 125] ∧ Below w.heap.size w w' := by
  have hc1 : (2 : Int) ≤ c1 := by omega
  have hc2 : (2 : Int) ≤ c2 := by omega
  go_enter Tryz.func58, Tryz.ntmps58
  go_upto_region 11 with (fail)
  have hb0 : Below w.heap.size w (w.alloc (.cells #[.int .i64 4, .int .i64 0, .int .u64 0, .string ⟨#[]⟩, .slice (some ⟨g1, 0, none⟩) 2 c1, .slice (some ⟨g2, 0, none⟩) 2 c2, .pointer none, .int .i64 3] 70)) := (Below.refl _ _).alloc (Nat.le_refl _) _
  have hx := heap_alloc_new w (.cells #[.int .i64 4, .int .i64 0, .int .u64 0, .string ⟨#[]⟩, .slice (some ⟨g1, 0, none⟩) 2 c1, .slice (some ⟨g2, 0, none⟩) 2 c2, .pointer none, .int .i64 3] 70)
  have hr0 := hr.below hb0 hr.l1 hr.l2
  have hXl : w.heap.size < (w.alloc (.cells #[.int .i64 4, .int .i64 0, .int .u64 0, .string ⟨#[]⟩, .slice (some ⟨g1, 0, none⟩) 2 c1, .slice (some ⟨g2, 0, none⟩) 2 c2, .pointer none, .int .i64 3] 70)).heap.size := by simp
  clear hr
  generalize w.alloc (.cells #[.int .i64 4, .int .i64 0, .int .u64 0, .string ⟨#[]⟩, .slice (some ⟨g1, 0, none⟩) 2 c1, .slice (some ⟨g2, 0, none⟩) 2 c2, .pointer none, .int .i64 3] 70) = w0 at *
  generalize hXe : w.heap.size = X at *
  have HXe := Lib.hid hXe
  clear hXe
  have HX := Lib.hid hx
  have HR := Lib.hid hr0
  obtain ⟨Z, hZ⟩ : ∃ Z, Z = w0.heap.size := ⟨_, rfl⟩
  have HXC : Hid (∀ w', Below Z w0 w' → w'.cell? ⟨X, 4, none⟩ = some (.slice (some ⟨g1, 0, none⟩) 2 c1) ∧ w'.cell? ⟨X, 5, none⟩ = some (.slice (some ⟨g2, 0, none⟩) 2 c2)) := Lib.hid fun w' hb => by
    have := (hb.block X (by omega)).trans hx
    exact ⟨by rw [cell_of_row w' X 4 _ 70 _ this]; rfl, by rw [cell_of_row w' X 5 _ 70 _ this]; rfl⟩
  have HRR : Hid (∀ w', Below Z w0 w' → RecIn w' g1 g2) := Lib.hid fun w' hb => hr0.below hb (by rw [hZ]; exact hr0.l1) (by rw [hZ]; exact hr0.l2)
  have hO0 := (BOwn.nil (w0.alloc (.cells #[.int .u8 123] 5)) Z)
  have hB0 : (w0.alloc (.cells #[.int .u8 123] 5)).heap[w0.heap.size]? = some (.cells #[.int .u8 123] 5 (0, 0)) := heap_alloc_new _ _
  have hz0 : Z ≤ (w0.alloc (.cells #[.int .u8 123] 5)).heap.size := by simp; omega
  have HO0 := Lib.hid hO0
  have HB0 := Lib.hid hB0
  have HZ0 := Lib.hid hz0
  clear hO0 hB0 hz0 hx hr0 h1 h2
  go_upto_region 12 with (at_builtin; refine wpList_bbyte rfl _ _ rfl Z (.slice none 0 0) [] rfl HO0.out _ _ 123 rfl HB0.out (Nat.zero_le _) HZ0.out ?_; intro v1 w1 hown1 hbel1 hsz1 hgr1)
  have hb1 : Below Z w0 w1 := ((Below.refl Z w0).alloc (by omega) _).trans hbel1
  have HO1 := Lib.hid hown1
  obtain ⟨x4, x5⟩ := HXC.out w1 hb1
  clear hbel1 hown1 hgr1
  go_upto_region 13 with (fail)
  have HB1 := Lib.hid hb1
  clear x4 x5 hb1 HO0 HB0 HZ0 HX HR
  go_loopw [0, 54] (fun s0 i wr => ∃ (k : Nat), k ≤ 2 ∧ i = .int .i64 (k : Int) ∧ Hid (BOwn wr Z s0 (txt k)) ∧ Hid (Below Z w0 wr)) (fun _ i _ => 2 - (intOf i).toNat)
  case atStart => exact ⟨0, by omega, rfl, HO1, HB1⟩
  case round =>
    clear HO1 HB1
    obtain ⟨k, hk, rfl, HO, HB⟩ := hrel
    -- ROUNDS
    rcases (show k = 0 ∨ k = 1 ∨ k = 2 by omega) with rfl | rfl | rfl
    · skip
      have hbe := HB.out
      have hrr := HRR.out wr hbe
      have d0 := hrr.k0 (0) _ rfl
      have d1 := hrr.k0 1 _ rfl
      have d2 := hrr.k0 2 _ rfl
      have d3 := hrr.k0 3 _ rfl
      have d4 := hrr.k0 4 _ rfl
      have d5 := hrr.k0 5 _ rfl
      have d6 := hrr.k0 6 _ rfl
      have d7 := hrr.k0 7 _ rfl
      go_upto_region 15 with (fail)
      have hY := heap_alloc_new wr (.cells #[.int .i64 0, .int .i64 2, .int .u64 0, .string ⟨#[]⟩, .slice none 0 0, .slice none 0 0, .pointer none, .int .i64 0] 70)
      have hb5 : Below Z w0 (wr.alloc (.cells #[.int .i64 0, .int .i64 2, .int .u64 0, .string ⟨#[]⟩, .slice none 0 0, .slice none 0 0, .pointer none, .int .i64 0] 70)) := hbe.alloc (by have := hbe.size; omega) _
      have hO5 := HO.out.alloc (.cells #[.int .i64 0, .int .i64 2, .int .u64 0, .string ⟨#[]⟩, .slice none 0 0, .slice none 0 0, .pointer none, .int .i64 0] 70)
      clear d0 d1 d2 d3 d4 d5 d6 d7 hrr hbe
      generalize wr.alloc (.cells #[.int .i64 0, .int .i64 2, .int .u64 0, .string ⟨#[]⟩, .slice none 0 0, .slice none 0 0, .pointer none, .int .i64 0] 70) = w5 at *
      generalize wr.heap.size = Y at *
      have HY := Lib.hid hY
      have HB5 := Lib.hid hb5
      have HO5 := Lib.hid hO5
      clear hY hb5 hO5
      obtain ⟨w6, v6, hw6⟩ : ∃ w6 v6, w6 = w5 ∧ v6 = u0 := ⟨_, _, rfl, rfl⟩
      obtain ⟨rfl, rfl⟩ := hw6
      have HO6 := HO5
      have HY6 := HY
      have HB6 := HB5
      go_upto_region 17 with (fail)
      have hz6 : Z ≤ w6.drew.heap.size := by have := HB6.out.size; show Z ≤ w6.heap.size; omega
      have HZ6 := Lib.hid hz6
      have HB6d : Hid (Below Z w0 w6.drew) := Lib.hid HB6.out.drew
      have F : ∀ w', Below Z w0 w' → w'.heap[Y]? = some (.cells #[.int .i64 0, .int .i64 2, .int .u64 0, .string ⟨#[]⟩, .slice none 0 0, .slice none 0 0, .pointer none, .int .i64 0] 70) → (w'.cell? ⟨X, 4, none⟩ = some (.slice (some ⟨g1, 0, none⟩) 2 c1) ∧ w'.cell? ⟨g1, 0, none⟩ = some (.string ⟨#[97]⟩) ∧ w'.cell? ⟨Y, 0, none⟩ = some (.int .i64 0) ∧ w'.cell? ⟨Y, 1, none⟩ = some (.int .i64 2) ∧ w'.cell? ⟨Y, 2, none⟩ = some (.int .u64 0) ∧ w'.cell? ⟨Y, 3, none⟩ = some (.string ⟨#[]⟩) ∧ w'.cell? ⟨Y, 4, none⟩ = some (.slice none 0 0) ∧ w'.cell? ⟨Y, 5, none⟩ = some (.slice none 0 0) ∧ w'.cell? ⟨Y, 6, none⟩ = some (.pointer none) ∧ w'.cell? ⟨Y, 7, none⟩ = some (.int .i64 0)) := fun w' hb hy =>
        ⟨(HXC.out w' hb).1, (HRR.out w' hb).n0, by rw [cell_of_row w' Y 0 _ 70 _ hy]; rfl, by rw [cell_of_row w' Y 1 _ 70 _ hy]; rfl, by rw [cell_of_row w' Y 2 _ 70 _ hy]; rfl, by rw [cell_of_row w' Y 3 _ 70 _ hy]; rfl, by rw [cell_of_row w' Y 4 _ 70 _ hy]; rfl, by rw [cell_of_row w' Y 5 _ 70 _ hy]; rfl, by rw [cell_of_row w' Y 6 _ 70 _ hy]; rfl, by rw [cell_of_row w' Y 7 _ 70 _ hy]; rfl⟩
      have HF := Lib.hid F
      clear F hz6
      have q0 := HF.out w6.drew HB6d.out HY6.out
      obtain ⟨r0, r1, r2, r3, r4, r5, r6, r7, r8, r9⟩ := HF.out w6 HB6.out HY6.out
      go_region_held3 (fun w' => w'.cell? ⟨X, 4, none⟩ = some (.slice (some ⟨g1, 0, none⟩) 2 c1) ∧ w'.cell? ⟨g1, 0, none⟩ = some (.string ⟨#[97]⟩) ∧ w'.cell? ⟨Y, 0, none⟩ = some (.int .i64 0) ∧ w'.cell? ⟨Y, 1, none⟩ = some (.int .i64 2) ∧ w'.cell? ⟨Y, 2, none⟩ = some (.int .u64 0) ∧ w'.cell? ⟨Y, 3, none⟩ = some (.string ⟨#[]⟩) ∧ w'.cell? ⟨Y, 4, none⟩ = some (.slice none 0 0) ∧ w'.cell? ⟨Y, 5, none⟩ = some (.slice none 0 0) ∧ w'.cell? ⟨Y, 6, none⟩ = some (.pointer none) ∧ w'.cell? ⟨Y, 7, none⟩ = some (.int .i64 0)) (first | exact q0 | exact q7 | exact q8 | exact q9)
        (first
          | (refine step_bstr rfl _ _ rfl Z v6 _ rfl HO6.out.drew ⟨#[97]⟩ [97] rfl (by kernel_rfl) (by decide +kernel) HZ6.out ?_; intro v7 w7 hO7 hb7 hz7 hg7; have hB7 : Below Z w0 w7 := HB6d.out.trans hb7; have hY7 : w7.heap[Y]? = some (.cells #[.int .i64 0, .int .i64 2, .int .u64 0, .string ⟨#[]⟩, .slice none 0 0, .slice none 0 0, .pointer none, .int .i64 0] 70) := (hg7.block Y (Array.getElem?_eq_some_iff.1 HY6.out).1 (fun e => HO6.out.apart HY6.out e.symm)).trans HY6.out; have HO7 := Lib.hid hO7; have HB7 := Lib.hid hB7; have HY7 := Lib.hid hY7; have HZ7 := Lib.hid hz7; have q7 := HF.out w7 hB7 hY7; obtain ⟨s0, s1, s2, s3, s4, s5, s6, s7, s8, s9⟩ := HF.out w7 hB7 hY7; clear hO7 hb7 hg7 hB7 hY7 hz7)
          | (refine step_bstr rfl _ _ rfl Z v7 _ rfl HO7.out ⟨#[32, 61, 32]⟩ [32, 61, 32] rfl (by kernel_rfl) (by decide +kernel) HZ7.out ?_; intro v8 w8 hO8 hb8 hz8 hg8; have hB8 : Below Z w0 w8 := HB7.out.trans hb8; have hY8 : w8.heap[Y]? = some (.cells #[.int .i64 0, .int .i64 2, .int .u64 0, .string ⟨#[]⟩, .slice none 0 0, .slice none 0 0, .pointer none, .int .i64 0] 70) := (hg8.block Y (Array.getElem?_eq_some_iff.1 HY7.out).1 (fun e => HO7.out.apart HY7.out e.symm)).trans HY7.out; have HP8 := Lib.hid (put_2 w8 Z v8 _ hO8 (by decide +kernel) hz8); have HO8 := Lib.hid hO8; have HY8 := Lib.hid hY8; have HZ8 := Lib.hid hz8; have HB8 := Lib.hid hB8; have q8 := HF.out w8 hB8 hY8; obtain ⟨t0, t1, t2, t3, t4, t5, t6, t7, t8, t9⟩ := HF.out w8 hB8 hY8; clear hO8 hb8 hg8 hB8 hY8 hz8)
          | (go_at_call 58; refine HP8.out.mono ?_; rintro e w9 ⟨v9, rfl, hO9, hg9, hz9⟩; have hB9 : Below Z w0 w9 := HB8.out.grown hg9 HZ8.out (ownsRow_ge HO8.out); have hY9 : w9.heap[Y]? = some (.cells #[.int .i64 0, .int .i64 2, .int .u64 0, .string ⟨#[]⟩, .slice none 0 0, .slice none 0 0, .pointer none, .int .i64 0] 70) := (hg9.block Y (Array.getElem?_eq_some_iff.1 HY8.out).1 (fun e => HO8.out.apart HY8.out e.symm)).trans HY8.out; have HB9 := Lib.hid hB9; have HO9 := Lib.hid hO9; have q9 := HF.out w9 hB9 hY9; obtain ⟨y0, y1, y2, y3, y4, y5, y6, y7, y8, y9⟩ := HF.out w9 hB9 hY9; clear hO9 hg9 hz9 hB9 hY9)
          | fail)
      all_goals
        go_wp2
        go_round
        case rel => exact ⟨1, by omega, rfl, HO9, HB9⟩
        case measure => simp [intOf]
    · skip
      have hbe := HB.out
      have hrr := HRR.out wr hbe
      have d0 := hrr.k1 (0) _ rfl
      have d1 := hrr.k1 1 _ rfl
      have d2 := hrr.k1 2 _ rfl
      have d3 := hrr.k1 3 _ rfl
      have d4 := hrr.k1 4 _ rfl
      have d5 := hrr.k1 5 _ rfl
      have d6 := hrr.k1 6 _ rfl
      have d7 := hrr.k1 7 _ rfl
      go_upto_region 15 with (fail)
      have hY := heap_alloc_new wr (.cells #[.int .i64 0, .int .i64 1, .int .u64 0, .string ⟨#[]⟩, .slice none 0 0, .slice none 0 0, .pointer none, .int .i64 0] 70)
      have hb5 : Below Z w0 (wr.alloc (.cells #[.int .i64 0, .int .i64 1, .int .u64 0, .string ⟨#[]⟩, .slice none 0 0, .slice none 0 0, .pointer none, .int .i64 0] 70)) := hbe.alloc (by have := hbe.size; omega) _
      have hO5 := HO.out.alloc (.cells #[.int .i64 0, .int .i64 1, .int .u64 0, .string ⟨#[]⟩, .slice none 0 0, .slice none 0 0, .pointer none, .int .i64 0] 70)
      clear d0 d1 d2 d3 d4 d5 d6 d7 hrr hbe
      generalize wr.alloc (.cells #[.int .i64 0, .int .i64 1, .int .u64 0, .string ⟨#[]⟩, .slice none 0 0, .slice none 0 0, .pointer none, .int .i64 0] 70) = w5 at *
      generalize wr.heap.size = Y at *
      have HY := Lib.hid hY
      have HB5 := Lib.hid hb5
      have HO5 := Lib.hid hO5
      clear hY hb5 hO5
      have hz5 : Z ≤ w5.heap.size := by have := HB5.out.size; omega
      have HZ5 := Lib.hid hz5
      clear hz5
      go_upto_region 17 with (at_builtin; refine wpList_bstr rfl _ _ rfl Z u0 _ rfl HO5.out ⟨#[44, 32]⟩ [44, 32] rfl (by kernel_rfl) (by decide +kernel) HZ5.out ?_; intro v6 w6 hO6 hb6 hz6 hg6)
      have hY6 : w6.heap[Y]? = some (.cells #[.int .i64 0, .int .i64 1, .int .u64 0, .string ⟨#[]⟩, .slice none 0 0, .slice none 0 0, .pointer none, .int .i64 0] 70) := (hg6.block Y (Array.getElem?_eq_some_iff.1 HY.out).1 (fun e => HO5.out.apart HY.out e.symm)).trans HY.out
      have hB6 : Below Z w0 w6 := HB5.out.trans hb6
      have HO6 := Lib.hid hO6
      have HY6 := Lib.hid hY6
      have HB6 := Lib.hid hB6
      clear hO6 hb6 hz6 hg6 hY6 hB6
      have hz6 : Z ≤ w6.drew.heap.size := by have := HB6.out.size; show Z ≤ w6.heap.size; omega
      have HZ6 := Lib.hid hz6
      have HB6d : Hid (Below Z w0 w6.drew) := Lib.hid HB6.out.drew
      have F : ∀ w', Below Z w0 w' → w'.heap[Y]? = some (.cells #[.int .i64 0, .int .i64 1, .int .u64 0, .string ⟨#[]⟩, .slice none 0 0, .slice none 0 0, .pointer none, .int .i64 0] 70) → (w'.cell? ⟨X, 4, none⟩ = some (.slice (some ⟨g1, 0, none⟩) 2 c1) ∧ w'.cell? ⟨g1, 1, none⟩ = some (.string ⟨#[98]⟩) ∧ w'.cell? ⟨Y, 0, none⟩ = some (.int .i64 0) ∧ w'.cell? ⟨Y, 1, none⟩ = some (.int .i64 1) ∧ w'.cell? ⟨Y, 2, none⟩ = some (.int .u64 0) ∧ w'.cell? ⟨Y, 3, none⟩ = some (.string ⟨#[]⟩) ∧ w'.cell? ⟨Y, 4, none⟩ = some (.slice none 0 0) ∧ w'.cell? ⟨Y, 5, none⟩ = some (.slice none 0 0) ∧ w'.cell? ⟨Y, 6, none⟩ = some (.pointer none) ∧ w'.cell? ⟨Y, 7, none⟩ = some (.int .i64 0)) := fun w' hb hy =>
        ⟨(HXC.out w' hb).1, (HRR.out w' hb).n1, by rw [cell_of_row w' Y 0 _ 70 _ hy]; rfl, by rw [cell_of_row w' Y 1 _ 70 _ hy]; rfl, by rw [cell_of_row w' Y 2 _ 70 _ hy]; rfl, by rw [cell_of_row w' Y 3 _ 70 _ hy]; rfl, by rw [cell_of_row w' Y 4 _ 70 _ hy]; rfl, by rw [cell_of_row w' Y 5 _ 70 _ hy]; rfl, by rw [cell_of_row w' Y 6 _ 70 _ hy]; rfl, by rw [cell_of_row w' Y 7 _ 70 _ hy]; rfl⟩
      have HF := Lib.hid F
      clear F hz6
      have q0 := HF.out w6.drew HB6d.out HY6.out
      obtain ⟨r0, r1, r2, r3, r4, r5, r6, r7, r8, r9⟩ := HF.out w6 HB6.out HY6.out
      go_region_held3 (fun w' => w'.cell? ⟨X, 4, none⟩ = some (.slice (some ⟨g1, 0, none⟩) 2 c1) ∧ w'.cell? ⟨g1, 1, none⟩ = some (.string ⟨#[98]⟩) ∧ w'.cell? ⟨Y, 0, none⟩ = some (.int .i64 0) ∧ w'.cell? ⟨Y, 1, none⟩ = some (.int .i64 1) ∧ w'.cell? ⟨Y, 2, none⟩ = some (.int .u64 0) ∧ w'.cell? ⟨Y, 3, none⟩ = some (.string ⟨#[]⟩) ∧ w'.cell? ⟨Y, 4, none⟩ = some (.slice none 0 0) ∧ w'.cell? ⟨Y, 5, none⟩ = some (.slice none 0 0) ∧ w'.cell? ⟨Y, 6, none⟩ = some (.pointer none) ∧ w'.cell? ⟨Y, 7, none⟩ = some (.int .i64 0)) (first | exact q0 | exact q7 | exact q8 | exact q9)
        (first
          | (refine step_bstr rfl _ _ rfl Z v6 _ rfl HO6.out.drew ⟨#[98]⟩ [98] rfl (by kernel_rfl) (by decide +kernel) HZ6.out ?_; intro v7 w7 hO7 hb7 hz7 hg7; have hB7 : Below Z w0 w7 := HB6d.out.trans hb7; have hY7 : w7.heap[Y]? = some (.cells #[.int .i64 0, .int .i64 1, .int .u64 0, .string ⟨#[]⟩, .slice none 0 0, .slice none 0 0, .pointer none, .int .i64 0] 70) := (hg7.block Y (Array.getElem?_eq_some_iff.1 HY6.out).1 (fun e => HO6.out.apart HY6.out e.symm)).trans HY6.out; have HO7 := Lib.hid hO7; have HB7 := Lib.hid hB7; have HY7 := Lib.hid hY7; have HZ7 := Lib.hid hz7; have q7 := HF.out w7 hB7 hY7; obtain ⟨s0, s1, s2, s3, s4, s5, s6, s7, s8, s9⟩ := HF.out w7 hB7 hY7; clear hO7 hb7 hg7 hB7 hY7 hz7)
          | (refine step_bstr rfl _ _ rfl Z v7 _ rfl HO7.out ⟨#[32, 61, 32]⟩ [32, 61, 32] rfl (by kernel_rfl) (by decide +kernel) HZ7.out ?_; intro v8 w8 hO8 hb8 hz8 hg8; have hB8 : Below Z w0 w8 := HB7.out.trans hb8; have hY8 : w8.heap[Y]? = some (.cells #[.int .i64 0, .int .i64 1, .int .u64 0, .string ⟨#[]⟩, .slice none 0 0, .slice none 0 0, .pointer none, .int .i64 0] 70) := (hg8.block Y (Array.getElem?_eq_some_iff.1 HY7.out).1 (fun e => HO7.out.apart HY7.out e.symm)).trans HY7.out; have HP8 := Lib.hid (put_1 w8 Z v8 _ hO8 (by decide +kernel) hz8); have HO8 := Lib.hid hO8; have HY8 := Lib.hid hY8; have HZ8 := Lib.hid hz8; have HB8 := Lib.hid hB8; have q8 := HF.out w8 hB8 hY8; obtain ⟨t0, t1, t2, t3, t4, t5, t6, t7, t8, t9⟩ := HF.out w8 hB8 hY8; clear hO8 hb8 hg8 hB8 hY8 hz8)
          | (go_at_call 58; refine HP8.out.mono ?_; rintro e w9 ⟨v9, rfl, hO9, hg9, hz9⟩; have hB9 : Below Z w0 w9 := HB8.out.grown hg9 HZ8.out (ownsRow_ge HO8.out); have hY9 : w9.heap[Y]? = some (.cells #[.int .i64 0, .int .i64 1, .int .u64 0, .string ⟨#[]⟩, .slice none 0 0, .slice none 0 0, .pointer none, .int .i64 0] 70) := (hg9.block Y (Array.getElem?_eq_some_iff.1 HY8.out).1 (fun e => HO8.out.apart HY8.out e.symm)).trans HY8.out; have HB9 := Lib.hid hB9; have HO9 := Lib.hid hO9; have q9 := HF.out w9 hB9 hY9; obtain ⟨y0, y1, y2, y3, y4, y5, y6, y7, y8, y9⟩ := HF.out w9 hB9 hY9; clear hO9 hg9 hz9 hB9 hY9)
          | fail)
      all_goals
        go_wp2
        go_round
        case rel => exact ⟨2, by omega, rfl, HO9, HB9⟩
        case measure => simp [intOf]
    · have hz : Z ≤ (wr.alloc (.cells #[.int .u8 125] 5)).heap.size := by have := HB.out.size; simp; omega
      have HZ := Lib.hid hz
      have HO2 := Lib.hid (HO.out.alloc (.cells #[.int .u8 125] 5))
      have HN := Lib.hid (heap_alloc_new wr (.cells #[.int .u8 125] 5))
      have hB2 : Below Z w0 (wr.alloc (.cells #[.int .u8 125] 5)) := HB.out.alloc (by have := HB.out.size; omega) _
      have HB2 := Lib.hid hB2
      clear hz hB2
      go_wp2_with (at_builtin; refine wpList_bbyte rfl _ _ rfl Z u0 _ rfl HO2.out _ _ 125 rfl HN.out (by decide +kernel) HZ.out ?_; intro v9 w9 hO9 hb9 hz9 hg9)
      go_ret
      have hXZ : w.heap.size ≤ Z := by rw [HXe.out]; omega
      exact ⟨v9, rfl, hO9.base hXZ, by rw [HXe.out]; exact hb0.trans ((HB2.out.trans hb9).mono (by rw [← HXe.out]; exact hXZ))⟩
end Go.Proofs.YtoakfninndkgaaaGreatDoor.Val
