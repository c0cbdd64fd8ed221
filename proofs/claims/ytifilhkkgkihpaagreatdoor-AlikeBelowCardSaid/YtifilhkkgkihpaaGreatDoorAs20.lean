/- Walks: the kid of a name: value.kid, ref09.find. -/
import Derived.Test.YtifilhkkgkihpaaGreatDoorAs04
import Derived.Test.YtifilhkkgkihpaaGreatDoorAs19
set_option linter.unusedSimpArgs false
set_option linter.unusedVariables false
set_option linter.unusedSimpArgs false
set_option linter.unusedVariables false
namespace Go.Proofs.YtifilhkkgkihpaaGreatDoor
open Go.RowKit
/-- the kid of a name; -1: there is none. -/
def findK : List ByteArray → List Int → ByteArray → Int
  | n :: NS, k :: KS, s => if n = s then k else findK NS KS s
  | _, _, _ => -1
theorem findK_at : ∀ (NS : List ByteArray) (KS : List Int) (s : ByteArray) (p : Nat) (k : Int), NS[p]? = some s → KS[p]? = some k → (∀ q, q < p → NS[q]? ≠ some s) → findK NS KS s = k
  | n :: NS, x :: KS, s, 0, k, h1, h2, h3 => by
    simp at h1 h2
    simp [findK, h1, h2]
  | n :: NS, x :: KS, s, p + 1, k, h1, h2, h3 => by
    have h0 : n ≠ s := fun e => h3 0 (by omega) (by simp [e])
    have := findK_at NS KS s p k (by simpa using h1) (by simpa using h2) (fun q hq => by simpa using h3 (q + 1) (by omega))
    simp [findK, h0, this]
  | [], _, _, _, _, h1, _, _ => by simp at h1
  | _ :: _, [], _, _, _, _, h2, _ => by simp at h2
theorem findK_cases : ∀ (NS : List ByteArray) (KS : List Int) (s : ByteArray), NS.length = KS.length → (findK NS KS s = -1 ∧ ∀ q : Nat, NS[q]? ≠ some s) ∨ ∃ (p : Nat) (k : Int), NS[p]? = some s ∧ KS[p]? = some k ∧ findK NS KS s = k ∧ ∀ q, q < p → NS[q]? ≠ some s
  | [], [], s, _ => Or.inl ⟨rfl, fun q => by simp⟩
  | n :: NS, x :: KS, s, h => by
    by_cases h0 : n = s
    · exact Or.inr ⟨0, x, by simp [h0], by simp, by simp [findK, h0], fun q hq => by omega⟩
    · rcases findK_cases NS KS s (by simpa using h) with ⟨h1, h2⟩ | ⟨p, k, h1, h2, h3, h4⟩
      · refine Or.inl ⟨by simp [findK, h0, h1], fun q => ?_⟩
        cases q with
        | zero => simpa using h0
        | succ q => simpa using h2 q
      · refine Or.inr ⟨p + 1, k, by simpa using h1, by simpa using h2, by simp [findK, h0, h3], fun q hq => ?_⟩
        cases q with
        | zero => simpa using h0
        | succ q => simpa using h4 q (by omega)
/-- how many names are ahead of one. -/
def lowN (NS : List ByteArray) (s : ByteArray) : Nat := (NS.takeWhile fun n => bl n s).length
theorem lowN_le (NS : List ByteArray) (s : ByteArray) : lowN NS s ≤ NS.length := by
  unfold lowN
  induction NS with
  | nil => simp
  | cons n l ih =>
    rw [List.takeWhile_cons]
    split
    · simp only [List.length_cons]; omega
    · simp
theorem lowN_part : ∀ (NS : List ByteArray) (s : ByteArray), NS.Pairwise (fun a b => bl a b = true) → ∀ (k : Nat) n, NS[k]? = some n → bl n s = decide (k < lowN NS s)
  | [], s, _, k, n, h => by simp at h
  | m :: NS, s, hp, k, n, h => by
    rw [List.pairwise_cons] at hp
    unfold lowN
    rw [List.takeWhile_cons]
    cases hm : bl m s with
    | false =>
      simp only [Bool.false_eq_true, if_false, List.length_nil, Nat.not_lt_zero, decide_false]
      cases k with
      | zero => simp at h; rw [← h]; exact hm
      | succ k =>
        have h2 := hp.1 n (List.mem_of_getElem? (by simpa using h))
        cases hn : bl n s with
        | false => rfl
        | true => rw [bl_trans h2 hn] at hm; cases hm
    | true =>
      simp only [if_true, List.length_cons]
      cases k with
      | zero => simp at h; rw [← h, hm]; simp
      | succ k =>
        rw [lowN_part NS s hp.2 k n (by simpa using h)]
        exact decide_eq_decide.2 (by simp [lowN])
theorem find_low (NS : List ByteArray) (KS : List Int) (s : ByteArray) (hr : risesB NS = true) (hl : NS.length = KS.length) :
    (Val.isAt NS (lowN NS s) s = true ∧ ∃ k, KS[lowN NS s]? = some k ∧ NS[lowN NS s]? = some s ∧ findK NS KS s = k) ∨ (Val.isAt NS (lowN NS s) s = false ∧ findK NS KS s = -1) := by
  have hp := rises_pair NS hr
  have hpart := lowN_part NS s hp
  rcases findK_cases NS KS s hl with ⟨h1, h2⟩ | ⟨p, k, h1, h2, h3, h4⟩
  · refine Or.inr ⟨?_, h1⟩
    unfold Val.isAt
    cases hn : NS[lowN NS s]? with
    | none => rfl
    | some n =>
      cases he : (n.toList == s.toList) with
      | false => simp [he]
      | true => exact absurd (hn.trans (congrArg some (toList_inj (by simpa using he)))) (h2 (lowN NS s))
  · have hpl : p = lowN NS s := by
      have h5 := hpart p s h1
      rw [bl_irrefl] at h5
      have h6 : ¬ p < lowN NS s := by simpa using h5.symm
      rcases Nat.lt_or_ge (lowN NS s) p with h7 | h7
      · obtain ⟨n, hn⟩ : ∃ n, NS[lowN NS s]? = some n := ⟨_, List.getElem?_eq_getElem (by have := (List.getElem?_eq_some_iff.1 h1).1; omega)⟩
        have h8 := hpart _ n hn
        rw [rises_at NS hr _ _ _ _ h7 hn h1] at h8
        simp at h8
      · omega
    subst hpl
    refine Or.inl ⟨?_, k, h2, h1, h3⟩
    unfold Val.isAt
    rw [h1]
    simp
theorem bs_zero (w : World) (a : Option Addr) (c : Nat) (x : ByteArray) : Calls Tryz.prog 144 #[.slice a 0 c, .string x] w fun e w' => e = .returned (.tuple #[.int .i64 0, .bool false]) ∧ w = w' := by
  go_enter Tryz.func144, Tryz.ntmps144
  go_wp2
  go_loop [7, 8] (fun s7 s8 => s7 = .int .i64 0 ∧ s8 = .int .i64 0) (fun _ _ => 0)
  case atStart => exact ⟨rfl, rfl⟩
  case round =>
    obtain ⟨rfl, rfl⟩ := hrel
    go_wp2
    go_ret2
    exact ⟨rfl, rfl⟩
theorem bs_names (w : World) (a : Option Addr) (n c : Nat) (NS : List ByteArray) (s : ByteArray) (hN : NamesAt w a n NS) (hn : n ≤ 100000) (hr : risesB NS = true) :
    Calls Tryz.prog 144 #[.slice a n c, .string s] w fun e w' => e = .returned (.tuple #[.int .i64 (lowN NS s : Nat), .bool (Val.isAt NS (lowN NS s) s)]) ∧ w = w' := by
  rcases hN.2 with rfl | ⟨g, o, rfl, hg, hc⟩
  · have := hN.1
    obtain rfl : NS = [] := List.eq_nil_of_length_eq_zero this.symm
    exact bs_zero w a c s
  · exact Val.bs_any w g o n c (lowN NS s) NS s hN.1.symm hn (Lib.hid hc) (by rw [hN.1]; exact lowN_le NS s) (Lib.hid (lowN_part NS s (rises_pair NS hr)))
def IntPost (w : World) (k : Int) (e : Ending) (w' : World) : Prop := e = .returned (.int .i64 k) ∧ Below w.heap.size w w'
end Go.Proofs.YtifilhkkgkihpaaGreatDoor
