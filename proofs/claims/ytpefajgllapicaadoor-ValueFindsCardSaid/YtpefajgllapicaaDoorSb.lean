/- Walks: ValueFinds. -/
import Derived.Test.YtpefajgllapicaaDoorSa
set_option linter.unusedVariables false
namespace Go.Proofs.YtpefajgllapicaaDoor.valueFinds
open Go.RowKit
theorem finds_long (w : World) (a : Option Addr) (n c : Nat) (x : ByteArray) (hn : 20 < n) : Calls Tryd.prog 5 #[.slice a n c, .string x] w fun e w' => e = .returned (.bool true) ∧ Below w.heap.size w w' := by
  have hn2 : (20 : Int) < n := by omega
  go_enter Tryd.func5, Tryd.ntmps5
  go_upto_region 2 with (go_at_call 7; refine (lives_true _).mono ?_; rintro e w1 ⟨rfl, h1⟩)
  have H1 := Lib.hid h1
  clear h1
  go_wp2_with (go_at_call 7; refine (lives_true _).mono ?_; rintro e w2 ⟨rfl, h2⟩)
  go_ret
  exact ⟨rfl, H1.out.trans (h2.mono H1.out.size)⟩
theorem ptr_lt {w : World} {p : Value} {L : List (ByteArray × Int)} (h : Chain w p L) : ptrM p ≤ w.heap.size := by
  cases h with
  | nil => exact Nat.zero_le _
  | cons b s i q L h1 h2 h3 => exact (Array.getElem?_eq_some_iff.1 h1).1
theorem finds_some (w : World) (gn on : Nat) (n c : Nat) (NS : List ByteArray) (x : ByteArray) (hn : n ≤ 20) (hN : n = NS.length) (hg : gn < w.heap.size) (hc : ∀ j s, NS[j]? = some s → w.cell? ⟨gn, on + j, none⟩ = some (.string s)) : Calls Tryd.prog 5 #[.slice (some ⟨gn, on, none⟩) n c, .string x] w fun e w' => e = .returned (.bool true) ∧ Below w.heap.size w w' := by
  have HC := Lib.hid hc
  have HN := Lib.hid hN
  have HG := Lib.hid hg
  have hn2 : (n : Int) ≤ 20 := by omega
  clear hc hN hg
  go_enter Tryd.func5, Tryd.ntmps5
  go_upto_region 6 with (go_at_call 7; refine (lives_true _).mono ?_; rintro e w1 ⟨rfl, h1⟩)
  have H1 := Lib.hid h1
  clear h1
  go_loopw [5, 6, 7, 22] (fun s5 s6 s7 s22 wr => ∃ (j : Nat) (q : Option Addr) (L : List (ByteArray × Int)), j ≤ n ∧ s22 = .int .i64 (j : Int) ∧ s5 = .pointer q ∧ s6 = .int .i64 (iOf (look L x)) ∧ s7 = .bool (look L x).isSome ∧ Hid (Chain wr (.pointer q) L) ∧ Hid (Below w.heap.size w wr)) (fun _ _ _ s22 _ => n - (intOf s22).toNat)
  case atStart => exact ⟨0, none, [], by omega, rfl, rfl, rfl, rfl, .nil, H1⟩
  case round =>
    obtain ⟨j, q, L, hj, rfl, rfl, rfl, rfl, HCh, HB⟩ := hrel
    by_cases hjn : j < n
    · obtain ⟨s, hs⟩ : ∃ s, NS[j]? = some s := ⟨_, List.getElem?_eq_getElem (by rw [← HN.out]; exact hjn)⟩
      have hlt : (j : Int) < n := by omega
      have ac : wr.cell? ⟨gn, on + j, none⟩ = some (.string s) := by rw [← HC.out j s hs]; exact HB.out.cell (p := ⟨gn, on + j, none⟩) HG.out
      have hwj : IntKind.i64.wrap ((j : Int) + 1) = (j : Int) + 1 := by rw [IntKind.wrap_i64]; omega
      have hch : Chain (wr.alloc (.cells #[.string s, .int .i64 0, .int .i64 (j : Int), .int .u64 0, .string ⟨#[]⟩, .slice none 0 0, .slice none 0 0, .pointer none, .int .i64 0, .pointer q] 43)) (.pointer (some ⟨wr.heap.size, 0, none⟩)) ((s, (j : Int)) :: L) :=
        .cons wr.heap.size s j q L (heap_alloc_new wr _) (ptr_lt HCh.out) (HCh.out.on (fun k hk => Below.heap_alloc wr _ k hk))
      have HCH := Lib.hid hch
      have HBA : Hid (Below w.heap.size w (wr.alloc (.cells #[.string s, .int .i64 0, .int .i64 (j : Int), .int .u64 0, .string ⟨#[]⟩, .slice none 0 0, .slice none 0 0, .pointer none, .int .i64 0, .pointer q] 43))) := Lib.hid (HB.out.alloc HB.out.size _)
      clear hs hch
      by_cases hsx : s = x
      · have hs1 : (s.toList == x.toList) = true := by rw [hsx]; simp
        have HL : Hid (look ((s, (j : Int)) :: L) x = some (j : Int)) := Lib.hid (by rw [look_cons, if_pos hsx])
        clear hsx
        go_wp2
        go_roundw
        case rel => exact ⟨j + 1, _, _, by omega, rfl, rfl, by rw [HL.out]; rfl, by rw [HL.out]; rfl, HCH, HBA⟩
        case measure => simp [intOf]; omega
      · have hs1 : (s.toList == x.toList) = false := by
          cases hh : (s.toList == x.toList) with
          | false => rfl
          | true => exact absurd (toList_inj (by simpa using hh)) hsx
        have HL : Hid (look ((s, (j : Int)) :: L) x = look L x) := Lib.hid (by rw [look_cons, if_neg hsx])
        clear hsx
        go_wp2
        go_roundw
        case rel => exact ⟨j + 1, _, _, by omega, rfl, rfl, by rw [HL.out], by rw [HL.out], HCH, HBA⟩
        case measure => simp [intOf]; omega

    · have hjn2 : ¬ (j : Int) < n := by omega
      have HF := Lib.hid (find_any _ q L x HCh.out)
      cases hl : look L x with
      | none =>
        rw [hl] at HF
        have HFn : Hid (Calls Tryd.prog 13 #[.pointer q, .string x] wr fun e w' => e = .returned (.tuple #[.agg #[.int .i64 0, .int .i64 0, .int .u64 0, .string ⟨#[]⟩, .slice none 0 0, .slice none 0 0, .pointer none, .int .i64 0], .bool false]) ∧ Below wr.heap.size wr w') := HF
        have e1 : iOf (none : Option Int) = 0 := rfl
        clear HF hl
        go_wp2_with (go_at_call 13; refine HFn.out.mono ?_; rintro e w5 ⟨rfl, hb5⟩)
        go_ret
        refine ⟨by simp, ?_⟩
        exact (HB.out.trans (hb5.mono HB.out.size)).alloc (Nat.le_trans HB.out.size hb5.size) _

      | some i =>
        rw [hl] at HF
        have HFn : Hid (Calls Tryd.prog 13 #[.pointer q, .string x] wr fun e w' => e = .returned (.tuple #[.agg #[.int .i64 0, .int .i64 i, .int .u64 0, .string ⟨#[]⟩, .slice none 0 0, .slice none 0 0, .pointer none, .int .i64 0], .bool true]) ∧ Below wr.heap.size wr w') := HF
        have e1 : iOf (some i : Option Int) = i := rfl
        clear HF hl
        go_wp2_with (go_at_call 13; refine HFn.out.mono ?_; rintro e w5 ⟨rfl, hb5⟩)
        go_ret
        refine ⟨by simp, ?_⟩
        exact (HB.out.trans (hb5.mono HB.out.size)).alloc (Nat.le_trans HB.out.size hb5.size) _

theorem finds_zero (w : World) (a0 : Option Addr) (c : Nat) (x : ByteArray) : Calls Tryd.prog 5 #[.slice a0 0 c, .string x] w fun e w' => e = .returned (.bool true) ∧ Below w.heap.size w w' := by
  go_enter Tryd.func5, Tryd.ntmps5
  go_upto_region 6 with (go_at_call 7; refine (lives_true _).mono ?_; rintro e w1 ⟨rfl, h1⟩)
  have H1 := Lib.hid h1
  clear h1
  go_loopw [5, 6, 7, 22] (fun s5 s6 s7 s22 wr => ∃ (j : Nat) (q : Option Addr) (L : List (ByteArray × Int)), j ≤ 0 ∧ s22 = .int .i64 (j : Int) ∧ s5 = .pointer q ∧ s6 = .int .i64 (iOf (look L x)) ∧ s7 = .bool (look L x).isSome ∧ Hid (Chain wr (.pointer q) L) ∧ Hid (Below w.heap.size w wr)) (fun _ _ _ s22 _ => 0 - (intOf s22).toNat)
  case atStart => exact ⟨0, none, [], by omega, rfl, rfl, rfl, rfl, .nil, H1⟩
  case round =>
    obtain ⟨j, q, L, hj, rfl, rfl, rfl, rfl, HCh, HB⟩ := hrel
    by_cases hjn : j < 0
    · omega

    · have hjn2 : ¬ (j : Int) < 0 := by omega
      have HF := Lib.hid (find_any _ q L x HCh.out)
      cases hl : look L x with
      | none =>
        rw [hl] at HF
        have HFn : Hid (Calls Tryd.prog 13 #[.pointer q, .string x] wr fun e w' => e = .returned (.tuple #[.agg #[.int .i64 0, .int .i64 0, .int .u64 0, .string ⟨#[]⟩, .slice none 0 0, .slice none 0 0, .pointer none, .int .i64 0], .bool false]) ∧ Below wr.heap.size wr w') := HF
        have e1 : iOf (none : Option Int) = 0 := rfl
        clear HF hl
        go_wp2_with (go_at_call 13; refine HFn.out.mono ?_; rintro e w5 ⟨rfl, hb5⟩)
        go_ret
        refine ⟨by simp, ?_⟩
        exact (HB.out.trans (hb5.mono HB.out.size)).alloc (Nat.le_trans HB.out.size hb5.size) _

      | some i =>
        rw [hl] at HF
        have HFn : Hid (Calls Tryd.prog 13 #[.pointer q, .string x] wr fun e w' => e = .returned (.tuple #[.agg #[.int .i64 0, .int .i64 i, .int .u64 0, .string ⟨#[]⟩, .slice none 0 0, .slice none 0 0, .pointer none, .int .i64 0], .bool true]) ∧ Below wr.heap.size wr w') := HF
        have e1 : iOf (some i : Option Int) = i := rfl
        clear HF hl
        go_wp2_with (go_at_call 13; refine HFn.out.mono ?_; rintro e w5 ⟨rfl, hb5⟩)
        go_ret
        refine ⟨by simp, ?_⟩
        exact (HB.out.trans (hb5.mono HB.out.size)).alloc (Nat.le_trans HB.out.size hb5.size) _

end Go.Proofs.YtpefajgllapicaaDoor.valueFinds
