/- Walks: typ. -/
import Derived.Test.YtoakfninndkgaaaGreatDoorNe
set_option linter.unusedVariables false
namespace Go.Proofs.YtoakfninndkgaaaGreatDoor
open Go.RowKit
/-- has a type what its kind asks (whose names rise; that is no alias)? -/
def typB (kd : Int) (op : Bool) (nn kn : Nat) (NS : List ByteArray) : Bool :=
  if op = true ∧ kd ≠ 9 then false
  else if kd = 7 then decide (nn = 0) && decide (kn = 2)
  else if kd = 8 then decide (nn = kn) && NS.all fun s => nameL s.data.toList
  else if kd = 9 then decide (nn = kn) && NS.all fun s => tagL s.data.toList
  else decide (0 ≤ kd) && decide (kd ≤ 6) && decide (nn = 0) && decide (kn = 0)
set_option maxRecDepth 20000 in
set_option maxHeartbeats 1000000 in
theorem typ_any (w : World) (kd pos : Int) (na : Option Addr) (nn nc : Nat) (NS : List ByteArray) (ka : Option Addr) (kn kc : Nat) (op : Bool) (hN : NamesAt w na nn NS) (hn : nn ≤ 100000) (hk : kn ≤ 100000) (hz : ∀ s ∈ NS, s.size ≤ 100000) (hr : risesB NS = true) (h10 : kd ≠ 10) :
    Calls Tryz.prog 89 #[.agg #[.int .i64 kd, .int .i64 pos, .string ⟨#[]⟩, .slice na nn nc, .slice ka kn kc, .bool op]] w fun e w' => e = .returned (.bool (typB kd op nn kn NS)) ∧ Below w.heap.size w w' := by
  have HB : Hid (Below w.heap.size w (w.alloc (.cells #[.int .i64 kd, .int .i64 pos, .string ⟨#[]⟩, .slice na nn nc, .slice ka kn kc, .bool op] 143))) := Lib.hid ((Below.refl _ _).alloc (Nat.le_refl _) _)
  have HO := Lib.hid (once_any (w.alloc (.cells #[.int .i64 kd, .int .i64 pos, .string ⟨#[]⟩, .slice na nn nc, .slice ka kn kc, .bool op] 143)) na nn nc NS (hN.on HB.out) hn hz hr)
  have HN := Lib.hid (hN.on HB.out)
  have HX3 : Hid ((w.alloc (.cells #[.int .i64 kd, .int .i64 pos, .string ⟨#[]⟩, .slice na nn nc, .slice ka kn kc, .bool op] 143)).cell? ⟨w.heap.size, 3, none⟩ = some (.slice na nn nc)) := Lib.hid (by rw [cell_of_row _ _ 3 _ 143 _ (heap_alloc_new w _)]; rfl)
  have HZ := Lib.hid hz
  have hnI : (nn : Int) ≤ 100000 := by omega
  have hkI : (kn : Int) ≤ 100000 := by omega
  have q10 : (kd == 10) = false := by simp [h10]
  clear hN hz hr h10
  by_cases h9 : kd = 9
  · subst h9
    have ht : typB 9 op nn kn NS = (decide (nn = kn) && NS.all fun s => tagL s.data.toList) := by simp [typB]
    by_cases he : nn = kn
    · subst he
      rw [decide_eq_true rfl, Bool.true_and] at ht
      have HT := Lib.hid ht
      clear ht
      generalize hb : (NS.all fun s => tagL s.data.toList) = b at HT
      have HBB := Lib.hid hb
      clear hb
      cases op
      all_goals
        cases b
        all_goals
          go_enter Tryz.func89, Tryz.ntmps89
          go_wp2_with (first | (go_at_call 103; refine HO.out.mono ?_; rintro e w5 ⟨rfl, hb5⟩; have HB5 := Lib.hid (HB.out.trans (hb5.mono HB.out.size)); have HAL := Lib.hid (all_105 w5 na nn nc NS (HN.out.on hb5) hn HZ.out); rw [HBB.out] at HAL; have x3 := (hb5.cell (p := ⟨w.heap.size, 3, none⟩) (by simp)).trans HX3.out; clear hb5) | (go_at_call 104; refine HAL.out.mono ?_; rintro e w6 ⟨rfl, hb6⟩))
          go_ret
          exact ⟨by rw [HT.out]; simp, HB5.out.trans (hb6.mono HB5.out.size)⟩
    · rw [decide_eq_false he, Bool.false_and] at ht
      have hne : ((nn : Int) == (kn : Int)) = false := beq_eq_false_iff_ne.2 (fun e => he (by exact_mod_cast e))
      have HT := Lib.hid ht
      clear ht he
      cases op
      all_goals
        go_enter Tryz.func89, Tryz.ntmps89
        go_wp2
        go_ret
        exact ⟨by rw [HT.out]; rfl, HB.out⟩
  · have q9 : (kd == 9) = false := by simp [h9]
    have q9' : (kd != 9) = true := by simp [h9]
    cases op with
    | true =>
      have ht : typB kd true nn kn NS = false := by simp [typB, h9]
      have HT := Lib.hid ht
      clear ht h9
      go_enter Tryz.func89, Tryz.ntmps89
      go_wp2
      go_ret
      exact ⟨by rw [HT.out]; rfl, HB.out⟩
    | false =>
      by_cases h7 : kd = 7
      · subst h7
        have ht : typB 7 false nn kn NS = (decide (nn = 0) && decide (kn = 2)) := by simp [typB]
        clear h9 q9 q9' q10
        by_cases a : nn = 0
        · have a2 : ((nn : Int) == 0) = true := by simp [a]
          rw [decide_eq_true a, Bool.true_and] at ht
          by_cases c : kn = 2
          · have c2 : ((kn : Int) == 2) = true := by simp [c]
            rw [decide_eq_true c] at ht
            have HT := Lib.hid ht
            clear ht a c
            go_enter Tryz.func89, Tryz.ntmps89
            go_wp2
            go_ret
            exact ⟨by rw [HT.out]; rfl, HB.out⟩
          · have c2 : ((kn : Int) == 2) = false := beq_eq_false_iff_ne.2 (fun e => c (by exact_mod_cast e))
            rw [decide_eq_false c] at ht
            have HT := Lib.hid ht
            clear ht a c
            go_enter Tryz.func89, Tryz.ntmps89
            go_wp2
            go_ret
            exact ⟨by rw [HT.out]; rfl, HB.out⟩
        · have a2 : ((nn : Int) == 0) = false := beq_eq_false_iff_ne.2 (fun e => a (by exact_mod_cast e))
          rw [decide_eq_false a, Bool.false_and] at ht
          have HT := Lib.hid ht
          clear ht a
          go_enter Tryz.func89, Tryz.ntmps89
          go_wp2
          go_ret
          exact ⟨by rw [HT.out]; rfl, HB.out⟩
      · have q7 : (kd == 7) = false := by simp [h7]
        by_cases h8 : kd = 8
        · subst h8
          have ht : typB 8 false nn kn NS = (decide (nn = kn) && NS.all fun s => nameL s.data.toList) := by simp [typB]
          clear h9 h7 q9 q9' q7 q10
          by_cases he : nn = kn
          · subst he
            rw [decide_eq_true rfl, Bool.true_and] at ht
            have HT := Lib.hid ht
            clear ht
            generalize hb : (NS.all fun s => nameL s.data.toList) = b at HT
            have HBB := Lib.hid hb
            clear hb
            cases b
            all_goals
              go_enter Tryz.func89, Tryz.ntmps89
              go_wp2_with (first | (go_at_call 103; refine HO.out.mono ?_; rintro e w5 ⟨rfl, hb5⟩; have HB5 := Lib.hid (HB.out.trans (hb5.mono HB.out.size)); have HAL := Lib.hid (all_102 w5 na nn nc NS (HN.out.on hb5) hn HZ.out); rw [HBB.out] at HAL; have x3 := (hb5.cell (p := ⟨w.heap.size, 3, none⟩) (by simp)).trans HX3.out; clear hb5) | (go_at_call 104; refine HAL.out.mono ?_; rintro e w6 ⟨rfl, hb6⟩))
              go_ret
              exact ⟨by rw [HT.out]; simp, HB5.out.trans (hb6.mono HB5.out.size)⟩
          · rw [decide_eq_false he, Bool.false_and] at ht
            have hne : ((nn : Int) == (kn : Int)) = false := beq_eq_false_iff_ne.2 (fun e => he (by exact_mod_cast e))
            have HT := Lib.hid ht
            clear ht he
            go_enter Tryz.func89, Tryz.ntmps89
            go_wp2
            go_ret
            exact ⟨by rw [HT.out]; rfl, HB.out⟩
        · have q8 : (kd == 8) = false := by simp [h8]
          have ht : typB kd false nn kn NS = (decide (0 ≤ kd) && decide (kd ≤ 6) && decide (nn = 0) && decide (kn = 0)) := by simp [typB, h7, h8, h9]
          clear h7 h8 h9
          by_cases a : 0 ≤ kd
          · by_cases b : kd ≤ 6
            · have hs : IntKind.i64.wrap ((nn : Int) + (kn : Int)) = (nn : Int) + (kn : Int) := by rw [IntKind.wrap_i64]; omega
              by_cases c : nn = 0 ∧ kn = 0
              · obtain ⟨c1, c2⟩ := c
                have c3 : ((nn : Int) + (kn : Int) == 0) = true := by simp [c1, c2]
                rw [decide_eq_true a, decide_eq_true b, decide_eq_true c1, decide_eq_true c2] at ht
                have HT := Lib.hid ht
                clear ht c1 c2
                go_enter Tryz.func89, Tryz.ntmps89
                go_wp2
                go_ret
                exact ⟨by rw [HT.out]; rfl, HB.out⟩
              · have c3 : ((nn : Int) + (kn : Int) == 0) = false := beq_eq_false_iff_ne.2 (fun e => c (by omega))
                have c4 : (decide (nn = 0) && decide (kn = 0)) = false := by
                  rw [Bool.eq_false_iff]
                  intro h
                  simp at h
                  exact c h
                rw [Bool.and_assoc, c4, Bool.and_false] at ht
                have HT := Lib.hid ht
                clear ht c c4
                go_enter Tryz.func89, Tryz.ntmps89
                go_wp2
                go_ret
                exact ⟨by rw [HT.out]; rfl, HB.out⟩
            · have b2 : (6 : Int) < kd := by omega
              rw [decide_eq_false b] at ht
              simp only [Bool.and_false, Bool.false_and] at ht
              have HT := Lib.hid ht
              clear ht b
              go_enter Tryz.func89, Tryz.ntmps89
              go_wp2
              go_ret
              exact ⟨by rw [HT.out]; rfl, HB.out⟩
          · have a2 : kd < (0 : Int) := by omega
            rw [decide_eq_false a] at ht
            simp only [Bool.false_and] at ht
            have HT := Lib.hid ht
            clear ht a
            go_enter Tryz.func89, Tryz.ntmps89
            go_wp2
            go_ret
            exact ⟨by rw [HT.out]; rfl, HB.out⟩
end Go.Proofs.YtoakfninndkgaaaGreatDoor
