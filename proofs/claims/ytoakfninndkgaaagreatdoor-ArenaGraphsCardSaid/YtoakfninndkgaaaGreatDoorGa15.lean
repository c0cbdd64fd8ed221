/- Walks: slices.Clone, and the clone of a head. Walks: the clone of a head. Walks: arena.right. Walks: arena.Var. Walks: arena.Head. -/
import Derived.Test.YtoakfninndkgaaaGreatDoorGa14
import Derived.Deep.RegionLaw
import Derived.Deep.AppendLies
set_option linter.unusedSimpArgs false
set_option linter.unusedVariables false
set_option linter.unusedVariables false
namespace Go.Proofs.YtoakfninndkgaaaGreatDoor
open Go.RowKit
theorem NamesAt.kept {w w' : World} {an : Option Addr} {n : Nat} {NS : List ByteArray} (h : NamesAt w an n NS) (hk : ∀ ad, an = some ad → w'.heap[ad.block]? = w.heap[ad.block]?) (hs : w.heap.size ≤ w'.heap.size) : NamesAt w' an n NS := by
  refine ⟨h.1, ?_⟩
  rcases h.2 with h' | ⟨gn, on, e, hg, hc⟩
  · exact Or.inl h'
  · exact Or.inr ⟨gn, on, e, Nat.lt_of_lt_of_le hg hs, fun i s hi => by rw [← hc i s hi]; exact World.cell?_of_block (w := w) (a := ⟨gn, on + i, none⟩) (hk ⟨gn, on, none⟩ e)⟩
theorem IntsAt.kept {w w' : World} {an : Option Addr} {n : Nat} {NS : List Int} (h : IntsAt w an n NS) (hk : ∀ ad, an = some ad → w'.heap[ad.block]? = w.heap[ad.block]?) (hs : w.heap.size ≤ w'.heap.size) : IntsAt w' an n NS := by
  refine ⟨h.1, ?_⟩
  rcases h.2 with h' | ⟨gn, on, e, hg, hc⟩
  · exact Or.inl h'
  · exact Or.inr ⟨gn, on, e, Nat.lt_of_lt_of_le hg hs, fun i s hi => by rw [← hc i s hi]; exact World.cell?_of_block (w := w) (a := ⟨gn, on + i, none⟩) (hk ⟨gn, on, none⟩ e)⟩

theorem Tryz.info3b : (Tryz.prog.info? 3).map (fun i => (i.zero, i.size, i.bytes)) = some (some (.int .i64 0), 1, 8) := by kernel_rfl
set_option maxRecDepth 20000 in
set_option maxHeartbeats 2000000 in
theorem clone_45 (w : World) (a : Option Addr) (n c : Nat) (XS : List Int) (h : IntsAt w a n XS) (hc : a = none → c = 0) (hn : n ≤ 100000) :
    Calls Tryz.prog 45 #[.slice a n c] w fun e w' => ∃ a' c', e = .returned (.slice a' n c') ∧ IntsAt w' a' n XS ∧ (a' = none → c' = 0) ∧ (∀ ad, a' = some ad → w.heap.size ≤ ad.block) ∧ Below w.heap.size w w' := by
  cases a with
  | none =>
    have hc0 := hc rfl
    subst hc0
    have hn0 : n = 0 := h.2.elim id (fun ⟨g, o, e, _⟩ => by cases e)
    subst hn0
    have HH := Lib.hid h
    clear h
    have hq := Lib.run_eql_slice_nil (P := Tryz.prog) w 36 3 none 0 0 0 0 Tryz.underlying36
    simp only [Option.isNone] at hq
    go_enter Tryz.func45, Tryz.ntmps45
    go_wp2
    go_ret
    exact ⟨none, 0, rfl, HH.out, fun _ => rfl, fun _ e => (by cases e), Below.refl _ _⟩
  | some ad =>
    obtain ⟨i0, hi, hz0, hz1, hz2⟩ := info_parts Tryz.info3b
    have HH := Lib.hid h
    have hown0 : (w.alloc (.cells #[] 3)).ownsRow w.heap.size 3 1 (.slice (some ⟨w.heap.size, 0, none⟩) 0 0) 0 [] := World.ownsRow_made w #[] 0 (Nat.le_refl _) (by decide) rfl
    have HO := Lib.hid hown0
    have HN : Hid (∀ j u, (XS.map (fun k => Value.int .i64 k))[j]? = some u → (w.alloc (.cells #[] 3)).cell? (ad.add j) = some u) := Lib.hid (by
      intro j u hj
      rcases h.2 with h0 | ⟨g, o, e, hg, hcell⟩
      · have := h.1
        rw [h0] at this
        have : XS = [] := List.length_eq_zero_iff.1 this.symm
        subst this
        simp at hj
      · cases e
        rw [List.getElem?_map] at hj
        cases hx : XS[j]? with
        | none => rw [hx] at hj; simp at hj
        | some x =>
          rw [hx] at hj
          simp only [Option.map_some, Option.some.injEq] at hj
          subst hj
          rw [show ((⟨g, o, none⟩ : Addr).add j) = ⟨g, o + j, none⟩ from by unfold Addr.add; split <;> simp_all, ← hcell j x hx]
          exact ((Below.refl w.heap.size w).alloc (Nat.le_refl _) _).cell (p := ⟨g, o + j, none⟩) hg)
    have HL : Hid ((XS.map (fun k => Value.int .i64 k)).length = n * 1) := Lib.hid (by rw [List.length_map, h.1, Nat.mul_one])
    have HONE : Hid (∀ u ∈ XS.map (fun k => Value.int .i64 k), u.oneCell' = true) := Lib.hid (by
      intro u hu
      obtain ⟨x, _, rfl⟩ := List.mem_map.1 hu
      rfl)
    clear h hown0
    have hq := Lib.run_eql_slice_nil (P := Tryz.prog) w 36 3 (some ad) n c 0 0 Tryz.underlying36
    simp only [Option.isNone] at hq
    go_enter Tryz.func45, Tryz.ntmps45
    go_wp2_with (at_builtin; refine wpList_append_own _ rfl _ _ 36 rfl w.heap.size 3 i0 (.int .i64 0) 1 8 Tryz.underlying36 hi hz0 hz1 hz2 rfl (by decide) _ 0 _ rfl HO.out ad n c (XS.map (fun k => Value.int .i64 k)) rfl HL.out HN.out HONE.out (by unfold maxLen; omega) (by omega) (by simp) ?_; intro v' w5 hown hgr hnil)
    go_ret
    obtain ⟨a', c', rfl⟩ := own_slice hown
    have hlen := HH.out.1
    rw [Nat.zero_add] at hown
    simp only [List.nil_append] at hown
    refine ⟨a', c', by simp, ⟨hlen, ?_⟩, ?_, fun ad' e => (hown.lt ad'.block (by rw [e]; rfl)).1, ((Below.refl _ _).alloc (Nat.le_refl _) _).grown hgr (by simp) (fun q hq => by cases hq; exact Nat.le_refl _)⟩
    · rcases hown.2 with ⟨_, hz⟩ | ⟨g, cap, cur, e', hb', hg', -⟩
      · exact Or.inl hz
      · right
        have ea : a' = some ⟨g, 0, none⟩ := by injection e'
        subst ea
        refine ⟨g, 0, rfl, (Array.getElem?_eq_some_iff.1 hg').1, fun i s hs => ?_⟩
        have hil := (List.getElem?_eq_some_iff.1 hs).1
        rw [hown.cellAt (0 + i) (by omega), Nat.zero_add, List.getElem?_map, hs]
        rfl
    · intro e
      subst e
      rcases hown.2 with ⟨e', _⟩ | ⟨g, cap, cur, e', _⟩
      · injection e'
      · injection e' with e1
        cases e1

theorem Tryz.info9b : (Tryz.prog.info? 9).map (fun i => (i.zero, i.size, i.bytes)) = some (some (.string ByteArray.empty), 1, 16) := by kernel_rfl
set_option maxRecDepth 20000 in
set_option maxHeartbeats 2000000 in
theorem clone_55 (w : World) (a : Option Addr) (n c : Nat) (XS : List ByteArray) (h : NamesAt w a n XS) (hc : a = none → c = 0) (hn : n ≤ 100000) :
    Calls Tryz.prog 55 #[.slice a n c] w fun e w' => ∃ a' c', e = .returned (.slice a' n c') ∧ NamesAt w' a' n XS ∧ (a' = none → c' = 0) ∧ (∀ ad, a' = some ad → w.heap.size ≤ ad.block) ∧ Below w.heap.size w w' := by
  cases a with
  | none =>
    have hc0 := hc rfl
    subst hc0
    have hn0 : n = 0 := h.2.elim id (fun ⟨g, o, e, _⟩ => by cases e)
    subst hn0
    have HH := Lib.hid h
    clear h
    have hq := Lib.run_eql_slice_nil (P := Tryz.prog) w 35 9 none 0 0 0 0 Tryz.underlying35
    simp only [Option.isNone] at hq
    go_enter Tryz.func55, Tryz.ntmps55
    go_wp2
    go_ret
    exact ⟨none, 0, rfl, HH.out, fun _ => rfl, fun _ e => (by cases e), Below.refl _ _⟩
  | some ad =>
    obtain ⟨i0, hi, hz0, hz1, hz2⟩ := info_parts Tryz.info9b
    have HH := Lib.hid h
    have hown0 : (w.alloc (.cells #[] 9)).ownsRow w.heap.size 9 1 (.slice (some ⟨w.heap.size, 0, none⟩) 0 0) 0 [] := World.ownsRow_made w #[] 0 (Nat.le_refl _) (by decide) rfl
    have HO := Lib.hid hown0
    have HN : Hid (∀ j u, (XS.map Value.string)[j]? = some u → (w.alloc (.cells #[] 9)).cell? (ad.add j) = some u) := Lib.hid (by
      intro j u hj
      rcases h.2 with h0 | ⟨g, o, e, hg, hcell⟩
      · have := h.1
        rw [h0] at this
        have : XS = [] := List.length_eq_zero_iff.1 this.symm
        subst this
        simp at hj
      · cases e
        rw [List.getElem?_map] at hj
        cases hx : XS[j]? with
        | none => rw [hx] at hj; simp at hj
        | some x =>
          rw [hx] at hj
          simp only [Option.map_some, Option.some.injEq] at hj
          subst hj
          rw [show ((⟨g, o, none⟩ : Addr).add j) = ⟨g, o + j, none⟩ from by unfold Addr.add; split <;> simp_all, ← hcell j x hx]
          exact ((Below.refl w.heap.size w).alloc (Nat.le_refl _) _).cell (p := ⟨g, o + j, none⟩) hg)
    have HL : Hid ((XS.map Value.string).length = n * 1) := Lib.hid (by rw [List.length_map, h.1, Nat.mul_one])
    have HONE : Hid (∀ u ∈ XS.map Value.string, u.oneCell' = true) := Lib.hid (by
      intro u hu
      obtain ⟨x, _, rfl⟩ := List.mem_map.1 hu
      rfl)
    clear h hown0
    have hq := Lib.run_eql_slice_nil (P := Tryz.prog) w 35 9 (some ad) n c 0 0 Tryz.underlying35
    simp only [Option.isNone] at hq
    go_enter Tryz.func55, Tryz.ntmps55
    go_wp2_with (at_builtin; refine wpList_append_own _ rfl _ _ 35 rfl w.heap.size 9 i0 (.string ByteArray.empty) 1 16 Tryz.underlying35 hi hz0 hz1 hz2 rfl (by decide) _ 0 _ rfl HO.out ad n c (XS.map Value.string) rfl HL.out HN.out HONE.out (by unfold maxLen; omega) (by omega) (by simp) ?_; intro v' w5 hown hgr hnil)
    go_ret
    obtain ⟨a', c', rfl⟩ := own_slice hown
    have hlen := HH.out.1
    rw [Nat.zero_add] at hown
    simp only [List.nil_append] at hown
    refine ⟨a', c', by simp, ⟨hlen, ?_⟩, ?_, fun ad' e => (hown.lt ad'.block (by rw [e]; rfl)).1, ((Below.refl _ _).alloc (Nat.le_refl _) _).grown hgr (by simp) (fun q hq => by cases hq; exact Nat.le_refl _)⟩
    · rcases hown.2 with ⟨_, hz⟩ | ⟨g, cap, cur, e', hb', hg', -⟩
      · exact Or.inl hz
      · right
        have ea : a' = some ⟨g, 0, none⟩ := by injection e'
        subst ea
        refine ⟨g, 0, rfl, (Array.getElem?_eq_some_iff.1 hg').1, fun i s hs => ?_⟩
        have hil := (List.getElem?_eq_some_iff.1 hs).1
        rw [hown.cellAt (0 + i) (by omega), Nat.zero_add, List.getElem?_map, hs]
        rfl
    · intro e
      subst e
      rcases hown.2 with ⟨e', _⟩ | ⟨g, cap, cur, e', _⟩
      · injection e'
      · injection e' with e1
        cases e1
end Go.Proofs.YtoakfninndkgaaaGreatDoor
set_option linter.unusedVariables false
namespace Go.Proofs.YtoakfninndkgaaaGreatDoor
open Go.RowKit
def ClonePost (w : World) (kd : Int) (nn : Nat) (NS : List ByteArray) (kn : Nat) (KS : List Int) (op : Bool) (e : Ending) (w' : World) : Prop :=
  ∃ a' c' b' d', e = .returned (.agg #[.int .i64 kd, .slice a' nn c', .slice b' kn d', .bool op]) ∧ NamesAt w' a' nn NS ∧ IntsAt w' b' kn KS ∧ (a' = none → c' = 0) ∧ (b' = none → d' = 0) ∧ (∀ ad, a' = some ad → w.heap.size ≤ ad.block) ∧ (∀ ad, b' = some ad → w.heap.size ≤ ad.block) ∧ Below w.heap.size w w'
set_option maxRecDepth 20000 in
set_option maxHeartbeats 4000000 in
theorem clone_head (w : World) (kd : Int) (na : Option Addr) (nn nc : Nat) (NS : List ByteArray) (ka : Option Addr) (kn kc : Nat) (KS : List Int) (op : Bool) (hN : NamesAt w na nn NS) (hK : IntsAt w ka kn KS) (hn : nn ≤ 100000) (hk : kn ≤ 100000) (hnc : na = none → nc = 0) (hkc : ka = none → kc = 0) :
    Calls Tryz.prog 37 #[.agg #[.int .i64 kd, .slice na nn nc, .slice ka kn kc, .bool op]] w (ClonePost w kd nn NS kn KS op) := by
  have HN := Lib.hid hN
  have HK := Lib.hid hK
  have HC55 : Hid (∀ w', Below w.heap.size w w' → Calls Tryz.prog 55 #[.slice na nn nc] w' fun e w'' => ∃ a' c', e = .returned (.slice a' nn c') ∧ NamesAt w'' a' nn NS ∧ (a' = none → c' = 0) ∧ (∀ ad, a' = some ad → w'.heap.size ≤ ad.block) ∧ Below w'.heap.size w' w'') := Lib.hid (fun w' hb => clone_55 w' na nn nc NS (HN.out.on hb) hnc hn)
  have HC45 : Hid (∀ w', Below w.heap.size w w' → Calls Tryz.prog 45 #[.slice ka kn kc] w' fun e w'' => ∃ a' c', e = .returned (.slice a' kn c') ∧ IntsAt w'' a' kn KS ∧ (a' = none → c' = 0) ∧ (∀ ad, a' = some ad → w'.heap.size ≤ ad.block) ∧ Below w'.heap.size w' w'') := Lib.hid (fun w' hb => clone_45 w' ka kn kc KS (HK.out.on hb) hkc hk)
  have HB : Hid (Below w.heap.size w ((w.alloc (.cells #[.int .i64 kd, .slice na nn nc, .slice ka kn kc, .bool op] 38)).alloc (.cells #[.int .i64 0, .slice none 0 0, .slice none 0 0, .bool false] 38))) := Lib.hid (((Below.refl _ _).alloc (Nat.le_refl _) _).alloc (by simp) _)
  have HX : Hid (((w.alloc (.cells #[.int .i64 kd, .slice na nn nc, .slice ka kn kc, .bool op] 38)).alloc (.cells #[.int .i64 0, .slice none 0 0, .slice none 0 0, .bool false] 38)).heap[w.heap.size]? = some (.cells #[.int .i64 kd, .slice na nn nc, .slice ka kn kc, .bool op] 38 (0, 0))) := Lib.hid (by rw [Below.heap_alloc _ _ _ (by simp)]; exact heap_alloc_new w _)
  have HY : Hid (((w.alloc (.cells #[.int .i64 kd, .slice na nn nc, .slice ka kn kc, .bool op] 38)).alloc (.cells #[.int .i64 0, .slice none 0 0, .slice none 0 0, .bool false] 38)).heap[w.heap.size + 1]? = some (.cells #[.int .i64 0, .slice none 0 0, .slice none 0 0, .bool false] 38 (0, 0))) := Lib.hid (by
    have := heap_alloc_new (w.alloc (.cells #[.int .i64 kd, .slice na nn nc, .slice ka kn kc, .bool op] 38)) (.cells #[.int .i64 0, .slice none 0 0, .slice none 0 0, .bool false] 38)
    simpa using this)
  clear hN hK hnc hkc
  go_enter Tryz.func37, Tryz.ntmps37
  go_upto_region 1 with (fail)
  generalize ((w.alloc (.cells #[.int .i64 kd, .slice na nn nc, .slice ka kn kc, .bool op] 38)).alloc (.cells #[.int .i64 0, .slice none 0 0, .slice none 0 0, .bool false] 38)) = w1 at *
  have a1 : w1.cell? ⟨w.heap.size, 1, none⟩ = some (.slice na nn nc) := (by rw [cell_of_row _ _ 1 _ 38 _ HX.out]; rfl)
  have a2 : w1.cell? ⟨w.heap.size, 2, none⟩ = some (.slice ka kn kc) := (by rw [cell_of_row _ _ 2 _ 38 _ HX.out]; rfl)
  have HS1 : Hid (w.heap.size + 1 < w1.heap.size) := Lib.hid (Array.getElem?_eq_some_iff.1 HY.out).1
  go_region_law
    (first
      | (go_simp; go_at_call 55; (with_reducible refine (HC55.out _ (by exact HB.out.drew)).mono ?_); rintro e w5 ⟨a5, c5, rfl, hn5, hz5, hg5, hb5⟩; have HN5 := Lib.hid hn5; have HZ5 := Lib.hid hz5; have HG5 : Hid (∀ ad, a5 = some ad → w1.heap.size ≤ ad.block) := Lib.hid hg5; have HB5 := Lib.hid (show Below w1.heap.size w1 w5 from (Below.refl _ _).drew.trans hb5); have HX5 := Lib.hid ((HB5.out.block w.heap.size (by have := HS1.out; omega)).trans HX.out); have d1 : w5.cell? ⟨w.heap.size, 1, none⟩ = some (.slice na nn nc) := (by rw [cell_of_row _ _ 1 _ 38 _ HX5.out]; rfl); have d2 : w5.cell? ⟨w.heap.size, 2, none⟩ = some (.slice ka kn kc) := (by rw [cell_of_row _ _ 2 _ 38 _ HX5.out]; rfl); clear hn5 hz5 hg5 hb5)
      | (go_simp; go_at_call 45; (with_reducible refine (HC45.out _ (by exact HB.out.trans (HB5.out.mono HB.out.size))).mono ?_); rintro e w6 ⟨b6, c6, rfl, hk6, hz6, hg6, hb6⟩; have HK6 := Lib.hid hk6; have HZ6 := Lib.hid hz6; have HG6 : Hid (∀ ad, b6 = some ad → w1.heap.size ≤ ad.block) := Lib.hid (fun ad e => Nat.le_trans HB5.out.size (hg6 ad e)); have HN6 := Lib.hid (HN5.out.on hb6); have HB6 := Lib.hid (show Below w1.heap.size w1 w6 from HB5.out.trans (hb6.mono HB5.out.size)); have HX6 := Lib.hid ((HB6.out.block w.heap.size (by have := HS1.out; omega)).trans HX.out); have e1 : w6.cell? ⟨w.heap.size, 1, none⟩ = some (.slice na nn nc) := (by rw [cell_of_row _ _ 1 _ 38 _ HX6.out]; rfl); have e2 : w6.cell? ⟨w.heap.size, 2, none⟩ = some (.slice ka kn kc) := (by rw [cell_of_row _ _ 2 _ 38 _ HX6.out]; rfl); have e0 : w6.cell? ⟨w.heap.size, 0, none⟩ = some (.int .i64 kd) := (by rw [cell_of_row _ _ 0 _ 38 _ HX6.out]; rfl); have e3 : w6.cell? ⟨w.heap.size, 3, none⟩ = some (.bool op) := (by rw [cell_of_row _ _ 3 _ 38 _ HX6.out]; rfl); have HY6 := Lib.hid ((HB6.out.block (w.heap.size + 1) HS1.out).trans HY.out); have f1 : w6.frozen? ⟨w.heap.size, 1, none⟩ = false := frozen_of_row _ _ 1 _ 38 HX6.out; have f2 : w6.frozen? ⟨w.heap.size, 2, none⟩ = false := frozen_of_row _ _ 2 _ 38 HX6.out; have l6 : w.heap.size < w6.heap.size := (Array.getElem?_eq_some_iff.1 HX6.out).1; clear hk6 hz6 hg6 hb6)
      | fail)
  all_goals
    go_wp2_with (refine wpList_store_row rfl 38 _ _ rfl (w.heap.size + 1) _ rfl rfl 38 _ ((Below.heap_setCell _ _ _ _ (by simp)).trans ((Below.heap_setCell _ _ _ _ (by simp)).trans HY6.out)) (by kernel_rfl) rfl (by simp [Value.oneCell']) ?_)
    (try simp only [Exit.inBlock, Exit.then])
    exact bodyPost_ret (v := .agg #[.int .i64 kd, .slice a5 nn c5, .slice b6 kn c6, .bool op]) (results_cell_row (P := Tryz.prog) rfl _ _ (w.heap.size + 1) 38 _ (0, 0) _ rfl (setRow_heap _ _ _ _ _ _ ((Below.heap_setCell _ _ _ _ (by simp)).trans ((Below.heap_setCell _ _ _ _ (by simp)).trans HY6.out))) Tryz.underlying38 rfl (by kernel_rfl)) rfl
      (show ClonePost w kd nn NS kn KS op _ _ from ⟨a5, c5, b6, c6, rfl,
        HN6.out.kept (fun ad e => by have h1 := HG5.out ad e; have h2 := HS1.out; exact (setRow_other _ _ _ _ (by omega)).trans ((Below.heap_setCell _ _ _ _ (by simp; omega)).trans (Below.heap_setCell _ _ _ _ (by simp; omega)))) (by rw [setRow_size]; simp),
        HK6.out.kept (fun ad e => by have h1 := HG6.out ad e; have h2 := HS1.out; exact (setRow_other _ _ _ _ (by omega)).trans ((Below.heap_setCell _ _ _ _ (by simp; omega)).trans (Below.heap_setCell _ _ _ _ (by simp; omega)))) (by rw [setRow_size]; simp),
        HZ5.out, HZ6.out, fun ad e => Nat.le_trans HB.out.size (HG5.out ad e), fun ad e => Nat.le_trans HB.out.size (HG6.out ad e),
        by
          have hb := HB.out.trans (HB6.out.mono HB.out.size)
          exact ⟨hb.os, hb.tape, hb.output, by rw [setRow_size]; simp; exact hb.size, fun k hk => ((setRow_other _ _ _ _ (by omega)).trans ((Below.heap_setCell _ _ _ _ (by simp; omega)).trans (Below.heap_setCell _ _ _ _ (by simp; omega)))).trans (hb.block k hk)⟩⟩)
end Go.Proofs.YtoakfninndkgaaaGreatDoor
set_option linter.unusedVariables false
namespace Go.Proofs.YtoakfninndkgaaaGreatDoor
open Go.RowKit
def zerosTo (j : Nat) : List Value := List.replicate j (.int .i64 0)
theorem zerosTo_succ (j : Nat) : zerosTo (j + 1) = zerosTo j ++ [.int .i64 0] := List.replicate_succ'
structure RightLoop (w1 wr : World) (R G : Nat) (kd : Int) (na : Option Addr) (nn nc : Nat) (op : Bool) (j : Nat) (aq : Option Addr) (cq : Nat) : Prop where
  g : wr.heap[G]? = some (.cells #[.int .i64 kd, .slice na nn nc, .slice aq j cq, .bool op] 38 (0, 0))
  o : wr.ownsRow R 3 1 (.slice aq j cq) j (zerosTo j)
  keep : ∀ b, b < R → b ≠ G → wr.heap[b]? = w1.heap[b]?
  lg : G < R
  size : R ≤ wr.heap.size
  os : wr.os = w1.os
  tape : wr.tape = w1.tape
  output : wr.output = w1.output
theorem RightLoop.lo5 {w1 wr w5 : World} {R G : Nat} {kd : Int} {na : Option Addr} {nn nc : Nat} {op : Bool} {j : Nat} {aq : Option Addr} {cq : Nat} {o : Obj} (h : RightLoop w1 wr R G kd na nn nc op j aq cq) (hg : (wr.drew.alloc o).grownBy w5 (Value.slice aq j cq).ownBlock) : w5.heap[G]? = some (.cells #[.int .i64 kd, .slice na nn nc, .slice aq j cq, .bool op] 38 (0, 0)) := by
  have hs := h.size
  have l := h.lg
  have hd : Below wr.heap.size wr wr.drew := (Below.refl _ _).drew
  have hds := hd.size
  rw [hg.block G (by simp; omega) (fun e => by have := ownsRow_ge h.o G e.symm; omega), Below.heap_alloc _ _ _ (by omega)]
  exact (hd.block G (by omega)).trans h.g
theorem RightLoop.lo6 {w1 wr w5 : World} {R G : Nat} {kd : Int} {na : Option Addr} {nn nc : Nat} {op : Bool} {j : Nat} {aq : Option Addr} {cq : Nat} {o : Obj} (h : RightLoop w1 wr R G kd na nn nc op j aq cq) (hg : (wr.drew.alloc o).grownBy w5 (Value.slice aq j cq).ownBlock) {b : Nat} (hb : b < R) (hn : b ≠ G) : w5.heap[b]? = w1.heap[b]? := by
  have hs := h.size
  have hd : Below wr.heap.size wr wr.drew := (Below.refl _ _).drew
  have hds := hd.size
  rw [hg.block b (by simp; omega) (fun e => by have := ownsRow_ge h.o b e.symm; omega), Below.heap_alloc _ _ _ (by omega)]
  exact (hd.block b (by omega)).trans (h.keep b hb hn)
theorem RightLoop.step {w1 wr w5 : World} {R G : Nat} {kd : Int} {na : Option Addr} {nn nc : Nat} {op : Bool} {j : Nat} {aq : Option Addr} {cq : Nat} {o : Obj} {a2 : Option Addr} {c2 : Nat} (h : RightLoop w1 wr R G kd na nn nc op j aq cq)
    (hown : w5.ownsRow R 3 1 (.slice a2 (j + 1) c2) (j + 1) (zerosTo j ++ [.int .i64 0])) (hg : (wr.drew.alloc o).grownBy w5 (Value.slice aq j cq).ownBlock) : RightLoop w1 (w5.setCell ⟨G, 2, none⟩ (.slice a2 (j + 1) c2)) R G kd na nn nc op (j + 1) a2 c2 := by
  have hs := h.size
  have hd : Below wr.heap.size wr wr.drew := (Below.refl _ _).drew
  have hds := hd.size
  have hlo : ∀ b, b < R → w5.heap[b]? = wr.heap[b]? := fun b hb => by
    rw [hg.block b (by simp; omega) (fun e => by have := ownsRow_ge h.o b e.symm; omega), Below.heap_alloc _ _ _ (by omega)]
    exact hd.block b (by omega)
  have hsz : wr.drew.heap.size + 1 ≤ w5.heap.size := by have := hg.size; simpa using this
  refine ⟨?_, ?_, fun b hb h1 => ?_, h.lg, by simp; omega, ?_, ?_, ?_⟩
  · rw [heap_setCell_same _ G 2 _ 38 _ ((hlo G h.lg).trans h.g)]
    rfl
  · rw [zerosTo_succ]
    exact ownsRow_setCell_below hown h.lg _
  · rw [Below.heap_setCell _ _ _ _ h1, hlo b hb]
    exact h.keep b hb h1
  · exact hg.os.trans (hd.os.trans h.os)
  · exact hg.tape.trans (hd.tape.trans h.tape)
  · exact hg.output.trans (hd.output.trans h.output)
theorem RightLoop.below {w1 w w0 : World} {R G : Nat} {kd : Int} {na : Option Addr} {nn nc : Nat} {op : Bool} {j : Nat} {aq : Option Addr} {cq : Nat} (h : RightLoop w1 w R G kd na nn nc op j aq cq) {n : Nat} (hb : Below n w0 w1) (h7 : n ≤ G) (hr : w1.heap.size ≤ R) : Below n w0 w := by
  have hs := h.size
  have l7 := h.lg
  have hb2 := hb.size
  exact ⟨h.os.trans hb.os, h.tape.trans hb.tape, h.output.trans hb.output, by omega, fun i hi => (h.keep i (by omega) (by omega)).trans (hb.block i hi)⟩
theorem RightLoop.kids {w1 w : World} {R G : Nat} {kd : Int} {na : Option Addr} {nn nc : Nat} {op : Bool} {j : Nat} {aq : Option Addr} {cq : Nat} (h : RightLoop w1 w R G kd na nn nc op j aq cq) : IntsAt w aq j (List.replicate j 0) := by
  refine ⟨by simp, ?_⟩
  rcases h.o.2 with ⟨_, hz⟩ | ⟨gq, cap2, cur2, e', hb', hg', -⟩
  · exact Or.inl hz
  · right
    have ea : aq = some ⟨gq, 0, none⟩ := by injection e'
    subst ea
    refine ⟨gq, 0, rfl, (Array.getElem?_eq_some_iff.1 hg').1, fun i k hi => ?_⟩
    have hl := (List.getElem?_eq_some_iff.1 hi).1
    simp only [List.length_replicate] at hl
    rw [h.o.cellAt (0 + i) (by omega), Nat.zero_add]
    rw [List.getElem?_replicate, if_pos hl] at hi
    cases hi
    unfold zerosTo
    rw [List.getElem?_replicate, if_pos hl]
/-- may a head be, with kids that are parts? -/
def rightB (kd : Int) (op : Bool) (n : Nat) (NS : List ByteArray) (KS : List Int) : Bool := KS.all (fun k => decide (0 ≤ k) && decide (k < (n : Int))) && headB kd op 1 NS (List.replicate KS.length 0)
set_option maxRecDepth 20000 in
set_option maxHeartbeats 4000000 in
theorem right_any (w : World) (A base : Nat) (la : Option Addr) (ln lc : Nat) (most : Int) (ps : List Value) (kd : Int) (na : Option Addr) (nn nc : Nat) (NS : List ByteArray) (ka : Option Addr) (kn kc : Nat) (KS : List Int) (op : Bool) (hA : ArenaAt w A base la ln lc most ps) (hN : NamesAt w na nn NS) (hK : IntsAt w ka kn KS) (hn : nn ≤ 100000) (hk : kn ≤ 1000) (hz : ∀ s ∈ NS, s.size ≤ 100000) (hln : (ln : Int) ≤ 9000000000000000) :
    Calls Tryz.prog 46 #[.pointer (some ⟨A, 0, none⟩), .agg #[.int .i64 kd, .slice na nn nc, .slice ka kn kc, .bool op]] w (BoolPost w (rightB kd op ln NS KS)) := by
  have HA0 := Lib.hid hA
  have HN0 := Lib.hid hN
  have HK0 := Lib.hid hK
  have HZ := Lib.hid hz
  have HL := Lib.hid (show A < w.heap.size from Nat.lt_of_lt_of_le hA.lt hA.le)
  have HB1 : Hid (Below w.heap.size w (((w.alloc (.cells #[.int .i64 kd, .slice na nn nc, .slice ka kn kc, .bool op] 38)).alloc (.cells #[.int .i64 kd, .slice na nn nc, .slice none 0 0, .bool op] 38)).alloc (.cells #[.slice (some ⟨w.heap.size + 1, 0, none⟩) 1 1, .int .i64 0] 24))) := Lib.hid ((((Below.refl _ _).alloc (Nat.le_refl _) _).alloc (by simp) _).alloc (by simp <;> omega) _)
  have HX1 : Hid ((((w.alloc (.cells #[.int .i64 kd, .slice na nn nc, .slice ka kn kc, .bool op] 38)).alloc (.cells #[.int .i64 kd, .slice na nn nc, .slice none 0 0, .bool op] 38)).alloc (.cells #[.slice (some ⟨w.heap.size + 1, 0, none⟩) 1 1, .int .i64 0] 24)).heap[w.heap.size]? = some (.cells #[.int .i64 kd, .slice na nn nc, .slice ka kn kc, .bool op] 38 (0, 0))) := Lib.hid (by rw [Below.heap_alloc _ _ _ (by simp <;> omega), Below.heap_alloc _ _ _ (by simp)]; exact heap_alloc_new w _)
  have HG1 : Hid ((((w.alloc (.cells #[.int .i64 kd, .slice na nn nc, .slice ka kn kc, .bool op] 38)).alloc (.cells #[.int .i64 kd, .slice na nn nc, .slice none 0 0, .bool op] 38)).alloc (.cells #[.slice (some ⟨w.heap.size + 1, 0, none⟩) 1 1, .int .i64 0] 24)).heap[w.heap.size + 1]? = some (.cells #[.int .i64 kd, .slice na nn nc, .slice none 0 0, .bool op] 38 (0, 0))) := Lib.hid (by
    rw [Below.heap_alloc _ _ _ (by simp)]
    have := heap_alloc_new (w.alloc (.cells #[.int .i64 kd, .slice na nn nc, .slice ka kn kc, .bool op] 38)) (.cells #[.int .i64 kd, .slice na nn nc, .slice none 0 0, .bool op] 38)
    simpa using this)
  have HT1 : Hid ((((w.alloc (.cells #[.int .i64 kd, .slice na nn nc, .slice ka kn kc, .bool op] 38)).alloc (.cells #[.int .i64 kd, .slice na nn nc, .slice none 0 0, .bool op] 38)).alloc (.cells #[.slice (some ⟨w.heap.size + 1, 0, none⟩) 1 1, .int .i64 0] 24)).heap[w.heap.size + 1 + 1]? = some (.cells #[.slice (some ⟨w.heap.size + 1, 0, none⟩) 1 1, .int .i64 0] 24 (0, 0))) := Lib.hid (by
    have := heap_alloc_new ((w.alloc (.cells #[.int .i64 kd, .slice na nn nc, .slice ka kn kc, .bool op] 38)).alloc (.cells #[.int .i64 kd, .slice na nn nc, .slice none 0 0, .bool op] 38)) (.cells #[.slice (some ⟨w.heap.size + 1, 0, none⟩) 1 1, .int .i64 0] 24)
    simpa using this)
  have HS1 : Hid ((((w.alloc (.cells #[.int .i64 kd, .slice na nn nc, .slice ka kn kc, .bool op] 38)).alloc (.cells #[.int .i64 kd, .slice na nn nc, .slice none 0 0, .bool op] 38)).alloc (.cells #[.slice (some ⟨w.heap.size + 1, 0, none⟩) 1 1, .int .i64 0] 24)).heap.size = w.heap.size + 3) := Lib.hid (by simp)
  have HKL := Lib.hid hK.1
  clear hA hN hK hz
  go_enter Tryz.func46, Tryz.ntmps46
  have a0 : (w.alloc (.cells #[.int .i64 kd, .slice na nn nc, .slice ka kn kc, .bool op] 38)).cell? ⟨w.heap.size, 0, none⟩ = some (.int .i64 kd) := (by rw [cell_of_row _ _ 0 _ 38 _ (heap_alloc_new w _)]; rfl)
  have a1 : (w.alloc (.cells #[.int .i64 kd, .slice na nn nc, .slice ka kn kc, .bool op] 38)).cell? ⟨w.heap.size, 1, none⟩ = some (.slice na nn nc) := (by rw [cell_of_row _ _ 1 _ 38 _ (heap_alloc_new w _)]; rfl)
  have a3 : (w.alloc (.cells #[.int .i64 kd, .slice na nn nc, .slice ka kn kc, .bool op] 38)).cell? ⟨w.heap.size, 3, none⟩ = some (.bool op) := (by rw [cell_of_row _ _ 3 _ 38 _ (heap_alloc_new w _)]; rfl)
  go_upto_region 2 with (fail)
  clear a0 a1 a3
  generalize (((w.alloc (.cells #[.int .i64 kd, .slice na nn nc, .slice ka kn kc, .bool op] 38)).alloc (.cells #[.int .i64 kd, .slice na nn nc, .slice none 0 0, .bool op] 38)).alloc (.cells #[.slice (some ⟨w.heap.size + 1, 0, none⟩) 1 1, .int .i64 0] 24)) = w1 at *
  have b2 : w1.cell? ⟨w.heap.size, 2, none⟩ = some (.slice ka kn kc) := (by rw [cell_of_row _ _ 2 _ 38 _ HX1.out]; rfl)
  have hki : (kn : Int) ≤ 1000 := by omega
  go_wp2
  clear b2
  have HL0 : Hid (RightLoop w1 w1 w1.heap.size (w.heap.size + 1) kd na nn nc op 0 none 0) := Lib.hid ⟨HG1.out, World.ownsRow_nil _ _ _ _, fun _ _ _ => rfl, by have := HS1.out; omega, Nat.le_refl _, rfl, rfl, rfl⟩
  obtain ⟨i3, hi3, hz30, hz31, hz32⟩ := info_parts Tryz.info3
  have HI3 := Lib.hid hi3
  have HI30 := Lib.hid hz30
  have HI31 := Lib.hid hz31
  have HI32 := Lib.hid hz32
  clear hi3 hz30 hz31 hz32
  go_loopw [20] (fun s20 wr => ∃ (j : Nat) (aq : Option Addr) (cq : Nat), s20 = .int .i64 (j : Int) ∧ j ≤ kn ∧ Hid (RightLoop w1 wr w1.heap.size (w.heap.size + 1) kd na nn nc op j aq cq) ∧ Hid (∀ i k, i < j → KS[i]? = some k → 0 ≤ k ∧ k < (ln : Int))) (fun s20 _ => kn - (intOf s20).toNat)
  case atStart => exact ⟨0, none, 0, rfl, Nat.zero_le _, HL0, Lib.hid (fun i k h => by omega)⟩
  case round =>
    obtain ⟨j, aq, cq, rfl, hj, HLP, HA⟩ := hrel
    have HBR : Hid (Below w.heap.size w wr) := Lib.hid (HLP.out.below HB1.out (by omega) (Nat.le_refl _))
    have HSR : Hid (w1.heap.size ≤ wr.heap.size) := Lib.hid HLP.out.size
    have hwj : IntKind.i64.wrap ((j : Int) + 1) = (j : Int) + 1 := by rw [IntKind.wrap_i64]; omega
    have HJ := Lib.hid hj
    by_cases hjk : j < kn
    · have hjk2 : (j : Int) < kn := by omega
      obtain ⟨x, hx⟩ : ∃ x, KS[j]? = some x := ⟨_, List.getElem?_eq_getElem (by rw [← HKL.out]; exact hjk)⟩
      obtain ⟨gk, ok, rfl, hgk, hck⟩ := (HK0.out.on HBR.out).2.resolve_left (by omega)
      have ac := hck j x hx
      have HXX := Lib.hid hx
      have d0 : wr.cell? ⟨A, 0, none⟩ = some (.slice la ln lc) := (by rw [cell_of_row _ _ 0 _ 79 _ ((HBR.out.block A HL.out).trans HA0.out.box)]; rfl)
      clear hx hck hgk
      by_cases h0 : 0 ≤ x ∧ x < (ln : Int)
      · obtain ⟨h1, h2⟩ := h0
        have h3 : ¬ x < 0 := by omega
        have h4 : ¬ (ln : Int) ≤ x := by omega
        have t0 : wr.cell? ⟨w.heap.size + 1 + 1, 0, none⟩ = some (.slice (some ⟨w.heap.size + 1, 0, none⟩) 1 1) := (by rw [cell_of_row _ _ 0 _ 24 _ ((HLP.out.keep _ (by have := HS1.out; omega) (by omega)).trans HT1.out)]; rfl)
        have g2 : wr.cell? ⟨w.heap.size + 1, 2, none⟩ = some (.slice aq j cq) := (by rw [cell_of_row _ _ 2 _ 38 _ HLP.out.g]; rfl)
        have t02 : (wr.alloc (.cells #[.int .i64 0] 3)).cell? ⟨w.heap.size + 1 + 1, 0, none⟩ = some (.slice (some ⟨w.heap.size + 1, 0, none⟩) 1 1) := (by rw [cell_of_row _ _ 0 _ 24 _ ((Below.heap_alloc _ _ _ (by have := HSR.out; have := HS1.out; omega)).trans ((HLP.out.keep _ (by have := HS1.out; omega) (by omega)).trans HT1.out))]; rfl)
        have g22 : (wr.alloc (.cells #[.int .i64 0] 3)).cell? ⟨w.heap.size + 1, 2, none⟩ = some (.slice aq j cq) := (by rw [cell_of_row _ _ 2 _ 38 _ ((Below.heap_alloc _ _ _ (by have := HSR.out; have := HS1.out; omega)).trans HLP.out.g)]; rfl)
        go_upto_region 7 with (fail)
        clear d0 ac
        go_region_law
          (first
            | (refine step_append_lies (wr.drew.alloc (.cells #[.int .i64 0] 3)) rfl _ _ 36 rfl w1.heap.size 3 i3 (.int .i64 0) 1 8 Tryz.underlying36 HI3.out HI30.out HI31.out HI32.out rfl (by decide) (.slice aq j cq) j (zerosTo j) rfl ((ownsRow_mono HLP.out.o (fun g hg => ((Below.refl _ _).drew).block g (HLP.out.o.lt g hg).2)).alloc _) ⟨wr.heap.size, 0, none⟩ 1 1 [.int .i64 0] rfl rfl (news_of (heap_alloc_new wr.drew _)) (by simp [Value.oneCell']) (by decide) (by unfold maxLen; omega) (by omega) (by have := HSR.out; have h5 : Below wr.heap.size wr wr.drew := (Below.refl _ _).drew; have := h5.size; simp; omega) _ rfl ?_; intro g5 c5 w5 hown hgr hat hlt; have hG5 := HLP.out.lo5 hgr; have m5 : w5.cell? ⟨w.heap.size + 1, 2, none⟩ = some (.slice aq j cq) := (by rw [cell_of_row _ _ 2 _ 38 _ hG5]; rfl); have f5 : w5.frozen? ⟨w.heap.size + 1, 2, none⟩ = false := frozen_of_row _ _ 2 _ 38 hG5; have m0 : w5.cell? ⟨w.heap.size + 1 + 1, 0, none⟩ = some (.slice (some ⟨w.heap.size + 1, 0, none⟩) 1 1) := (by rw [cell_of_row _ _ 0 _ 24 _ ((HLP.out.lo6 hgr (by have := HS1.out; omega) (by omega)).trans HT1.out)]; rfl))
            | fail)
        all_goals
          have HLQ := Lib.hid (HLP.out.step hown hgr)
          clear hown hgr hat hlt m5 f5 hG5 m0
          go_wp2
          go_roundw
          case rel => exact ⟨j + 1, _, _, by go_num, by omega, HLQ, Lib.hid (fun i k hi hk' => by
            by_cases he : i = j
            · subst he
              have := hk'.symm.trans HXX.out
              cases this
              exact ⟨h1, h2⟩
            · exact HA.out i k (by omega) hk')⟩
          case measure => simp [intOf]; omega
      · have hf : rightB kd op ln NS KS = false := by
          unfold rightB
          have : (KS.all fun k => decide (0 ≤ k) && decide (k < (ln : Int))) = false := List.all_eq_false.2 ⟨x, List.mem_of_getElem? HXX.out, by simp; omega⟩
          rw [this]
          simp
        have HF := Lib.hid hf
        clear hf
        rcases (by omega : x < 0 ∨ (0 ≤ x ∧ (ln : Int) ≤ x)) with h1 | ⟨h1, h2⟩
        · clear h0
          go_wp2
          go_ret
          exact ⟨by rw [HF.out]; rfl, HBR.out⟩
        · clear h0
          have h3 : ¬ x < 0 := by omega
          go_wp2
          go_ret
          exact ⟨by rw [HF.out]; rfl, HBR.out⟩
    · have hjk2 : ¬ (j : Int) < kn := by omega
      obtain rfl : kn = j := by omega
      have hall : (KS.all fun k => decide (0 ≤ k) && decide (k < (ln : Int))) = true := List.all_eq_true.2 (fun x hx => by
        obtain ⟨i, hi⟩ := List.getElem?_of_mem hx
        have := HA.out i x (by rw [HKL.out]; exact (List.getElem?_eq_some_iff.1 hi).1) hi
        simp [this.1, this.2])
      have hin : HeadsIn wr (some ⟨w.heap.size + 1, 0, none⟩) 1 [⟨kd, na, nn, nc, NS, aq, kn, cq, List.replicate kn 0, op⟩] := ⟨rfl, Or.inr ⟨w.heap.size + 1, 0, rfl, by have := HSR.out; have := HS1.out; omega, fun i h hi => by
        cases i with
        | zero =>
          cases hi
          exact ⟨by rw [cell_of_row _ _ _ _ 38 _ HLP.out.g]; rfl, by rw [cell_of_row _ _ _ _ 38 _ HLP.out.g]; rfl, by rw [cell_of_row _ _ _ _ 38 _ HLP.out.g]; rfl, by rw [cell_of_row _ _ _ _ 38 _ HLP.out.g]; rfl, ⟨HN0.out.on HBR.out, HLP.out.kids, hn, hk, HZ.out⟩⟩
        | succ i => simp at hi⟩⟩
      have hck := check_any wr _ 1 1 0 _ hin (by decide)
      have hg : graphB 0 [⟨kd, na, nn, nc, NS, aq, kn, cq, List.replicate kn 0, op⟩] = rightB kd op ln NS KS := by
        unfold graphB rightB
        rw [hall, ← HKL.out]
        simp
      rw [hg] at hck
      have HCK := Lib.hid hck
      have t0 : wr.cell? ⟨w.heap.size + 1 + 1, 0, none⟩ = some (.slice (some ⟨w.heap.size + 1, 0, none⟩) 1 1) := (by rw [cell_of_row _ _ 0 _ 24 _ ((HLP.out.keep _ (by have := HS1.out; omega) (by omega)).trans HT1.out)]; rfl)
      have t1 : wr.cell? ⟨w.heap.size + 1 + 1, 1, none⟩ = some (.int .i64 0) := (by rw [cell_of_row _ _ 1 _ 24 _ ((HLP.out.keep _ (by have := HS1.out; omega) (by omega)).trans HT1.out)]; rfl)
      clear hck hg hin hall
      generalize rightB kd op ln NS KS = tb at *
      cases tb with
      | false =>
        go_wp2_with (go_at_call 50; (with_reducible refine HCK.out.mono ?_); rintro e w12 ⟨rfl, hb12⟩; simp only [errB])
        go_ret
        exact ⟨rfl, HBR.out.trans (hb12.mono HBR.out.size)⟩
      | true =>
        go_wp2_with (go_at_call 50; (with_reducible refine HCK.out.mono ?_); rintro e w12 ⟨rfl, hb12⟩; simp only [errB])
        go_ret
        exact ⟨rfl, HBR.out.trans (hb12.mono HBR.out.size)⟩
end Go.Proofs.YtoakfninndkgaaaGreatDoor
set_option linter.unusedVariables false
namespace Go.Proofs.YtoakfninndkgaaaGreatDoor
open Go.RowKit
theorem Tryz.info83 : (Tryz.prog.info? 83).map (fun i => (i.zero, i.size, i.bytes)) = some (some (.agg #[.int .i64 0, .slice none 0 0, .slice none 0 0, .bool false, .bool false, .int .i64 0, .slice none 0 0, .slice none 0 0, .map none]), 9, 136) := by kernel_rfl
/-- what an act on the arena at A leaves alone. -/
structure Acts (w w' : World) (A : Nat) (own : Option Nat) : Prop where
  os : w'.os = w.os
  tape : w'.tape = w.tape
  output : w'.output = w.output
  size : w.heap.size ≤ w'.heap.size
  block : ∀ b, b < w.heap.size → b ≠ A → own ≠ some b → w'.heap[b]? = w.heap[b]?
theorem ArenaAt.acts {w w2 w5 : World} {A base : Nat} {la : Option Addr} {ln lc : Nat} {most : Int} {ps ns : List Value} {wb : World} {a2 : Option Addr} {c2 : Nat} (h : ArenaAt w2 A base la ln lc most ps) (hal : Below w2.heap.size w2 wb) (hb : Below w.heap.size w w2) (hle : base ≤ w.heap.size)
    (hown : w5.ownsRow base 83 9 (.slice a2 (ln + 1) c2) (ln + 1) (ps ++ ns)) (hg : wb.grownBy w5 (Value.slice la ln lc).ownBlock) : ArenaAt (w5.setCell ⟨A, 0, none⟩ (.slice a2 (ln + 1) c2)) A base a2 (ln + 1) c2 most (ps ++ ns) ∧ Acts w (w5.setCell ⟨A, 0, none⟩ (.slice a2 (ln + 1) c2)) A (Value.slice la ln lc).ownBlock := by
  have hs := h.le
  have hl := h.lt
  have hbs := hb.size
  have hlo : ∀ b, b < w2.heap.size → (Value.slice la ln lc).ownBlock ≠ some b → w5.heap[b]? = w2.heap[b]? := fun b hb' e => by
    rw [hg.block b (by have := hal.size; omega) (fun e' => e e'.symm)]
    exact hal.block b hb'
  have hA5 : w5.heap[A]? = some (.cells #[.slice la ln lc, .int .i64 most] 79 (0, 0)) := (hlo A (by omega) (fun e => by have := ownsRow_ge h.own A e; omega)).trans h.box
  have hsz : w2.heap.size ≤ w5.heap.size := Nat.le_trans hal.size hg.size
  refine ⟨⟨?_, ownsRow_setCell_below hown h.lt _, hl, by simp; omega⟩, ⟨?_, ?_, ?_, by simp; omega, fun b hb1 h1 h2 => ?_⟩⟩
  · rw [heap_setCell_same _ A 0 _ 79 _ hA5]
    rfl
  · exact hg.os.trans (hal.os.trans hb.os)
  · exact hg.tape.trans (hal.tape.trans hb.tape)
  · exact hg.output.trans (hal.output.trans hb.output)
  · rw [Below.heap_setCell _ _ _ _ h1, hlo b (by omega) h2]
    exact hb.block b hb1
theorem ArenaAt.box5 {w2 w5 : World} {A base : Nat} {la : Option Addr} {ln lc : Nat} {most : Int} {ps : List Value} {o o2 : Obj} (h : ArenaAt w2 A base la ln lc most ps) (hg : ((w2.alloc o).alloc o2).grownBy w5 (Value.slice la ln lc).ownBlock) : w5.heap[A]? = some (.cells #[.slice la ln lc, .int .i64 most] 79 (0, 0)) := by
  have hs := h.le
  have hl := h.lt
  rw [hg.block A (by simp; omega) (fun e => by have := ownsRow_ge h.own A e.symm; omega), Below.heap_alloc _ _ _ (by simp; omega), Below.heap_alloc _ _ _ (by omega)]
  exact h.box
theorem news_two (w : World) (o : Obj) (cs : Array Value) (t : TypeId) : ∀ (j : Nat) (u : Value), cs.toList[j]? = some u → ((w.alloc o).alloc (.cells cs t)).cell? ((⟨w.heap.size + 1, 0, none⟩ : Addr).add j) = some u := news_of (by have := heap_alloc_new (w.alloc o) (.cells cs t); simpa using this)
set_option maxRecDepth 20000 in
set_option maxHeartbeats 4000000 in
theorem var_ok (w : World) (A base : Nat) (la : Option Addr) (ln lc : Nat) (most lv : Int) (ps : List Value) (hA : ArenaAt w A base la ln lc most ps) (hlv : 0 ≤ lv) (hm : (ln : Int) + 1 ≤ most) (hmm : most ≤ 1048576) :
    Calls Tryz.prog 11 #[.pointer (some ⟨A, 0, none⟩), .int .i64 lv] w fun e w' => ∃ la' lc' M, e = .returned (.tuple #[.int .i64 (ln : Int), .int .i64 0]) ∧ ArenaAt w' A base la' (ln + 1) lc' most (ps ++ [.int .i64 0, .slice none 0 0, .slice none 0 0, .bool false, .bool true, .int .i64 lv, .slice none 0 0, .slice none 0 0, .map (some M)]) ∧ w'.heap[M]? = some (.map #[] 0) ∧ w.heap.size ≤ M ∧ Acts w w' A (Value.slice la ln lc).ownBlock := by
  have HA := Lib.hid hA
  have HLE0 : Hid (base ≤ w.heap.size) := Lib.hid hA.le
  have h3 : ¬ lv < 0 := by omega
  have hln : (ln : Int) + 1 ≤ 1048576 := by omega
  have HR := Lib.hid (room_any w A la ln lc most 1 hA.box (by simp only [maxLen]; omega) (by omega))
  rw [if_neg (show ¬ most < (ln : Int) + 1 by omega)] at HR
  obtain ⟨i0, hi, hz0, hz1, hz2⟩ := info_parts Tryz.info83
  have HI := Lib.hid hi
  have HI0 := Lib.hid hz0
  have HI1 := Lib.hid hz1
  have HI2 := Lib.hid hz2
  have hw1 : IntKind.i64.wrap ((ln : Int) + 1 - 1) = (ln : Int) := by rw [IntKind.wrap_i64]; omega
  clear hA hi hz0 hz1 hz2
  go_enter Tryz.func11, Tryz.ntmps11
  go_upto_region 6 with (go_at_call 35; (with_reducible refine HR.out.mono ?_); rintro e w2 ⟨rfl, hb2⟩)
  have HB2 := Lib.hid hb2
  have HA2 := Lib.hid (HA.out.on hb2)
  clear hb2
  have a0 : w2.cell? ⟨A, 0, none⟩ = some (.slice la ln lc) := (by rw [cell_of_row _ _ 0 _ 79 _ HA2.out.box]; rfl)
  have HONE : Hid (∀ m : Nat, ∀ u ∈ ([.int .i64 0, .slice none 0 0, .slice none 0 0, .bool false, .bool true, .int .i64 lv, .slice none 0 0, .slice none 0 0, .map (some m)] : List Value), u.oneCell' = true) := Lib.hid (by intro m u hu; simp only [List.mem_cons, List.not_mem_nil, or_false] at hu; rcases hu with rfl | rfl | rfl | rfl | rfl | rfl | rfl | rfl | rfl <;> rfl)
  have HLE : Hid (base ≤ ((w2.alloc (.map #[] 0)).alloc (.cells #[.int .i64 0, .slice none 0 0, .slice none 0 0, .bool false, .bool true, .int .i64 lv, .slice none 0 0, .slice none 0 0, .map (some w2.heap.size)] 83)).heap.size) := Lib.hid (by have := HA2.out.le; simp only [World.size_alloc]; omega)
  have hmk : (Instr.makeMap 81 none).run Tryz.prog w2 = .ok (.map (some w2.heap.size)) (w2.alloc (.map #[] 0)) := run_makeMap _ _
  go_upto_region 7 with (first | (refine wpList_buildTo rfl 83 _ rfl (some 25) rfl #[.int .i64 0, .slice none 0 0, .slice none 0 0, .bool false, .bool true, .int .i64 lv, .slice none 0 0, .slice none 0 0, .map (some w2.heap.size)] (by first | kernel_rfl | rfl) ?_) | (at_builtin; refine wpList_append_own _ rfl _ _ 77 rfl base 83 i0 (.agg #[.int .i64 0, .slice none 0 0, .slice none 0 0, .bool false, .bool false, .int .i64 0, .slice none 0 0, .slice none 0 0, .map none]) 9 136 Tryz.underlying77 HI.out HI0.out HI1.out HI2.out rfl (by decide) _ ln _ rfl ((HA2.out.own.alloc _).alloc _) ⟨w2.heap.size + 1, 0, none⟩ 1 1 [.int .i64 0, .slice none 0 0, .slice none 0 0, .bool false, .bool true, .int .i64 lv, .slice none 0 0, .slice none 0 0, .map (some w2.heap.size)] rfl rfl (news_two _ _ _ _) (HONE.out _) (by unfold maxLen; omega) (by omega) HLE.out ?_; intro v' w5 hown hgr hnil; obtain ⟨a2, c2, rfl⟩ := own_slice hown; have hA5 := HA2.out.box5 hgr; have a5 : w5.cell? ⟨A, 0, none⟩ = some (.slice la ln lc) := (by rw [cell_of_row _ _ 0 _ 79 _ hA5]; rfl); have f5 : w5.frozen? ⟨A, 0, none⟩ = false := frozen_of_row _ _ 0 _ 79 hA5; clear hnil hA5; have HOW := Lib.hid hown; have HGR := Lib.hid hgr; clear hown hgr))
  have hfin := HA2.out.acts (wb := (w2.alloc (.map #[] 0)).alloc (.cells #[.int .i64 0, .slice none 0 0, .slice none 0 0, .bool false, .bool true, .int .i64 lv, .slice none 0 0, .slice none 0 0, .map (some w2.heap.size)] 83)) (((Below.refl _ _).alloc (Nat.le_refl _) _).alloc (by simp) _) HB2.out HLE0.out HOW.out HGR.out
  have hM : (w5.setCell ⟨A, 0, none⟩ (.slice a2 (ln + 1) c2)).heap[w2.heap.size]? = some (.map #[] 0) := by
    have hl := HA2.out.lt
    have hs := HA2.out.le
    rw [Below.heap_setCell _ _ _ _ (by simp; omega), HGR.out.block _ (by simp; omega) (fun e => by have := (HA2.out.own.lt _ e.symm).2; omega), Below.heap_alloc _ _ _ (by simp)]
    exact heap_alloc_new w2 _
  have HFIN := Lib.hid hfin
  have HM := Lib.hid hM
  have HSZ : Hid (w.heap.size ≤ w2.heap.size) := Lib.hid HB2.out.size
  clear hfin hM HGR HOW a5 f5 a0 hmk
  generalize (w5.setCell ⟨A, 0, none⟩ (.slice a2 (ln + 1) c2)) = w6 at *
  have a6 : w6.cell? ⟨A, 0, none⟩ = some (.slice a2 (ln + 1) c2) := (by rw [cell_of_row _ _ 0 _ 79 _ HFIN.out.1.box]; rfl)
  go_wp2
  go_ret2
  exact ⟨a2, c2, _, by simp [IntKind.wrap_i64] <;> omega, HFIN.out.1, HM.out, HSZ.out, HFIN.out.2⟩
end Go.Proofs.YtoakfninndkgaaaGreatDoor
set_option linter.unusedVariables false
namespace Go.Proofs.YtoakfninndkgaaaGreatDoor
open Go.RowKit
def lvTo (LV : List Int) (KS : List Int) (j : Nat) : Int := (KS.take j).foldl (fun m k => max m (LV.getD k.toNat 0)) 0
theorem lvTo_succ (LV KS : List Int) (j : Nat) (x : Int) (h : KS[j]? = some x) : lvTo LV KS (j + 1) = max (lvTo LV KS j) (LV.getD x.toNat 0) := by
  unfold lvTo
  rw [List.take_add_one, h]
  simp
theorem Acts.refl (w : World) (A : Nat) (o : Option Nat) : Acts w w A o := ⟨rfl, rfl, rfl, Nat.le_refl _, fun _ _ _ _ => rfl⟩
theorem Acts.below {w w' : World} {P : Nat} {o : Option Nat} (h : Acts w w' P o) {n : Nat} (h1 : n ≤ w.heap.size) (h2 : n ≤ P) (h3 : ∀ k, o = some k → n ≤ k) : Below n w w' :=
  ⟨h.os, h.tape, h.output, h.size, fun b hb => h.block b (by omega) (by omega) (fun e => by have := h3 b e; omega)⟩
theorem NamesAt.kept0 {w w' : World} {an : Option Addr} {n : Nat} {NS : List ByteArray} (h : NamesAt w an n NS) (hk : ∀ ad, an = some ad → n ≠ 0 → ad.block < w.heap.size → w'.heap[ad.block]? = w.heap[ad.block]?) (hs : w.heap.size ≤ w'.heap.size) : NamesAt w' an n NS := by
  refine ⟨h.1, ?_⟩
  by_cases h0 : n = 0
  · exact Or.inl h0
  rcases h.2 with h' | ⟨gn, on, e, hg, hc⟩
  · exact Or.inl h'
  · exact Or.inr ⟨gn, on, e, Nat.lt_of_lt_of_le hg hs, fun i s hi => by rw [← hc i s hi]; exact World.cell?_of_block (w := w) (a := ⟨gn, on + i, none⟩) (hk ⟨gn, on, none⟩ e h0 hg)⟩
theorem IntsAt.kept0 {w w' : World} {an : Option Addr} {n : Nat} {NS : List Int} (h : IntsAt w an n NS) (hk : ∀ ad, an = some ad → n ≠ 0 → ad.block < w.heap.size → w'.heap[ad.block]? = w.heap[ad.block]?) (hs : w.heap.size ≤ w'.heap.size) : IntsAt w' an n NS := by
  refine ⟨h.1, ?_⟩
  by_cases h0 : n = 0
  · exact Or.inl h0
  rcases h.2 with h' | ⟨gn, on, e, hg, hc⟩
  · exact Or.inl h'
  · exact Or.inr ⟨gn, on, e, Nat.lt_of_lt_of_le hg hs, fun i s hi => by rw [← hc i s hi]; exact World.cell?_of_block (w := w) (a := ⟨gn, on + i, none⟩) (hk ⟨gn, on, none⟩ e h0 hg)⟩
theorem Acts.set {w w' : World} {P : Nat} {o : Option Nat} (h : Acts w w' P o) (i : Nat) (v : Value) : Acts w (w'.setCell ⟨P, i, none⟩ v).drew P o := by
  have hd : Below w'.heap.size (w'.setCell ⟨P, i, none⟩ v) (w'.setCell ⟨P, i, none⟩ v).drew := (Below.refl _ _).drew
  exact ⟨hd.os.trans h.os, hd.tape.trans h.tape, hd.output.trans h.output, by have h1 := h.size; have h2 := hd.size; have e : (w'.setCell ⟨P, i, none⟩ v).heap.size = w'.heap.size := (by simp); rw [e] at h2; exact Nat.le_trans h1 h2, fun b hb h1 h2 => by rw [hd.block b (by have := h.size; omega), Below.heap_setCell _ _ _ _ h1]; exact h.block b hb h1 h2⟩
def HeadPost (w : World) (A base : Nat) (la : Option Addr) (ln lc : Nat) (most : Int) (ps : List Value) (lv kd : Int) (nn : Nat) (NS : List ByteArray) (kn : Nat) (KS : List Int) (op : Bool) (e : Ending) (w' : World) : Prop :=
  ∃ la' lc' a4 c4 b4 d4, e = .returned (.tuple #[.int .i64 (ln : Int), .int .i64 0]) ∧ ArenaAt w' A base la' (ln + 1) lc' most (ps ++ [.int .i64 kd, .slice a4 nn c4, .slice b4 kn d4, .bool op, .bool false, .int .i64 (lv), .slice none 0 0, .slice none 0 0, .map none]) ∧ NamesAt w' a4 nn NS ∧ IntsAt w' b4 kn KS ∧ (a4 = none → c4 = 0) ∧ (b4 = none → d4 = 0) ∧ (∀ ad, a4 = some ad → w.heap.size ≤ ad.block) ∧ (∀ ad, b4 = some ad → w.heap.size ≤ ad.block) ∧ Acts w w' A (Value.slice la ln lc).ownBlock
set_option maxRecDepth 20000 in
set_option maxHeartbeats 4000000 in
theorem head_ok (w : World) (A base : Nat) (la : Option Addr) (ln lc : Nat) (most : Int) (ps : List Value) (LV : List Int) (kd : Int) (na : Option Addr) (nn nc : Nat) (NS : List ByteArray) (ka : Option Addr) (kn kc : Nat) (KS : List Int) (op : Bool) (hA : ArenaAt w A base la ln lc most ps) (hN : NamesAt w na nn NS) (hK : IntsAt w ka kn KS) (hn : nn ≤ 100000) (hk : kn ≤ 1000) (hz : ∀ s ∈ NS, s.size ≤ 100000) (hnc : na = none → nc = 0) (hkc : ka = none → kc = 0)
    (hr : rightB kd op ln NS KS = true) (hm : (ln : Int) + 1 ≤ most) (hmm : most ≤ 1048576) (hLV : ∀ i : Nat, i < ln → ps[i * 9 + 5]? = some (.int .i64 (LV.getD i 0))) :
    Calls Tryz.prog 25 #[.pointer (some ⟨A, 0, none⟩), .agg #[.int .i64 kd, .slice na nn nc, .slice ka kn kc, .bool op]] w (HeadPost w A base la ln lc most ps (lvTo LV KS kn) kd nn NS kn KS op) := by
  have hln : (ln : Int) + 1 ≤ 1048576 := by omega
  have HNC := Lib.hid hnc
  have HKC := Lib.hid hkc
  have HKL := Lib.hid hK.1
  have HLV := Lib.hid hLV
  have HZ := Lib.hid hz
  have HB1 : Hid (Below w.heap.size w (w.alloc (.cells #[.int .i64 kd, .slice na nn nc, .slice ka kn kc, .bool op] 38))) := Lib.hid ((Below.refl _ _).alloc (Nat.le_refl _) _)
  have HX1 : Hid ((w.alloc (.cells #[.int .i64 kd, .slice na nn nc, .slice ka kn kc, .bool op] 38)).heap[w.heap.size]? = some (.cells #[.int .i64 kd, .slice na nn nc, .slice ka kn kc, .bool op] 38 (0, 0))) := Lib.hid (heap_alloc_new w _)
  have HA1 := Lib.hid (hA.on HB1.out)
  have HN1 := Lib.hid (hN.on HB1.out)
  have HK1 := Lib.hid (hK.on HB1.out)
  have HLE0 : Hid (base ≤ w.heap.size) := Lib.hid hA.le
  have HAL : Hid (A < w.heap.size) := Lib.hid (Nat.lt_of_lt_of_le hA.lt hA.le)
  have HOWN : Hid (∀ g, (Value.slice la ln lc).ownBlock = some g → g < w.heap.size) := Lib.hid (fun g e => (hA.own.lt g e).2)
  have HKA : Hid (∀ i k, KS[i]? = some k → 0 ≤ k ∧ k < (ln : Int)) := Lib.hid (fun i k hi => by
    unfold rightB at hr
    simp only [Bool.and_eq_true, List.all_eq_true, decide_eq_true_eq] at hr
    exact hr.1 k (List.mem_of_getElem? hi))
  have HRT := Lib.hid (right_any (w.alloc (.cells #[.int .i64 kd, .slice na nn nc, .slice ka kn kc, .bool op] 38)) A base la ln lc most ps kd na nn nc NS ka kn kc KS op HA1.out HN1.out HK1.out hn hk hz (by omega))
  rw [hr] at HRT
  have hw1 : IntKind.i64.wrap ((ln : Int) + 1 - 1) = (ln : Int) := by rw [IntKind.wrap_i64]; omega
  clear hA hN hK hz hr hLV hnc hkc
  go_enter Tryz.func25, Tryz.ntmps25
  go_upto_region 1 with (fail)
  generalize hW1 : (w.alloc (.cells #[.int .i64 kd, .slice na nn nc, .slice ka kn kc, .bool op] 38)) = w1 at *
  have HW1 := Lib.hid hW1
  clear hW1
  have a0 : w1.cell? ⟨w.heap.size, 0, none⟩ = some (.int .i64 kd) := (by rw [cell_of_row _ _ 0 _ 38 _ HX1.out]; rfl)
  have a1 : w1.cell? ⟨w.heap.size, 1, none⟩ = some (.slice na nn nc) := (by rw [cell_of_row _ _ 1 _ 38 _ HX1.out]; rfl)
  have a2 : w1.cell? ⟨w.heap.size, 2, none⟩ = some (.slice ka kn kc) := (by rw [cell_of_row _ _ 2 _ 38 _ HX1.out]; rfl)
  have a3 : w1.cell? ⟨w.heap.size, 3, none⟩ = some (.bool op) := (by rw [cell_of_row _ _ 3 _ 38 _ HX1.out]; rfl)
  go_upto_region 5 with (go_at_call 46; (with_reducible refine HRT.out.mono ?_); rintro e w2 ⟨rfl, hb2⟩)
  clear a0 a1 a2 a3 HRT
  have HB2 : Hid (Below w1.heap.size w1 w2) := Lib.hid hb2
  have HA2 := Lib.hid (HA1.out.on hb2)
  have HR := Lib.hid (room_any w2 A la ln lc most 1 HA2.out.box (by simp only [maxLen]; omega) (by omega))
  rw [if_neg (show ¬ most < (ln : Int) + 1 by omega)] at HR
  clear hb2
  go_upto_region 8 with (go_at_call 35; (with_reducible refine HR.out.mono ?_); rintro e w3 ⟨rfl, hb3⟩)
  have HB3 : Hid (Below w1.heap.size w1 w3) := Lib.hid (HB2.out.trans (hb3.mono HB2.out.size))
  have HX3 := Lib.hid ((HB3.out.block w.heap.size (Array.getElem?_eq_some_iff.1 HX1.out).1).trans HX1.out)
  clear hb3 HR
  have a0 : w3.cell? ⟨w.heap.size, 0, none⟩ = some (.int .i64 kd) := (by rw [cell_of_row _ _ 0 _ 38 _ HX3.out]; rfl)
  have a1 : w3.cell? ⟨w.heap.size, 1, none⟩ = some (.slice na nn nc) := (by rw [cell_of_row _ _ 1 _ 38 _ HX3.out]; rfl)
  have a2 : w3.cell? ⟨w.heap.size, 2, none⟩ = some (.slice ka kn kc) := (by rw [cell_of_row _ _ 2 _ 38 _ HX3.out]; rfl)
  have a3 : w3.cell? ⟨w.heap.size, 3, none⟩ = some (.bool op) := (by rw [cell_of_row _ _ 3 _ 38 _ HX3.out]; rfl)
  have HCL := Lib.hid (clone_head w3 kd na nn nc NS ka kn kc KS op (HN1.out.on HB3.out) (HK1.out.on HB3.out) hn (by omega) HNC.out HKC.out)
  go_upto_region 9 with (go_at_call 37; (with_reducible refine HCL.out.mono ?_); rintro e w4 ⟨a4, c4, b4, d4, rfl, hn4, hk4, hza, hzb, hga, hgb, hb4⟩; have hgna : ∀ ad, a4 = some ad → nn ≠ 0 → ad.block ≠ w4.heap.size := (fun ad e h0 => (by rcases hn4.2 with h | ⟨g, o, e2, hl, _⟩; exact absurd h h0; rw [e2] at e; cases e; exact Nat.ne_of_lt hl)); have hgnb : ∀ ad, b4 = some ad → kn ≠ 0 → ad.block ≠ w4.heap.size := (fun ad e h0 => (by rcases hk4.2 with h | ⟨g, o, e2, hl, _⟩; exact absurd h h0; rw [e2] at e; cases e; exact Nat.ne_of_lt hl)))
  have HP5 : Hid ((w4.alloc (.cells #[.int .i64 kd, .slice a4 nn c4, .slice b4 kn d4, .bool op, .bool false, .int .i64 (0), .slice none 0 0, .slice none 0 0, .map none] 83)).heap[w4.heap.size]? = some (.cells #[.int .i64 kd, .slice a4 nn c4, .slice b4 kn d4, .bool op, .bool false, .int .i64 (0), .slice none 0 0, .slice none 0 0, .map none] 83 (0, 0))) := Lib.hid (heap_alloc_new w4 _)
  have HB5 : Hid (Below w1.heap.size w1 (w4.alloc (.cells #[.int .i64 kd, .slice a4 nn c4, .slice b4 kn d4, .bool op, .bool false, .int .i64 (0), .slice none 0 0, .slice none 0 0, .map none] 83))) := Lib.hid ((HB3.out.trans (hb4.mono HB3.out.size)).alloc (Nat.le_trans HB3.out.size hb4.size) _)
  have HN5 : Hid (NamesAt (w4.alloc (.cells #[.int .i64 kd, .slice a4 nn c4, .slice b4 kn d4, .bool op, .bool false, .int .i64 (0), .slice none 0 0, .slice none 0 0, .map none] 83)) a4 nn NS) := Lib.hid (hn4.on ((Below.refl _ _).alloc (Nat.le_refl _) _))
  have HK5 : Hid (IntsAt (w4.alloc (.cells #[.int .i64 kd, .slice a4 nn c4, .slice b4 kn d4, .bool op, .bool false, .int .i64 (0), .slice none 0 0, .slice none 0 0, .map none] 83)) b4 kn KS) := Lib.hid (hk4.on ((Below.refl _ _).alloc (Nat.le_refl _) _))
  have HP4 : Hid (w1.heap.size ≤ w4.heap.size) := Lib.hid (Nat.le_trans HB3.out.size hb4.size)
  have HZA := Lib.hid hza
  have HZB := Lib.hid hzb
  have HGA : Hid (∀ ad, a4 = some ad → w1.heap.size ≤ ad.block ∧ (nn ≠ 0 → ad.block ≠ w4.heap.size)) := Lib.hid (fun ad e => ⟨Nat.le_trans HB3.out.size (hga ad e), hgna ad e⟩)
  have HGB : Hid (∀ ad, b4 = some ad → w1.heap.size ≤ ad.block ∧ (kn ≠ 0 → ad.block ≠ w4.heap.size)) := Lib.hid (fun ad e => ⟨Nat.le_trans HB3.out.size (hgb ad e), hgnb ad e⟩)
  clear a0 a1 a2 a3 HCL hn4 hk4 hza hzb hga hgb hb4 hgna hgnb
  generalize (w4.alloc (.cells #[.int .i64 kd, .slice a4 nn c4, .slice b4 kn d4, .bool op, .bool false, .int .i64 (0), .slice none 0 0, .slice none 0 0, .map none] 83)) = w5 at *
  generalize w4.heap.size = P at *
  have HA5 := Lib.hid (HA1.out.on HB5.out)
  have HX5 := Lib.hid ((HB5.out.block w.heap.size (Array.getElem?_eq_some_iff.1 HX1.out).1).trans HX1.out)
  have HKO := Lib.hid (HK1.out.on HB5.out)
  have HPS : Hid (P < w5.heap.size) := Lib.hid (Array.getElem?_eq_some_iff.1 HP5.out).1
  have HW1S : Hid (w.heap.size < w1.heap.size) := Lib.hid (Array.getElem?_eq_some_iff.1 HX1.out).1
  have c2 : w5.cell? ⟨w.heap.size, 2, none⟩ = some (.slice ka kn kc) := (by rw [cell_of_row _ _ 2 _ 38 _ HX5.out]; rfl)
  have hki : (kn : Int) ≤ 1000 := by omega
  go_wp2
  clear c2
  go_loopw [29] (fun s29 wr => ∃ j : Nat, s29 = .int .i64 (j : Int) ∧ j ≤ kn ∧ Hid (wr.heap[P]? = some (.cells #[.int .i64 kd, .slice a4 nn c4, .slice b4 kn d4, .bool op, .bool false, .int .i64 (lvTo LV KS j), .slice none 0 0, .slice none 0 0, .map none] 83 (0, 0))) ∧ Hid (Acts w5 wr P none)) (fun s29 _ => kn - (intOf s29).toNat)
  case atStart => exact ⟨0, rfl, Nat.zero_le _, HP5, Lib.hid (Acts.refl _ _ _)⟩
  case round =>
    obtain ⟨j, rfl, hj, HPJ, HAC⟩ := hrel
    have hwj : IntKind.i64.wrap ((j : Int) + 1) = (j : Int) + 1 := by rw [IntKind.wrap_i64]; omega
    have HJ := Lib.hid hj
    have hab : A ≠ P := by have := HAL.out; have := HP4.out; have := HW1S.out; omega
    have HAR : Hid (wr.heap[A]? = some (.cells #[.slice la ln lc, .int .i64 most] 79 (0, 0))) := Lib.hid ((HAC.out.block A (by have := HAL.out; have := HPS.out; have := HP4.out; have := HW1S.out; omega) hab (by simp)).trans HA5.out.box)
    have b0 : wr.cell? ⟨A, 0, none⟩ = some (.slice la ln lc) := (by rw [cell_of_row _ _ 0 _ 79 _ HAR.out]; rfl)
    by_cases hjk : j < kn
    · have hjk2 : (j : Int) < kn := by omega
      obtain ⟨x, hx⟩ : ∃ x, KS[j]? = some x := ⟨_, List.getElem?_eq_getElem (by rw [← HKL.out]; exact hjk)⟩
      obtain ⟨gk, ok, rfl, hgk, hck⟩ := HK1.out.2.resolve_left (by omega)
      have ac : wr.cell? ⟨gk, ok + j, none⟩ = some (.int .i64 x) := by
        rw [← hck j x hx, ← HB5.out.cell (p := ⟨gk, ok + j, none⟩) hgk]
        exact World.cell?_of_block (w := w5) (a := ⟨gk, ok + j, none⟩) (HAC.out.block gk (Nat.lt_of_lt_of_le hgk HB5.out.size) (by have := HP4.out; omega) (by simp))
      obtain ⟨hx0, hx1⟩ := HKA.out j x hx
      obtain ⟨m, rfl⟩ : ∃ m : Nat, x = (m : Int) := ⟨x.toNat, by omega⟩
      have hmn : m < ln := by omega
      have HSX := Lib.hid (lvTo_succ LV KS j _ hx)
      have hown := HA5.out.own
      rcases hown.2 with ⟨h, _⟩ | ⟨g, cap, cur, h, hbg, hg, -⟩
      · cases h; omega
      · cases h
        have am : wr.cell? ⟨g, m * 9 + 5, none⟩ = some (.int .i64 (LV.getD m 0)) := by
          rw [← HLV.out m hmn, ← hown.cellAt (m * 9 + 5) (by omega)]
          exact World.cell?_of_block (w := w5) (a := ⟨g, m * 9 + 5, none⟩) (HAC.out.block g (Array.getElem?_eq_some_iff.1 hg).1 (by have := HOWN.out g rfl; have := HP4.out; have := HW1S.out; omega) (by simp))
        have p5 : wr.cell? ⟨P, 5, none⟩ = some (.int .i64 (lvTo LV KS j)) := (by rw [cell_of_row _ _ 5 _ 83 _ HPJ.out]; rfl)
        have q5 : wr.frozen? ⟨P, 5, none⟩ = false := frozen_of_row _ _ 5 _ 83 HPJ.out
        have HPN : Hid (∀ v : Int, v = max (lvTo LV KS j) (LV.getD m 0) → (wr.setCell ⟨P, 5, none⟩ (.int .i64 v)).drew.heap[P]? = some (.cells #[.int .i64 kd, .slice a4 nn c4, .slice b4 kn d4, .bool op, .bool false, .int .i64 (lvTo LV KS (j + 1)), .slice none 0 0, .slice none 0 0, .map none] 83 (0, 0))) := Lib.hid (by
          intro v hv
          have hd : Below wr.heap.size (wr.setCell ⟨P, 5, none⟩ (.int .i64 v)) (wr.setCell ⟨P, 5, none⟩ (.int .i64 v)).drew := (Below.refl _ _).drew
          rw [hd.block P (Array.getElem?_eq_some_iff.1 HPJ.out).1, heap_setCell_same _ P 5 _ 83 _ HPJ.out, hv, HSX.out]
          rfl)
        have HACN : Hid (∀ v : Int, Acts w5 (wr.setCell ⟨P, 5, none⟩ (.int .i64 v)).drew P none) := Lib.hid (fun v => HAC.out.set 5 (.int .i64 v))
        clear hx hck hown hg
        generalize LV.getD m 0 = lm at *
        rcases (by omega : lvTo LV KS j < lm ∨ lm ≤ lvTo LV KS j) with hmx | hmx
        · go_upto_region 12 with (fail)
          go_region
          go_wp2
          go_roundw
          case rel => exact ⟨j + 1, by go_num, by omega, Lib.hid (HPN.out _ (by first | omega | (split <;> omega))), Lib.hid (HACN.out _)⟩
          case measure => simp [intOf]; omega
        · go_upto_region 12 with (fail)
          go_region
          go_wp2
          go_roundw
          case rel => exact ⟨j + 1, by go_num, by omega, Lib.hid (HPN.out _ (by first | omega | (split <;> omega))), Lib.hid (HACN.out _)⟩
          case measure => simp [intOf]; omega
    · have hjk2 : ¬ (j : Int) < kn := by omega
      obtain rfl : kn = j := by omega
      have hbr : Below w.heap.size w wr := (HB1.out.trans (HB5.out.mono HB1.out.size)).trans (HAC.out.below (by have := HPS.out; have := HP4.out; have := HW1S.out; omega) (by have := HP4.out; have := HW1S.out; omega) (fun k e => by cases e))
      have HBR := Lib.hid hbr
      have harr : ArenaAt wr A base la ln lc most ps := ⟨HAR.out, ownsRow_mono HA5.out.own (fun g e => HAC.out.block g (HA5.out.own.lt g e).2 (by have := HOWN.out g e; have := HP4.out; have := HW1S.out; omega) (by simp)), HA5.out.lt, Nat.le_trans HA5.out.le HAC.out.size⟩
      have HARR := Lib.hid harr
      have hdr : Below wr.heap.size wr wr.drew := (Below.refl _ _).drew
      have HDR := Lib.hid hdr
      have HOD := Lib.hid (ownsRow_mono harr.own (fun g e => hdr.block g (harr.own.lt g e).2))
      obtain ⟨i0, hi, hz0, hz1, hz2⟩ := info_parts Tryz.info83
      have HI := Lib.hid hi
      have HI0 := Lib.hid hz0
      have HI1 := Lib.hid hz1
      have HI2 := Lib.hid hz2
      have HLE : Hid (base ≤ (wr.drew.alloc (.cells #[.int .i64 kd, .slice a4 nn c4, .slice b4 kn d4, .bool op, .bool false, .int .i64 (lvTo LV KS kn), .slice none 0 0, .slice none 0 0, .map none] 83)).heap.size) := Lib.hid (by have := harr.le; have := hdr.size; simp; omega)
      have HONE : Hid (∀ u ∈ ([.int .i64 kd, .slice a4 nn c4, .slice b4 kn d4, .bool op, .bool false, .int .i64 (lvTo LV KS kn), .slice none 0 0, .slice none 0 0, .map none] : List Value), u.oneCell' = true) := Lib.hid (by
        generalize lvTo LV KS kn = l
        intro u hu
        simp only [List.mem_cons, List.not_mem_nil, or_false] at hu
        rcases hu with rfl | rfl | rfl | rfl | rfl | rfl | rfl | rfl | rfl <;> rfl)
      have HB5' : Hid (∀ w5', (wr.drew.alloc (.cells #[.int .i64 kd, .slice a4 nn c4, .slice b4 kn d4, .bool op, .bool false, .int .i64 (lvTo LV KS kn), .slice none 0 0, .slice none 0 0, .map none] 83)).grownBy w5' (Value.slice la ln lc).ownBlock → w5'.heap[A]? = some (.cells #[.slice la ln lc, .int .i64 most] 79 (0, 0))) := Lib.hid (fun w5' hg => by
        have hs := HARR.out.le
        have hl := HARR.out.lt
        have hds := HDR.out.size
        rw [hg.block A (by simp; omega) (fun e => by have := ownsRow_ge HARR.out.own A e.symm; omega), Below.heap_alloc _ _ _ (by omega), HDR.out.block A (by omega)]
        exact HARR.out.box)
      have b02 : (wr.alloc (.cells #[.int .i64 kd, .slice a4 nn c4, .slice b4 kn d4, .bool op, .bool false, .int .i64 (lvTo LV KS kn), .slice none 0 0, .slice none 0 0, .map none] 83)).cell? ⟨A, 0, none⟩ = some (.slice la ln lc) := (by rw [cell_of_row _ _ 0 _ 79 _ ((Below.heap_alloc _ _ _ (by have := HARR.out.le; have := HARR.out.lt; omega)).trans HAR.out)]; rfl)
      have p0 : wr.cell? ⟨P, 0, none⟩ = some (.int .i64 kd) := (by rw [cell_of_row _ _ 0 _ 83 _ HPJ.out]; rfl)
      have p1 : wr.cell? ⟨P, 1, none⟩ = some (.slice a4 nn c4) := (by rw [cell_of_row _ _ 1 _ 83 _ HPJ.out]; rfl)
      have p2 : wr.cell? ⟨P, 2, none⟩ = some (.slice b4 kn d4) := (by rw [cell_of_row _ _ 2 _ 83 _ HPJ.out]; rfl)
      have p3 : wr.cell? ⟨P, 3, none⟩ = some (.bool op) := (by rw [cell_of_row _ _ 3 _ 83 _ HPJ.out]; rfl)
      have p4 : wr.cell? ⟨P, 4, none⟩ = some (.bool false) := (by rw [cell_of_row _ _ 4 _ 83 _ HPJ.out]; rfl)
      have p5 : wr.cell? ⟨P, 5, none⟩ = some (.int .i64 (lvTo LV KS kn)) := (by rw [cell_of_row _ _ 5 _ 83 _ HPJ.out]; rfl)
      have p6 : wr.cell? ⟨P, 6, none⟩ = some (.slice none 0 0) := (by rw [cell_of_row _ _ 6 _ 83 _ HPJ.out]; rfl)
      have p7 : wr.cell? ⟨P, 7, none⟩ = some (.slice none 0 0) := (by rw [cell_of_row _ _ 7 _ 83 _ HPJ.out]; rfl)
      have p8 : wr.cell? ⟨P, 8, none⟩ = some (.map none) := (by rw [cell_of_row _ _ 8 _ 83 _ HPJ.out]; rfl)
      clear hbr harr hdr hi hz0 hz1 hz2
      generalize hlk : lvTo LV KS kn = lk at *
      go_upto_region 14 with (fail)
      go_region_law
        (first
          | (refine step_append_lies (wr.drew.alloc (.cells #[.int .i64 kd, .slice a4 nn c4, .slice b4 kn d4, .bool op, .bool false, .int .i64 (lk), .slice none 0 0, .slice none 0 0, .map none] 83)) rfl _ _ 77 rfl base 83 i0 (.agg #[.int .i64 0, .slice none 0 0, .slice none 0 0, .bool false, .bool false, .int .i64 0, .slice none 0 0, .slice none 0 0, .map none]) 9 136 Tryz.underlying77 HI.out HI0.out HI1.out HI2.out rfl (by decide) (.slice la ln lc) ln ps rfl (HOD.out.alloc _) ⟨wr.heap.size, 0, none⟩ 1 1 [.int .i64 kd, .slice a4 nn c4, .slice b4 kn d4, .bool op, .bool false, .int .i64 (lk), .slice none 0 0, .slice none 0 0, .map none] rfl rfl (news_of (heap_alloc_new wr.drew _)) HONE.out (by decide) (by unfold maxLen; omega) (by omega) HLE.out _ rfl ?_; intro g5 cc5 w6 hown hgr hat hlt; have hA5 := HB5'.out w6 hgr; have a5 : w6.cell? ⟨A, 0, none⟩ = some (.slice la ln lc) := (by rw [cell_of_row _ _ 0 _ 79 _ hA5]; rfl); have f5 : w6.frozen? ⟨A, 0, none⟩ = false := frozen_of_row _ _ 0 _ 79 hA5; clear hA5 hat hlt; have HOW := Lib.hid hown; have HGR := Lib.hid hgr; clear hown hgr)
          | fail)
      all_goals
        have hfin := HARR.out.acts (wb := wr.drew.alloc (.cells #[.int .i64 kd, .slice a4 nn c4, .slice b4 kn d4, .bool op, .bool false, .int .i64 (lk), .slice none 0 0, .slice none 0 0, .map none] 83)) (HDR.out.alloc HDR.out.size _) HBR.out HLE0.out HOW.out HGR.out
        have hfr : ∀ b, b < w5.heap.size → b ≠ P → w1.heap.size ≤ b → (w6.setCell ⟨A, 0, none⟩ (.slice (some ⟨g5, 0, none⟩) (ln + 1) cc5)).heap[b]? = w5.heap[b]? := fun b hb h1 h2 => by
          have hs1 := HW1S.out
          have hal := HAL.out
          have hac := HAC.out.size
          have hds := HDR.out.size
          rw [Below.heap_setCell _ _ _ _ (by simp; omega), HGR.out.block b (by simp; omega) (fun e => by have := HOWN.out b e.symm; omega), Below.heap_alloc _ _ _ (by omega), HDR.out.block b (by omega)]
          exact HAC.out.block b hb h1 (by simp)
        have hsz : w5.heap.size ≤ (w6.setCell ⟨A, 0, none⟩ (.slice (some ⟨g5, 0, none⟩) (ln + 1) cc5)).heap.size := by
          have hac := HAC.out.size
          have hds := HDR.out.size
          have := HGR.out.size
          simp only [World.size_alloc] at this
          simp
          omega
        have HNF := Lib.hid (HN5.out.kept0 (fun ad e h0 hl => hfr _ hl ((HGA.out ad e).2 h0) (HGA.out ad e).1) hsz)
        have HKF := Lib.hid (HK5.out.kept0 (fun ad e h0 hl => hfr _ hl ((HGB.out ad e).2 h0) (HGB.out ad e).1) hsz)
        have HFIN := Lib.hid hfin
        clear hfin hfr hsz HGR HOW a5 f5 b0 b02 p0 p1 p2 p3 p4 p5 p6 p7 p8
        generalize (w6.setCell ⟨A, 0, none⟩ (.slice (some ⟨g5, 0, none⟩) (ln + 1) cc5)) = w7 at *
        have a7 : w7.cell? ⟨A, 0, none⟩ = some (.slice (some ⟨g5, 0, none⟩) (ln + 1) cc5) := (by rw [cell_of_row _ _ 0 _ 79 _ HFIN.out.1.box]; rfl)
        go_wp2
        go_ret2
        exact ⟨some ⟨g5, 0, none⟩, cc5, a4, c4, b4, d4, by simp [IntKind.wrap_i64] <;> omega, HFIN.out.1, HNF.out, HKF.out, HZA.out, HZB.out, fun ad e => Nat.le_trans HB1.out.size (HGA.out ad e).1, fun ad e => Nat.le_trans HB1.out.size (HGB.out ad e).1, HFIN.out.2⟩
end Go.Proofs.YtoakfninndkgaaaGreatDoor
