/- Walks: an arena's plain functions. Walks: slices.Clone, and the clone of a head. Walks: the clone of a head. Walks: arena.right. Walks: arena.Var. -/
import Derived.Test.YtifilhkkgkihpaaGreatDoorGr04
import Derived.Deep.RegionLaw
import Derived.Deep.AppendLies
set_option linter.unusedSimpArgs false
set_option linter.unusedVariables false
set_option linter.unusedSimpArgs false
set_option linter.unusedVariables false
namespace Go.Proofs.YtifilhkkgkihpaaGreatDoor
open Go.RowKit
theorem ownsRow_mono {w w' : World} {base : Nat} {e : TypeId} {size : Nat} {v : Value} {n : Nat} {xs : List Value} (h : w.ownsRow base e size v n xs) (hb : ∀ g, v.ownBlock = some g → w'.heap[g]? = w.heap[g]?) : w'.ownsRow base e size v n xs := by
  refine ⟨h.1, ?_⟩
  rcases h.2 with h' | ⟨g, cap, cur, rfl, e2, e3, e4⟩
  · exact Or.inl h'
  · exact Or.inr ⟨g, cap, cur, rfl, e2, by rw [hb g rfl]; exact e3, e4⟩
/-- an arena as it lies: its box at A, its row of parts at base or behind it. -/
structure ArenaAt (w : World) (A base : Nat) (la : Option Addr) (ln lc : Nat) (most : Int) (ps : List Value) : Prop where
  box : w.heap[A]? = some (.cells #[.slice la ln lc, .int .i64 most] 84 (0, 0))
  own : w.ownsRow base 96 9 (.slice la ln lc) ln ps
  lt : A < base
  le : base ≤ w.heap.size
theorem ArenaAt.on {w w' : World} {A base : Nat} {la : Option Addr} {ln lc : Nat} {most : Int} {ps : List Value} (h : ArenaAt w A base la ln lc most ps) (hb : Below w.heap.size w w') : ArenaAt w' A base la ln lc most ps :=
  ⟨(hb.block A (Nat.lt_of_lt_of_le h.lt h.le)).trans h.box, ownsRow_mono h.own (fun g hg => hb.block g (h.own.lt g hg).2), h.lt, Nat.le_trans h.le hb.size⟩
set_option maxRecDepth 20000 in
set_option maxHeartbeats 2000000 in
theorem new_ok (w : World) (m : Int) (h1 : 1 ≤ m) (h2 : m ≤ 1048576) :
    Calls Tryz.prog 20 #[.int .i64 m] w fun e w' => e = .returned (.tuple #[.pointer (some ⟨w.heap.size, 0, none⟩), .int .i64 0]) ∧ w' = w.alloc (.cells #[.slice none 0 0, .int .i64 m] 84) := by
  have h3 : ¬ m < 1 := by omega
  have h4 : ¬ 1048576 < m := by omega
  go_enter Tryz.func20, Tryz.ntmps20
  go_wp2
  go_ret2
  exact ⟨rfl, rfl⟩
set_option maxRecDepth 20000 in
set_option maxHeartbeats 2000000 in
theorem room_any (w : World) (A : Nat) (la : Option Addr) (ln lc : Nat) (most n : Int) (hA : w.heap[A]? = some (.cells #[.slice la ln lc, .int .i64 most] 84 (0, 0))) (hn : (ln : Int) + n ≤ maxLen) (h0 : 0 ≤ n) :
    Calls Tryz.prog 89 #[.pointer (some ⟨A, 0, none⟩), .int .i64 n] w fun e w' => e = .returned (.int .i64 (if most < (ln : Int) + n then 12 else 0)) ∧ Below w.heap.size w w' := by
  have a0 : w.cell? ⟨A, 0, none⟩ = some (.slice la ln lc) := (by rw [cell_of_row _ _ 0 _ 84 _ hA]; rfl)
  have a1 : w.cell? ⟨A, 1, none⟩ = some (.int .i64 most) := (by rw [cell_of_row _ _ 1 _ 84 _ hA]; rfl)
  have hw : IntKind.i64.wrap ((ln : Int) + n) = (ln : Int) + n := by rw [IntKind.wrap_i64]; simp only [maxLen] at hn; omega
  clear hA
  by_cases hm : most < (ln : Int) + n
  · go_enter Tryz.func89, Tryz.ntmps89
    go_wp2
    go_region
    go_wp2
    go_ret
    refine ⟨?_, (Below.refl _ _).drew⟩
    simp [hm]
  · go_enter Tryz.func89, Tryz.ntmps89
    go_wp2
    go_region
    go_wp2
    go_ret
    refine ⟨?_, (Below.refl _ _).drew⟩
    simp [hm]
set_option maxRecDepth 20000 in
set_option maxHeartbeats 2000000 in
theorem there_any (w : World) (A : Nat) (la : Option Addr) (ln lc : Nat) (most i : Int) (hA : w.heap[A]? = some (.cells #[.slice la ln lc, .int .i64 most] 84 (0, 0))) :
    Calls Tryz.prog 65 #[.pointer (some ⟨A, 0, none⟩), .int .i64 i] w fun e w' => e = .returned (.bool (decide (0 ≤ i) && decide (i < ln))) ∧ w' = w := by
  have a0 : w.cell? ⟨A, 0, none⟩ = some (.slice la ln lc) := (by rw [cell_of_row _ _ 0 _ 84 _ hA]; rfl)
  clear hA
  by_cases h0 : 0 ≤ i
  · by_cases h1 : i < ln
    · go_enter Tryz.func65, Tryz.ntmps65
      go_wp2
      go_ret
      simp [h0, h1]
    · go_enter Tryz.func65, Tryz.ntmps65
      go_wp2
      go_ret
      simp [h0, h1]
  · go_enter Tryz.func65, Tryz.ntmps65
    go_wp2
    go_ret
    simp [h0]
    omega
set_option maxRecDepth 20000 in
set_option maxHeartbeats 2000000 in
theorem there_nil (w : World) (i : Int) : Calls Tryz.prog 65 #[.pointer none, .int .i64 i] w fun e w' => e = .returned (.bool false) ∧ w' = w := by
  go_enter Tryz.func65, Tryz.ntmps65
  go_wp2
  go_ret
  exact ⟨rfl, rfl⟩
set_option maxRecDepth 20000 in
set_option maxHeartbeats 2000000 in
theorem level_any (w : World) (A base : Nat) (la : Option Addr) (ln lc : Nat) (most : Int) (ps : List Value) (i : Nat) (lv : Int) (hA : ArenaAt w A base la ln lc most ps) (hi : i < ln) (hl : ps[i * 9 + 5]? = some (.int .i64 lv)) (hln : ln ≤ maxLen) :
    Calls Tryz.prog 26 #[.pointer (some ⟨A, 0, none⟩), .int .i64 (i : Int)] w fun e w' => e = .returned (.int .i64 lv) ∧ w' = w := by
  have a0 : w.cell? ⟨A, 0, none⟩ = some (.slice la ln lc) := (by rw [cell_of_row _ _ 0 _ 84 _ hA.box]; rfl)
  have HT := Lib.hid (there_any w A la ln lc most (i : Int) hA.box)
  rcases hA.own.2 with ⟨h, _⟩ | ⟨g, cap, cur, h, hb, hg, -⟩
  · cases h; omega
  · cases h
    have a5 : w.cell? ⟨g, i * 9 + 5, none⟩ = some (.int .i64 lv) := (hA.own.cellAt (i * 9 + 5) (by omega)).trans hl
    have hi2 : (i : Int) < ln := by omega
    have hi3 : (decide (0 ≤ (i : Int)) && decide ((i : Int) < ln)) = true := by simp [hi2]
    rw [hi3] at HT
    clear hA hg hl
    go_enter Tryz.func26, Tryz.ntmps26
    go_wp2_with (go_at_call 65; refine HT.out.mono ?_; rintro e w2 ⟨rfl, rfl⟩)
    go_ret
    exact ⟨rfl, rfl⟩
end Go.Proofs.YtifilhkkgkihpaaGreatDoor
set_option linter.unusedSimpArgs false
set_option linter.unusedVariables false
namespace Go.Proofs.YtifilhkkgkihpaaGreatDoor
open Go.RowKit
theorem NamesAt.kept {w w' : World} {an : Option Addr} {n : Nat} {NS : List ByteArray} (h : NamesAt w an n NS) (hk : ∀ ad, an = some ad → w'.heap[ad.block]? = w.heap[ad.block]?) (hs : w.heap.size ≤ w'.heap.size) : NamesAt w' an n NS := by
  refine ⟨h.1, ?_⟩
  rcases h.2 with h' | ⟨gn, on, e, hg, hc⟩
  · exact Or.inl h'
  · exact Or.inr ⟨gn, on, e, Nat.lt_of_lt_of_le hg hs, fun i s hi => by rw [← hc i s hi]; exact World.cell?_of_block (w := w) (a := ⟨gn, on + i, none⟩) (hk ⟨gn, on, none⟩ e)⟩
theorem IntsAt.kept {w w' : World} {an : Option Addr} {n : Nat} {NS : List Int} (h : IntsAt w an n NS) (hk : ∀ ad, an = some ad → w'.heap[ad.block]? = w.heap[ad.block]?) (hs : w.heap.size ≤ w'.heap.size) : IntsAt w' an n NS := by
  refine ⟨h.1, ?_⟩
  rcases h.2 with h' | ⟨gn, on, e, hg, hc⟩
  · exact Or.inl h'
  · exact Or.inr ⟨gn, on, e, Nat.lt_of_lt_of_le hg hs, fun i s hi => by rw [← hc i s hi]; exact World.cell?_of_block (w := w) (a := ⟨gn, on + i, none⟩) (hk ⟨gn, on, none⟩ e)⟩

theorem Tryz.info3b : (Tryz.prog.info? 3).map (fun i => (i.zero, i.size, i.bytes)) = some (some (.int .i64 0), 1, 8) := by kernel_rfl
set_option maxRecDepth 20000 in
set_option maxHeartbeats 2000000 in
theorem clone_45 (w : World) (a : Option Addr) (n c : Nat) (XS : List Int) (h : IntsAt w a n XS) (hc : a = none → c = 0) (hn : n ≤ 100000) :
    Calls Tryz.prog 67 #[.slice a n c] w fun e w' => ∃ a' c', e = .returned (.slice a' n c') ∧ IntsAt w' a' n XS ∧ (a' = none → c' = 0) ∧ (∀ ad, a' = some ad → w.heap.size ≤ ad.block) ∧ Below w.heap.size w w' := by
  cases a with
  | none =>
    have hc0 := hc rfl
    subst hc0
    have hn0 : n = 0 := h.2.elim id (fun ⟨g, o, e, _⟩ => by cases e)
    subst hn0
    have HH := Lib.hid h
    clear h
    have hq := Lib.run_eql_slice_nil (P := Tryz.prog) w 31 3 none 0 0 0 0 Tryz.underlying31
    simp only [Option.isNone] at hq
    go_enter Tryz.func67, Tryz.ntmps67
    go_wp2
    go_ret
    exact ⟨none, 0, rfl, HH.out, fun _ => rfl, fun _ e => (by cases e), Below.refl _ _⟩
  | some ad =>
    obtain ⟨i0, hi, hz0, hz1, hz2⟩ := info_parts Tryz.info3b
    have HH := Lib.hid h
    have hown0 : (w.alloc (.cells #[] 3)).ownsRow w.heap.size 3 1 (.slice (some ⟨w.heap.size, 0, none⟩) 0 0) 0 [] := World.ownsRow_made w #[] 0 (Nat.le_refl _) (by decide) rfl
    have HO := Lib.hid hown0
    have HN : Hid (∀ j u, (XS.map (fun k => Value.int .i64 k))[j]? = some u → (w.alloc (.cells #[] 3)).cell? (ad.add j) = some u) := Lib.hid (by
      intro j u hj
      rcases h.2 with h0 | ⟨g, o, e, hg, hcell⟩
      · have := h.1
        rw [h0] at this
        have : XS = [] := List.length_eq_zero_iff.1 this.symm
        subst this
        simp at hj
      · cases e
        rw [List.getElem?_map] at hj
        cases hx : XS[j]? with
        | none => rw [hx] at hj; simp at hj
        | some x =>
          rw [hx] at hj
          simp only [Option.map_some, Option.some.injEq] at hj
          subst hj
          rw [show ((⟨g, o, none⟩ : Addr).add j) = ⟨g, o + j, none⟩ from by unfold Addr.add; split <;> simp_all, ← hcell j x hx]
          exact ((Below.refl w.heap.size w).alloc (Nat.le_refl _) _).cell (p := ⟨g, o + j, none⟩) hg)
    have HL : Hid ((XS.map (fun k => Value.int .i64 k)).length = n * 1) := Lib.hid (by rw [List.length_map, h.1, Nat.mul_one])
    have HONE : Hid (∀ u ∈ XS.map (fun k => Value.int .i64 k), u.oneCell' = true) := Lib.hid (by
      intro u hu
      obtain ⟨x, _, rfl⟩ := List.mem_map.1 hu
      rfl)
    clear h hown0
    have hq := Lib.run_eql_slice_nil (P := Tryz.prog) w 31 3 (some ad) n c 0 0 Tryz.underlying31
    simp only [Option.isNone] at hq
    go_enter Tryz.func67, Tryz.ntmps67
    go_wp2_with (at_builtin; refine wpList_append_own _ rfl _ _ 31 rfl w.heap.size 3 i0 (.int .i64 0) 1 8 Tryz.underlying31 hi hz0 hz1 hz2 rfl (by decide) _ 0 _ rfl HO.out ad n c (XS.map (fun k => Value.int .i64 k)) rfl HL.out HN.out HONE.out (by unfold maxLen; omega) (by omega) (by simp) ?_; intro v' w5 hown hgr hnil)
    go_ret
    obtain ⟨a', c', rfl⟩ := own_slice hown
    have hlen := HH.out.1
    rw [Nat.zero_add] at hown
    simp only [List.nil_append] at hown
    refine ⟨a', c', by simp, ⟨hlen, ?_⟩, ?_, fun ad' e => (hown.lt ad'.block (by rw [e]; rfl)).1, ((Below.refl _ _).alloc (Nat.le_refl _) _).grown hgr (by simp) (fun q hq => by cases hq; exact Nat.le_refl _)⟩
    · rcases hown.2 with ⟨_, hz⟩ | ⟨g, cap, cur, e', hb', hg', -⟩
      · exact Or.inl hz
      · right
        have ea : a' = some ⟨g, 0, none⟩ := by injection e'
        subst ea
        refine ⟨g, 0, rfl, (Array.getElem?_eq_some_iff.1 hg').1, fun i s hs => ?_⟩
        have hil := (List.getElem?_eq_some_iff.1 hs).1
        rw [hown.cellAt (0 + i) (by omega), Nat.zero_add, List.getElem?_map, hs]
        rfl
    · intro e
      subst e
      rcases hown.2 with ⟨e', _⟩ | ⟨g, cap, cur, e', _⟩
      · injection e'
      · injection e' with e1
        cases e1

theorem Tryz.info9b : (Tryz.prog.info? 9).map (fun i => (i.zero, i.size, i.bytes)) = some (some (.string ByteArray.empty), 1, 16) := by kernel_rfl
set_option maxRecDepth 20000 in
set_option maxHeartbeats 2000000 in
theorem clone_55 (w : World) (a : Option Addr) (n c : Nat) (XS : List ByteArray) (h : NamesAt w a n XS) (hc : a = none → c = 0) (hn : n ≤ 100000) :
    Calls Tryz.prog 91 #[.slice a n c] w fun e w' => ∃ a' c', e = .returned (.slice a' n c') ∧ NamesAt w' a' n XS ∧ (a' = none → c' = 0) ∧ (∀ ad, a' = some ad → w.heap.size ≤ ad.block) ∧ Below w.heap.size w w' := by
  cases a with
  | none =>
    have hc0 := hc rfl
    subst hc0
    have hn0 : n = 0 := h.2.elim id (fun ⟨g, o, e, _⟩ => by cases e)
    subst hn0
    have HH := Lib.hid h
    clear h
    have hq := Lib.run_eql_slice_nil (P := Tryz.prog) w 30 9 none 0 0 0 0 Tryz.underlying30
    simp only [Option.isNone] at hq
    go_enter Tryz.func91, Tryz.ntmps91
    go_wp2
    go_ret
    exact ⟨none, 0, rfl, HH.out, fun _ => rfl, fun _ e => (by cases e), Below.refl _ _⟩
  | some ad =>
    obtain ⟨i0, hi, hz0, hz1, hz2⟩ := info_parts Tryz.info9b
    have HH := Lib.hid h
    have hown0 : (w.alloc (.cells #[] 9)).ownsRow w.heap.size 9 1 (.slice (some ⟨w.heap.size, 0, none⟩) 0 0) 0 [] := World.ownsRow_made w #[] 0 (Nat.le_refl _) (by decide) rfl
    have HO := Lib.hid hown0
    have HN : Hid (∀ j u, (XS.map Value.string)[j]? = some u → (w.alloc (.cells #[] 9)).cell? (ad.add j) = some u) := Lib.hid (by
      intro j u hj
      rcases h.2 with h0 | ⟨g, o, e, hg, hcell⟩
      · have := h.1
        rw [h0] at this
        have : XS = [] := List.length_eq_zero_iff.1 this.symm
        subst this
        simp at hj
      · cases e
        rw [List.getElem?_map] at hj
        cases hx : XS[j]? with
        | none => rw [hx] at hj; simp at hj
        | some x =>
          rw [hx] at hj
          simp only [Option.map_some, Option.some.injEq] at hj
          subst hj
          rw [show ((⟨g, o, none⟩ : Addr).add j) = ⟨g, o + j, none⟩ from by unfold Addr.add; split <;> simp_all, ← hcell j x hx]
          exact ((Below.refl w.heap.size w).alloc (Nat.le_refl _) _).cell (p := ⟨g, o + j, none⟩) hg)
    have HL : Hid ((XS.map Value.string).length = n * 1) := Lib.hid (by rw [List.length_map, h.1, Nat.mul_one])
    have HONE : Hid (∀ u ∈ XS.map Value.string, u.oneCell' = true) := Lib.hid (by
      intro u hu
      obtain ⟨x, _, rfl⟩ := List.mem_map.1 hu
      rfl)
    clear h hown0
    have hq := Lib.run_eql_slice_nil (P := Tryz.prog) w 30 9 (some ad) n c 0 0 Tryz.underlying30
    simp only [Option.isNone] at hq
    go_enter Tryz.func91, Tryz.ntmps91
    go_wp2_with (at_builtin; refine wpList_append_own _ rfl _ _ 30 rfl w.heap.size 9 i0 (.string ByteArray.empty) 1 16 Tryz.underlying30 hi hz0 hz1 hz2 rfl (by decide) _ 0 _ rfl HO.out ad n c (XS.map Value.string) rfl HL.out HN.out HONE.out (by unfold maxLen; omega) (by omega) (by simp) ?_; intro v' w5 hown hgr hnil)
    go_ret
    obtain ⟨a', c', rfl⟩ := own_slice hown
    have hlen := HH.out.1
    rw [Nat.zero_add] at hown
    simp only [List.nil_append] at hown
    refine ⟨a', c', by simp, ⟨hlen, ?_⟩, ?_, fun ad' e => (hown.lt ad'.block (by rw [e]; rfl)).1, ((Below.refl _ _).alloc (Nat.le_refl _) _).grown hgr (by simp) (fun q hq => by cases hq; exact Nat.le_refl _)⟩
    · rcases hown.2 with ⟨_, hz⟩ | ⟨g, cap, cur, e', hb', hg', -⟩
      · exact Or.inl hz
      · right
        have ea : a' = some ⟨g, 0, none⟩ := by injection e'
        subst ea
        refine ⟨g, 0, rfl, (Array.getElem?_eq_some_iff.1 hg').1, fun i s hs => ?_⟩
        have hil := (List.getElem?_eq_some_iff.1 hs).1
        rw [hown.cellAt (0 + i) (by omega), Nat.zero_add, List.getElem?_map, hs]
        rfl
    · intro e
      subst e
      rcases hown.2 with ⟨e', _⟩ | ⟨g, cap, cur, e', _⟩
      · injection e'
      · injection e' with e1
        cases e1
end Go.Proofs.YtifilhkkgkihpaaGreatDoor
set_option linter.unusedSimpArgs false
set_option linter.unusedVariables false
namespace Go.Proofs.YtifilhkkgkihpaaGreatDoor
open Go.RowKit
def ClonePost (w : World) (kd : Int) (nn : Nat) (NS : List ByteArray) (kn : Nat) (KS : List Int) (op : Bool) (e : Ending) (w' : World) : Prop :=
  ∃ a' c' b' d', e = .returned (.agg #[.int .i64 kd, .slice a' nn c', .slice b' kn d', .bool op]) ∧ NamesAt w' a' nn NS ∧ IntsAt w' b' kn KS ∧ (a' = none → c' = 0) ∧ (b' = none → d' = 0) ∧ (∀ ad, a' = some ad → w.heap.size ≤ ad.block) ∧ (∀ ad, b' = some ad → w.heap.size ≤ ad.block) ∧ Below w.heap.size w w'
set_option maxRecDepth 20000 in
set_option maxHeartbeats 4000000 in
theorem clone_head (w : World) (kd : Int) (na : Option Addr) (nn nc : Nat) (NS : List ByteArray) (ka : Option Addr) (kn kc : Nat) (KS : List Int) (op : Bool) (hN : NamesAt w na nn NS) (hK : IntsAt w ka kn KS) (hn : nn ≤ 100000) (hk : kn ≤ 100000) (hnc : na = none → nc = 0) (hkc : ka = none → kc = 0) :
    Calls Tryz.prog 66 #[.agg #[.int .i64 kd, .slice na nn nc, .slice ka kn kc, .bool op]] w (ClonePost w kd nn NS kn KS op) := by
  have HN := Lib.hid hN
  have HK := Lib.hid hK
  have HC55 : Hid (∀ w', Below w.heap.size w w' → Calls Tryz.prog 91 #[.slice na nn nc] w' fun e w'' => ∃ a' c', e = .returned (.slice a' nn c') ∧ NamesAt w'' a' nn NS ∧ (a' = none → c' = 0) ∧ (∀ ad, a' = some ad → w'.heap.size ≤ ad.block) ∧ Below w'.heap.size w' w'') := Lib.hid (fun w' hb => clone_55 w' na nn nc NS (HN.out.on hb) hnc hn)
  have HC45 : Hid (∀ w', Below w.heap.size w w' → Calls Tryz.prog 67 #[.slice ka kn kc] w' fun e w'' => ∃ a' c', e = .returned (.slice a' kn c') ∧ IntsAt w'' a' kn KS ∧ (a' = none → c' = 0) ∧ (∀ ad, a' = some ad → w'.heap.size ≤ ad.block) ∧ Below w'.heap.size w' w'') := Lib.hid (fun w' hb => clone_45 w' ka kn kc KS (HK.out.on hb) hkc hk)
  have HB : Hid (Below w.heap.size w ((w.alloc (.cells #[.int .i64 kd, .slice na nn nc, .slice ka kn kc, .bool op] 33)).alloc (.cells #[.int .i64 0, .slice none 0 0, .slice none 0 0, .bool false] 33))) := Lib.hid (((Below.refl _ _).alloc (Nat.le_refl _) _).alloc (by simp) _)
  have HX : Hid (((w.alloc (.cells #[.int .i64 kd, .slice na nn nc, .slice ka kn kc, .bool op] 33)).alloc (.cells #[.int .i64 0, .slice none 0 0, .slice none 0 0, .bool false] 33)).heap[w.heap.size]? = some (.cells #[.int .i64 kd, .slice na nn nc, .slice ka kn kc, .bool op] 33 (0, 0))) := Lib.hid (by rw [Below.heap_alloc _ _ _ (by simp)]; exact heap_alloc_new w _)
  have HY : Hid (((w.alloc (.cells #[.int .i64 kd, .slice na nn nc, .slice ka kn kc, .bool op] 33)).alloc (.cells #[.int .i64 0, .slice none 0 0, .slice none 0 0, .bool false] 33)).heap[w.heap.size + 1]? = some (.cells #[.int .i64 0, .slice none 0 0, .slice none 0 0, .bool false] 33 (0, 0))) := Lib.hid (by
    have := heap_alloc_new (w.alloc (.cells #[.int .i64 kd, .slice na nn nc, .slice ka kn kc, .bool op] 33)) (.cells #[.int .i64 0, .slice none 0 0, .slice none 0 0, .bool false] 33)
    simpa using this)
  clear hN hK hnc hkc
  go_enter Tryz.func66, Tryz.ntmps66
  go_upto_region 1 with (fail)
  generalize ((w.alloc (.cells #[.int .i64 kd, .slice na nn nc, .slice ka kn kc, .bool op] 33)).alloc (.cells #[.int .i64 0, .slice none 0 0, .slice none 0 0, .bool false] 33)) = w1 at *
  have a1 : w1.cell? ⟨w.heap.size, 1, none⟩ = some (.slice na nn nc) := (by rw [cell_of_row _ _ 1 _ 33 _ HX.out]; rfl)
  have a2 : w1.cell? ⟨w.heap.size, 2, none⟩ = some (.slice ka kn kc) := (by rw [cell_of_row _ _ 2 _ 33 _ HX.out]; rfl)
  have HS1 : Hid (w.heap.size + 1 < w1.heap.size) := Lib.hid (Array.getElem?_eq_some_iff.1 HY.out).1
  go_region_law
    (first
      | (go_simp; go_at_call 91; (with_reducible refine (HC55.out _ (by exact HB.out.drew)).mono ?_); rintro e w5 ⟨a5, c5, rfl, hn5, hz5, hg5, hb5⟩; have HN5 := Lib.hid hn5; have HZ5 := Lib.hid hz5; have HG5 : Hid (∀ ad, a5 = some ad → w1.heap.size ≤ ad.block) := Lib.hid hg5; have HB5 := Lib.hid (show Below w1.heap.size w1 w5 from (Below.refl _ _).drew.trans hb5); have HX5 := Lib.hid ((HB5.out.block w.heap.size (by have := HS1.out; omega)).trans HX.out); have d1 : w5.cell? ⟨w.heap.size, 1, none⟩ = some (.slice na nn nc) := (by rw [cell_of_row _ _ 1 _ 33 _ HX5.out]; rfl); have d2 : w5.cell? ⟨w.heap.size, 2, none⟩ = some (.slice ka kn kc) := (by rw [cell_of_row _ _ 2 _ 33 _ HX5.out]; rfl); clear hn5 hz5 hg5 hb5)
      | (go_simp; go_at_call 67; (with_reducible refine (HC45.out _ (by exact HB.out.trans (HB5.out.mono HB.out.size))).mono ?_); rintro e w6 ⟨b6, c6, rfl, hk6, hz6, hg6, hb6⟩; have HK6 := Lib.hid hk6; have HZ6 := Lib.hid hz6; have HG6 : Hid (∀ ad, b6 = some ad → w1.heap.size ≤ ad.block) := Lib.hid (fun ad e => Nat.le_trans HB5.out.size (hg6 ad e)); have HN6 := Lib.hid (HN5.out.on hb6); have HB6 := Lib.hid (show Below w1.heap.size w1 w6 from HB5.out.trans (hb6.mono HB5.out.size)); have HX6 := Lib.hid ((HB6.out.block w.heap.size (by have := HS1.out; omega)).trans HX.out); have e1 : w6.cell? ⟨w.heap.size, 1, none⟩ = some (.slice na nn nc) := (by rw [cell_of_row _ _ 1 _ 33 _ HX6.out]; rfl); have e2 : w6.cell? ⟨w.heap.size, 2, none⟩ = some (.slice ka kn kc) := (by rw [cell_of_row _ _ 2 _ 33 _ HX6.out]; rfl); have e0 : w6.cell? ⟨w.heap.size, 0, none⟩ = some (.int .i64 kd) := (by rw [cell_of_row _ _ 0 _ 33 _ HX6.out]; rfl); have e3 : w6.cell? ⟨w.heap.size, 3, none⟩ = some (.bool op) := (by rw [cell_of_row _ _ 3 _ 33 _ HX6.out]; rfl); have HY6 := Lib.hid ((HB6.out.block (w.heap.size + 1) HS1.out).trans HY.out); have f1 : w6.frozen? ⟨w.heap.size, 1, none⟩ = false := frozen_of_row _ _ 1 _ 33 HX6.out; have f2 : w6.frozen? ⟨w.heap.size, 2, none⟩ = false := frozen_of_row _ _ 2 _ 33 HX6.out; have l6 : w.heap.size < w6.heap.size := (Array.getElem?_eq_some_iff.1 HX6.out).1; clear hk6 hz6 hg6 hb6)
      | fail)
  all_goals
    go_wp2_with (refine wpList_store_row rfl 33 _ _ rfl (w.heap.size + 1) _ rfl rfl 33 _ ((Below.heap_setCell _ _ _ _ (by simp)).trans ((Below.heap_setCell _ _ _ _ (by simp)).trans HY6.out)) (by kernel_rfl) rfl (by simp [Value.oneCell']) ?_)
    (try simp only [Exit.inBlock, Exit.then])
    exact bodyPost_ret (v := .agg #[.int .i64 kd, .slice a5 nn c5, .slice b6 kn c6, .bool op]) (results_cell_row (P := Tryz.prog) rfl _ _ (w.heap.size + 1) 33 _ (0, 0) _ rfl (setRow_heap _ _ _ _ _ _ ((Below.heap_setCell _ _ _ _ (by simp)).trans ((Below.heap_setCell _ _ _ _ (by simp)).trans HY6.out))) Tryz.underlying33 rfl (by kernel_rfl)) rfl
      (show ClonePost w kd nn NS kn KS op _ _ from ⟨a5, c5, b6, c6, rfl,
        HN6.out.kept (fun ad e => by have h1 := HG5.out ad e; have h2 := HS1.out; exact (setRow_other _ _ _ _ (by omega)).trans ((Below.heap_setCell _ _ _ _ (by simp; omega)).trans (Below.heap_setCell _ _ _ _ (by simp; omega)))) (by rw [setRow_size]; simp),
        HK6.out.kept (fun ad e => by have h1 := HG6.out ad e; have h2 := HS1.out; exact (setRow_other _ _ _ _ (by omega)).trans ((Below.heap_setCell _ _ _ _ (by simp; omega)).trans (Below.heap_setCell _ _ _ _ (by simp; omega)))) (by rw [setRow_size]; simp),
        HZ5.out, HZ6.out, fun ad e => Nat.le_trans HB.out.size (HG5.out ad e), fun ad e => Nat.le_trans HB.out.size (HG6.out ad e),
        by
          have hb := HB.out.trans (HB6.out.mono HB.out.size)
          exact ⟨hb.os, hb.tape, hb.output, by rw [setRow_size]; simp; exact hb.size, fun k hk => ((setRow_other _ _ _ _ (by omega)).trans ((Below.heap_setCell _ _ _ _ (by simp; omega)).trans (Below.heap_setCell _ _ _ _ (by simp; omega)))).trans (hb.block k hk)⟩⟩)
end Go.Proofs.YtifilhkkgkihpaaGreatDoor
set_option linter.unusedSimpArgs false
set_option linter.unusedVariables false
namespace Go.Proofs.YtifilhkkgkihpaaGreatDoor
open Go.RowKit
def zerosTo (j : Nat) : List Value := List.replicate j (.int .i64 0)
theorem zerosTo_succ (j : Nat) : zerosTo (j + 1) = zerosTo j ++ [.int .i64 0] := List.replicate_succ'
structure RightLoop (w1 wr : World) (R G : Nat) (kd : Int) (na : Option Addr) (nn nc : Nat) (op : Bool) (j : Nat) (aq : Option Addr) (cq : Nat) : Prop where
  g : wr.heap[G]? = some (.cells #[.int .i64 kd, .slice na nn nc, .slice aq j cq, .bool op] 33 (0, 0))
  o : wr.ownsRow R 3 1 (.slice aq j cq) j (zerosTo j)
  keep : ∀ b, b < R → b ≠ G → wr.heap[b]? = w1.heap[b]?
  lg : G < R
  size : R ≤ wr.heap.size
  os : wr.os = w1.os
  tape : wr.tape = w1.tape
  output : wr.output = w1.output
theorem RightLoop.lo5 {w1 wr w5 : World} {R G : Nat} {kd : Int} {na : Option Addr} {nn nc : Nat} {op : Bool} {j : Nat} {aq : Option Addr} {cq : Nat} {o : Obj} (h : RightLoop w1 wr R G kd na nn nc op j aq cq) (hg : (wr.drew.alloc o).grownBy w5 (Value.slice aq j cq).ownBlock) : w5.heap[G]? = some (.cells #[.int .i64 kd, .slice na nn nc, .slice aq j cq, .bool op] 33 (0, 0)) := by
  have hs := h.size
  have l := h.lg
  have hd : Below wr.heap.size wr wr.drew := (Below.refl _ _).drew
  have hds := hd.size
  rw [hg.block G (by simp; omega) (fun e => by have := ownsRow_ge h.o G e.symm; omega), Below.heap_alloc _ _ _ (by omega)]
  exact (hd.block G (by omega)).trans h.g
theorem RightLoop.lo6 {w1 wr w5 : World} {R G : Nat} {kd : Int} {na : Option Addr} {nn nc : Nat} {op : Bool} {j : Nat} {aq : Option Addr} {cq : Nat} {o : Obj} (h : RightLoop w1 wr R G kd na nn nc op j aq cq) (hg : (wr.drew.alloc o).grownBy w5 (Value.slice aq j cq).ownBlock) {b : Nat} (hb : b < R) (hn : b ≠ G) : w5.heap[b]? = w1.heap[b]? := by
  have hs := h.size
  have hd : Below wr.heap.size wr wr.drew := (Below.refl _ _).drew
  have hds := hd.size
  rw [hg.block b (by simp; omega) (fun e => by have := ownsRow_ge h.o b e.symm; omega), Below.heap_alloc _ _ _ (by omega)]
  exact (hd.block b (by omega)).trans (h.keep b hb hn)
theorem RightLoop.step {w1 wr w5 : World} {R G : Nat} {kd : Int} {na : Option Addr} {nn nc : Nat} {op : Bool} {j : Nat} {aq : Option Addr} {cq : Nat} {o : Obj} {a2 : Option Addr} {c2 : Nat} (h : RightLoop w1 wr R G kd na nn nc op j aq cq)
    (hown : w5.ownsRow R 3 1 (.slice a2 (j + 1) c2) (j + 1) (zerosTo j ++ [.int .i64 0])) (hg : (wr.drew.alloc o).grownBy w5 (Value.slice aq j cq).ownBlock) : RightLoop w1 (w5.setCell ⟨G, 2, none⟩ (.slice a2 (j + 1) c2)) R G kd na nn nc op (j + 1) a2 c2 := by
  have hs := h.size
  have hd : Below wr.heap.size wr wr.drew := (Below.refl _ _).drew
  have hds := hd.size
  have hlo : ∀ b, b < R → w5.heap[b]? = wr.heap[b]? := fun b hb => by
    rw [hg.block b (by simp; omega) (fun e => by have := ownsRow_ge h.o b e.symm; omega), Below.heap_alloc _ _ _ (by omega)]
    exact hd.block b (by omega)
  have hsz : wr.drew.heap.size + 1 ≤ w5.heap.size := by have := hg.size; simpa using this
  refine ⟨?_, ?_, fun b hb h1 => ?_, h.lg, by simp; omega, ?_, ?_, ?_⟩
  · rw [heap_setCell_same _ G 2 _ 33 _ ((hlo G h.lg).trans h.g)]
    rfl
  · rw [zerosTo_succ]
    exact ownsRow_setCell_below hown h.lg _
  · rw [Below.heap_setCell _ _ _ _ h1, hlo b hb]
    exact h.keep b hb h1
  · exact hg.os.trans (hd.os.trans h.os)
  · exact hg.tape.trans (hd.tape.trans h.tape)
  · exact hg.output.trans (hd.output.trans h.output)
theorem RightLoop.below {w1 w w0 : World} {R G : Nat} {kd : Int} {na : Option Addr} {nn nc : Nat} {op : Bool} {j : Nat} {aq : Option Addr} {cq : Nat} (h : RightLoop w1 w R G kd na nn nc op j aq cq) {n : Nat} (hb : Below n w0 w1) (h7 : n ≤ G) (hr : w1.heap.size ≤ R) : Below n w0 w := by
  have hs := h.size
  have l7 := h.lg
  have hb2 := hb.size
  exact ⟨h.os.trans hb.os, h.tape.trans hb.tape, h.output.trans hb.output, by omega, fun i hi => (h.keep i (by omega) (by omega)).trans (hb.block i hi)⟩
theorem RightLoop.kids {w1 w : World} {R G : Nat} {kd : Int} {na : Option Addr} {nn nc : Nat} {op : Bool} {j : Nat} {aq : Option Addr} {cq : Nat} (h : RightLoop w1 w R G kd na nn nc op j aq cq) : IntsAt w aq j (List.replicate j 0) := by
  refine ⟨by simp, ?_⟩
  rcases h.o.2 with ⟨_, hz⟩ | ⟨gq, cap2, cur2, e', hb', hg', -⟩
  · exact Or.inl hz
  · right
    have ea : aq = some ⟨gq, 0, none⟩ := by injection e'
    subst ea
    refine ⟨gq, 0, rfl, (Array.getElem?_eq_some_iff.1 hg').1, fun i k hi => ?_⟩
    have hl := (List.getElem?_eq_some_iff.1 hi).1
    simp only [List.length_replicate] at hl
    rw [h.o.cellAt (0 + i) (by omega), Nat.zero_add]
    rw [List.getElem?_replicate, if_pos hl] at hi
    cases hi
    unfold zerosTo
    rw [List.getElem?_replicate, if_pos hl]
/-- may a head be, with kids that are parts? -/
def rightB (kd : Int) (op : Bool) (n : Nat) (NS : List ByteArray) (KS : List Int) : Bool := KS.all (fun k => decide (0 ≤ k) && decide (k < (n : Int))) && headB kd op 1 NS (List.replicate KS.length 0)
set_option maxRecDepth 20000 in
set_option maxHeartbeats 4000000 in
theorem right_any (w : World) (A base : Nat) (la : Option Addr) (ln lc : Nat) (most : Int) (ps : List Value) (kd : Int) (na : Option Addr) (nn nc : Nat) (NS : List ByteArray) (ka : Option Addr) (kn kc : Nat) (KS : List Int) (op : Bool) (hA : ArenaAt w A base la ln lc most ps) (hN : NamesAt w na nn NS) (hK : IntsAt w ka kn KS) (hn : nn ≤ 100000) (hk : kn ≤ 1000) (hz : ∀ s ∈ NS, s.size ≤ 100000) (hln : (ln : Int) ≤ 9000000000000000) :
    Calls Tryz.prog 90 #[.pointer (some ⟨A, 0, none⟩), .agg #[.int .i64 kd, .slice na nn nc, .slice ka kn kc, .bool op]] w (BoolPost w (rightB kd op ln NS KS)) := by
  have HA0 := Lib.hid hA
  have HN0 := Lib.hid hN
  have HK0 := Lib.hid hK
  have HZ := Lib.hid hz
  have HL := Lib.hid (show A < w.heap.size from Nat.lt_of_lt_of_le hA.lt hA.le)
  have HB1 : Hid (Below w.heap.size w (((w.alloc (.cells #[.int .i64 kd, .slice na nn nc, .slice ka kn kc, .bool op] 33)).alloc (.cells #[.int .i64 kd, .slice na nn nc, .slice none 0 0, .bool op] 33)).alloc (.cells #[.slice (some ⟨w.heap.size + 1, 0, none⟩) 1 1, .int .i64 0] 36))) := Lib.hid ((((Below.refl _ _).alloc (Nat.le_refl _) _).alloc (by simp) _).alloc (by simp <;> omega) _)
  have HX1 : Hid ((((w.alloc (.cells #[.int .i64 kd, .slice na nn nc, .slice ka kn kc, .bool op] 33)).alloc (.cells #[.int .i64 kd, .slice na nn nc, .slice none 0 0, .bool op] 33)).alloc (.cells #[.slice (some ⟨w.heap.size + 1, 0, none⟩) 1 1, .int .i64 0] 36)).heap[w.heap.size]? = some (.cells #[.int .i64 kd, .slice na nn nc, .slice ka kn kc, .bool op] 33 (0, 0))) := Lib.hid (by rw [Below.heap_alloc _ _ _ (by simp <;> omega), Below.heap_alloc _ _ _ (by simp)]; exact heap_alloc_new w _)
  have HG1 : Hid ((((w.alloc (.cells #[.int .i64 kd, .slice na nn nc, .slice ka kn kc, .bool op] 33)).alloc (.cells #[.int .i64 kd, .slice na nn nc, .slice none 0 0, .bool op] 33)).alloc (.cells #[.slice (some ⟨w.heap.size + 1, 0, none⟩) 1 1, .int .i64 0] 36)).heap[w.heap.size + 1]? = some (.cells #[.int .i64 kd, .slice na nn nc, .slice none 0 0, .bool op] 33 (0, 0))) := Lib.hid (by
    rw [Below.heap_alloc _ _ _ (by simp)]
    have := heap_alloc_new (w.alloc (.cells #[.int .i64 kd, .slice na nn nc, .slice ka kn kc, .bool op] 33)) (.cells #[.int .i64 kd, .slice na nn nc, .slice none 0 0, .bool op] 33)
    simpa using this)
  have HT1 : Hid ((((w.alloc (.cells #[.int .i64 kd, .slice na nn nc, .slice ka kn kc, .bool op] 33)).alloc (.cells #[.int .i64 kd, .slice na nn nc, .slice none 0 0, .bool op] 33)).alloc (.cells #[.slice (some ⟨w.heap.size + 1, 0, none⟩) 1 1, .int .i64 0] 36)).heap[w.heap.size + 1 + 1]? = some (.cells #[.slice (some ⟨w.heap.size + 1, 0, none⟩) 1 1, .int .i64 0] 36 (0, 0))) := Lib.hid (by
    have := heap_alloc_new ((w.alloc (.cells #[.int .i64 kd, .slice na nn nc, .slice ka kn kc, .bool op] 33)).alloc (.cells #[.int .i64 kd, .slice na nn nc, .slice none 0 0, .bool op] 33)) (.cells #[.slice (some ⟨w.heap.size + 1, 0, none⟩) 1 1, .int .i64 0] 36)
    simpa using this)
  have HS1 : Hid ((((w.alloc (.cells #[.int .i64 kd, .slice na nn nc, .slice ka kn kc, .bool op] 33)).alloc (.cells #[.int .i64 kd, .slice na nn nc, .slice none 0 0, .bool op] 33)).alloc (.cells #[.slice (some ⟨w.heap.size + 1, 0, none⟩) 1 1, .int .i64 0] 36)).heap.size = w.heap.size + 3) := Lib.hid (by simp)
  have HKL := Lib.hid hK.1
  clear hA hN hK hz
  go_enter Tryz.func90, Tryz.ntmps90
  have a0 : (w.alloc (.cells #[.int .i64 kd, .slice na nn nc, .slice ka kn kc, .bool op] 33)).cell? ⟨w.heap.size, 0, none⟩ = some (.int .i64 kd) := (by rw [cell_of_row _ _ 0 _ 33 _ (heap_alloc_new w _)]; rfl)
  have a1 : (w.alloc (.cells #[.int .i64 kd, .slice na nn nc, .slice ka kn kc, .bool op] 33)).cell? ⟨w.heap.size, 1, none⟩ = some (.slice na nn nc) := (by rw [cell_of_row _ _ 1 _ 33 _ (heap_alloc_new w _)]; rfl)
  have a3 : (w.alloc (.cells #[.int .i64 kd, .slice na nn nc, .slice ka kn kc, .bool op] 33)).cell? ⟨w.heap.size, 3, none⟩ = some (.bool op) := (by rw [cell_of_row _ _ 3 _ 33 _ (heap_alloc_new w _)]; rfl)
  go_upto_region 2 with (fail)
  clear a0 a1 a3
  generalize (((w.alloc (.cells #[.int .i64 kd, .slice na nn nc, .slice ka kn kc, .bool op] 33)).alloc (.cells #[.int .i64 kd, .slice na nn nc, .slice none 0 0, .bool op] 33)).alloc (.cells #[.slice (some ⟨w.heap.size + 1, 0, none⟩) 1 1, .int .i64 0] 36)) = w1 at *
  have b2 : w1.cell? ⟨w.heap.size, 2, none⟩ = some (.slice ka kn kc) := (by rw [cell_of_row _ _ 2 _ 33 _ HX1.out]; rfl)
  have hki : (kn : Int) ≤ 1000 := by omega
  go_wp2
  clear b2
  have HL0 : Hid (RightLoop w1 w1 w1.heap.size (w.heap.size + 1) kd na nn nc op 0 none 0) := Lib.hid ⟨HG1.out, World.ownsRow_nil _ _ _ _, fun _ _ _ => rfl, by have := HS1.out; omega, Nat.le_refl _, rfl, rfl, rfl⟩
  obtain ⟨i3, hi3, hz30, hz31, hz32⟩ := info_parts Tryz.info3
  have HI3 := Lib.hid hi3
  have HI30 := Lib.hid hz30
  have HI31 := Lib.hid hz31
  have HI32 := Lib.hid hz32
  clear hi3 hz30 hz31 hz32
  go_loopw [20] (fun s20 wr => ∃ (j : Nat) (aq : Option Addr) (cq : Nat), s20 = .int .i64 (j : Int) ∧ j ≤ kn ∧ Hid (RightLoop w1 wr w1.heap.size (w.heap.size + 1) kd na nn nc op j aq cq) ∧ Hid (∀ i k, i < j → KS[i]? = some k → 0 ≤ k ∧ k < (ln : Int))) (fun s20 _ => kn - (intOf s20).toNat)
  case atStart => exact ⟨0, none, 0, rfl, Nat.zero_le _, HL0, Lib.hid (fun i k h => by omega)⟩
  case round =>
    obtain ⟨j, aq, cq, rfl, hj, HLP, HA⟩ := hrel
    have HBR : Hid (Below w.heap.size w wr) := Lib.hid (HLP.out.below HB1.out (by omega) (Nat.le_refl _))
    have HSR : Hid (w1.heap.size ≤ wr.heap.size) := Lib.hid HLP.out.size
    have hwj : IntKind.i64.wrap ((j : Int) + 1) = (j : Int) + 1 := by rw [IntKind.wrap_i64]; omega
    have HJ := Lib.hid hj
    by_cases hjk : j < kn
    · have hjk2 : (j : Int) < kn := by omega
      obtain ⟨x, hx⟩ : ∃ x, KS[j]? = some x := ⟨_, List.getElem?_eq_getElem (by rw [← HKL.out]; exact hjk)⟩
      obtain ⟨gk, ok, rfl, hgk, hck⟩ := (HK0.out.on HBR.out).2.resolve_left (by omega)
      have ac := hck j x hx
      have HXX := Lib.hid hx
      have d0 : wr.cell? ⟨A, 0, none⟩ = some (.slice la ln lc) := (by rw [cell_of_row _ _ 0 _ 84 _ ((HBR.out.block A HL.out).trans HA0.out.box)]; rfl)
      clear hx hck hgk
      by_cases h0 : 0 ≤ x ∧ x < (ln : Int)
      · obtain ⟨h1, h2⟩ := h0
        have h3 : ¬ x < 0 := by omega
        have h4 : ¬ (ln : Int) ≤ x := by omega
        have t0 : wr.cell? ⟨w.heap.size + 1 + 1, 0, none⟩ = some (.slice (some ⟨w.heap.size + 1, 0, none⟩) 1 1) := (by rw [cell_of_row _ _ 0 _ 36 _ ((HLP.out.keep _ (by have := HS1.out; omega) (by omega)).trans HT1.out)]; rfl)
        have g2 : wr.cell? ⟨w.heap.size + 1, 2, none⟩ = some (.slice aq j cq) := (by rw [cell_of_row _ _ 2 _ 33 _ HLP.out.g]; rfl)
        have t02 : (wr.alloc (.cells #[.int .i64 0] 3)).cell? ⟨w.heap.size + 1 + 1, 0, none⟩ = some (.slice (some ⟨w.heap.size + 1, 0, none⟩) 1 1) := (by rw [cell_of_row _ _ 0 _ 36 _ ((Below.heap_alloc _ _ _ (by have := HSR.out; have := HS1.out; omega)).trans ((HLP.out.keep _ (by have := HS1.out; omega) (by omega)).trans HT1.out))]; rfl)
        have g22 : (wr.alloc (.cells #[.int .i64 0] 3)).cell? ⟨w.heap.size + 1, 2, none⟩ = some (.slice aq j cq) := (by rw [cell_of_row _ _ 2 _ 33 _ ((Below.heap_alloc _ _ _ (by have := HSR.out; have := HS1.out; omega)).trans HLP.out.g)]; rfl)
        go_upto_region 7 with (fail)
        clear d0 ac
        go_region_law
          (first
            | (refine step_append_lies (wr.drew.alloc (.cells #[.int .i64 0] 3)) rfl _ _ 31 rfl w1.heap.size 3 i3 (.int .i64 0) 1 8 Tryz.underlying31 HI3.out HI30.out HI31.out HI32.out rfl (by decide) (.slice aq j cq) j (zerosTo j) rfl ((ownsRow_mono HLP.out.o (fun g hg => ((Below.refl _ _).drew).block g (HLP.out.o.lt g hg).2)).alloc _) ⟨wr.heap.size, 0, none⟩ 1 1 [.int .i64 0] rfl rfl (news_of (heap_alloc_new wr.drew _)) (by simp [Value.oneCell']) (by decide) (by unfold maxLen; omega) (by omega) (by have := HSR.out; have h5 : Below wr.heap.size wr wr.drew := (Below.refl _ _).drew; have := h5.size; simp; omega) _ rfl ?_; intro g5 c5 w5 hown hgr hat hlt; have hG5 := HLP.out.lo5 hgr; have m5 : w5.cell? ⟨w.heap.size + 1, 2, none⟩ = some (.slice aq j cq) := (by rw [cell_of_row _ _ 2 _ 33 _ hG5]; rfl); have f5 : w5.frozen? ⟨w.heap.size + 1, 2, none⟩ = false := frozen_of_row _ _ 2 _ 33 hG5; have m0 : w5.cell? ⟨w.heap.size + 1 + 1, 0, none⟩ = some (.slice (some ⟨w.heap.size + 1, 0, none⟩) 1 1) := (by rw [cell_of_row _ _ 0 _ 36 _ ((HLP.out.lo6 hgr (by have := HS1.out; omega) (by omega)).trans HT1.out)]; rfl))
            | fail)
        all_goals
          have HLQ := Lib.hid (HLP.out.step hown hgr)
          clear hown hgr hat hlt m5 f5 hG5 m0
          go_wp2
          go_roundw
          case rel => exact ⟨j + 1, _, _, by go_num, by omega, HLQ, Lib.hid (fun i k hi hk' => by
            by_cases he : i = j
            · subst he
              have := hk'.symm.trans HXX.out
              cases this
              exact ⟨h1, h2⟩
            · exact HA.out i k (by omega) hk')⟩
          case measure => simp [intOf]; omega
      · have hf : rightB kd op ln NS KS = false := by
          unfold rightB
          have : (KS.all fun k => decide (0 ≤ k) && decide (k < (ln : Int))) = false := List.all_eq_false.2 ⟨x, List.mem_of_getElem? HXX.out, by simp; omega⟩
          rw [this]
          simp
        have HF := Lib.hid hf
        clear hf
        rcases (by omega : x < 0 ∨ (0 ≤ x ∧ (ln : Int) ≤ x)) with h1 | ⟨h1, h2⟩
        · clear h0
          go_wp2
          go_ret
          exact ⟨by rw [HF.out]; rfl, HBR.out⟩
        · clear h0
          have h3 : ¬ x < 0 := by omega
          go_wp2
          go_ret
          exact ⟨by rw [HF.out]; rfl, HBR.out⟩
    · have hjk2 : ¬ (j : Int) < kn := by omega
      obtain rfl : kn = j := by omega
      have hall : (KS.all fun k => decide (0 ≤ k) && decide (k < (ln : Int))) = true := List.all_eq_true.2 (fun x hx => by
        obtain ⟨i, hi⟩ := List.getElem?_of_mem hx
        have := HA.out i x (by rw [HKL.out]; exact (List.getElem?_eq_some_iff.1 hi).1) hi
        simp [this.1, this.2])
      have hin : HeadsIn wr (some ⟨w.heap.size + 1, 0, none⟩) 1 [⟨kd, na, nn, nc, NS, aq, kn, cq, List.replicate kn 0, op⟩] := ⟨rfl, Or.inr ⟨w.heap.size + 1, 0, rfl, by have := HSR.out; have := HS1.out; omega, fun i h hi => by
        cases i with
        | zero =>
          cases hi
          exact ⟨by rw [cell_of_row _ _ _ _ 33 _ HLP.out.g]; rfl, by rw [cell_of_row _ _ _ _ 33 _ HLP.out.g]; rfl, by rw [cell_of_row _ _ _ _ 33 _ HLP.out.g]; rfl, by rw [cell_of_row _ _ _ _ 33 _ HLP.out.g]; rfl, ⟨HN0.out.on HBR.out, HLP.out.kids, hn, hk, HZ.out⟩⟩
        | succ i => simp at hi⟩⟩
      have hck := check_any wr _ 1 1 0 _ hin (by decide)
      have hg : graphB 0 [⟨kd, na, nn, nc, NS, aq, kn, cq, List.replicate kn 0, op⟩] = rightB kd op ln NS KS := by
        unfold graphB rightB
        rw [hall, ← HKL.out]
        simp
      rw [hg] at hck
      have HCK := Lib.hid hck
      have t0 : wr.cell? ⟨w.heap.size + 1 + 1, 0, none⟩ = some (.slice (some ⟨w.heap.size + 1, 0, none⟩) 1 1) := (by rw [cell_of_row _ _ 0 _ 36 _ ((HLP.out.keep _ (by have := HS1.out; omega) (by omega)).trans HT1.out)]; rfl)
      have t1 : wr.cell? ⟨w.heap.size + 1 + 1, 1, none⟩ = some (.int .i64 0) := (by rw [cell_of_row _ _ 1 _ 36 _ ((HLP.out.keep _ (by have := HS1.out; omega) (by omega)).trans HT1.out)]; rfl)
      clear hck hg hin hall
      generalize rightB kd op ln NS KS = tb at *
      cases tb with
      | false =>
        go_wp2_with (go_at_call 38; (with_reducible refine HCK.out.mono ?_); rintro e w12 ⟨rfl, hb12⟩; simp only [errB])
        go_ret
        exact ⟨rfl, HBR.out.trans (hb12.mono HBR.out.size)⟩
      | true =>
        go_wp2_with (go_at_call 38; (with_reducible refine HCK.out.mono ?_); rintro e w12 ⟨rfl, hb12⟩; simp only [errB])
        go_ret
        exact ⟨rfl, HBR.out.trans (hb12.mono HBR.out.size)⟩
end Go.Proofs.YtifilhkkgkihpaaGreatDoor
set_option linter.unusedSimpArgs false
set_option linter.unusedVariables false
namespace Go.Proofs.YtifilhkkgkihpaaGreatDoor
open Go.RowKit
theorem Tryz.info96 : (Tryz.prog.info? 96).map (fun i => (i.zero, i.size, i.bytes)) = some (some (.agg #[.int .i64 0, .slice none 0 0, .slice none 0 0, .bool false, .bool false, .int .i64 0, .slice none 0 0, .slice none 0 0, .map none]), 9, 136) := by kernel_rfl
/-- what an act on the arena at A leaves alone. -/
structure Acts (w w' : World) (A : Nat) (own : Option Nat) : Prop where
  os : w'.os = w.os
  tape : w'.tape = w.tape
  output : w'.output = w.output
  size : w.heap.size ≤ w'.heap.size
  block : ∀ b, b < w.heap.size → b ≠ A → own ≠ some b → w'.heap[b]? = w.heap[b]?
theorem ArenaAt.acts {w w2 w5 : World} {A base : Nat} {la : Option Addr} {ln lc : Nat} {most : Int} {ps ns : List Value} {wb : World} {a2 : Option Addr} {c2 : Nat} (h : ArenaAt w2 A base la ln lc most ps) (hal : Below w2.heap.size w2 wb) (hb : Below w.heap.size w w2) (hle : base ≤ w.heap.size)
    (hown : w5.ownsRow base 96 9 (.slice a2 (ln + 1) c2) (ln + 1) (ps ++ ns)) (hg : wb.grownBy w5 (Value.slice la ln lc).ownBlock) : ArenaAt (w5.setCell ⟨A, 0, none⟩ (.slice a2 (ln + 1) c2)) A base a2 (ln + 1) c2 most (ps ++ ns) ∧ Acts w (w5.setCell ⟨A, 0, none⟩ (.slice a2 (ln + 1) c2)) A (Value.slice la ln lc).ownBlock := by
  have hs := h.le
  have hl := h.lt
  have hbs := hb.size
  have hlo : ∀ b, b < w2.heap.size → (Value.slice la ln lc).ownBlock ≠ some b → w5.heap[b]? = w2.heap[b]? := fun b hb' e => by
    rw [hg.block b (by have := hal.size; omega) (fun e' => e e'.symm)]
    exact hal.block b hb'
  have hA5 : w5.heap[A]? = some (.cells #[.slice la ln lc, .int .i64 most] 84 (0, 0)) := (hlo A (by omega) (fun e => by have := ownsRow_ge h.own A e; omega)).trans h.box
  have hsz : w2.heap.size ≤ w5.heap.size := Nat.le_trans hal.size hg.size
  refine ⟨⟨?_, ownsRow_setCell_below hown h.lt _, hl, by simp; omega⟩, ⟨?_, ?_, ?_, by simp; omega, fun b hb1 h1 h2 => ?_⟩⟩
  · rw [heap_setCell_same _ A 0 _ 84 _ hA5]
    rfl
  · exact hg.os.trans (hal.os.trans hb.os)
  · exact hg.tape.trans (hal.tape.trans hb.tape)
  · exact hg.output.trans (hal.output.trans hb.output)
  · rw [Below.heap_setCell _ _ _ _ h1, hlo b (by omega) h2]
    exact hb.block b hb1
theorem ArenaAt.box5 {w2 w5 : World} {A base : Nat} {la : Option Addr} {ln lc : Nat} {most : Int} {ps : List Value} {o o2 : Obj} (h : ArenaAt w2 A base la ln lc most ps) (hg : ((w2.alloc o).alloc o2).grownBy w5 (Value.slice la ln lc).ownBlock) : w5.heap[A]? = some (.cells #[.slice la ln lc, .int .i64 most] 84 (0, 0)) := by
  have hs := h.le
  have hl := h.lt
  rw [hg.block A (by simp; omega) (fun e => by have := ownsRow_ge h.own A e.symm; omega), Below.heap_alloc _ _ _ (by simp; omega), Below.heap_alloc _ _ _ (by omega)]
  exact h.box
theorem news_two (w : World) (o : Obj) (cs : Array Value) (t : TypeId) : ∀ (j : Nat) (u : Value), cs.toList[j]? = some u → ((w.alloc o).alloc (.cells cs t)).cell? ((⟨w.heap.size + 1, 0, none⟩ : Addr).add j) = some u := news_of (by have := heap_alloc_new (w.alloc o) (.cells cs t); simpa using this)
set_option maxRecDepth 20000 in
set_option maxHeartbeats 4000000 in
theorem var_ok (w : World) (A base : Nat) (la : Option Addr) (ln lc : Nat) (most lv : Int) (ps : List Value) (hA : ArenaAt w A base la ln lc most ps) (hlv : 0 ≤ lv) (hm : (ln : Int) + 1 ≤ most) (hmm : most ≤ 1048576) :
    Calls Tryz.prog 57 #[.pointer (some ⟨A, 0, none⟩), .int .i64 lv] w fun e w' => ∃ la' lc' M, e = .returned (.tuple #[.int .i64 (ln : Int), .int .i64 0]) ∧ ArenaAt w' A base la' (ln + 1) lc' most (ps ++ [.int .i64 0, .slice none 0 0, .slice none 0 0, .bool false, .bool true, .int .i64 lv, .slice none 0 0, .slice none 0 0, .map (some M)]) ∧ w'.heap[M]? = some (.map #[] 0) ∧ w.heap.size ≤ M ∧ Acts w w' A (Value.slice la ln lc).ownBlock := by
  have HA := Lib.hid hA
  have HLE0 : Hid (base ≤ w.heap.size) := Lib.hid hA.le
  have h3 : ¬ lv < 0 := by omega
  have hln : (ln : Int) + 1 ≤ 1048576 := by omega
  have HR := Lib.hid (room_any w A la ln lc most 1 hA.box (by simp only [maxLen]; omega) (by omega))
  rw [if_neg (show ¬ most < (ln : Int) + 1 by omega)] at HR
  obtain ⟨i0, hi, hz0, hz1, hz2⟩ := info_parts Tryz.info96
  have HI := Lib.hid hi
  have HI0 := Lib.hid hz0
  have HI1 := Lib.hid hz1
  have HI2 := Lib.hid hz2
  have hw1 : IntKind.i64.wrap ((ln : Int) + 1 - 1) = (ln : Int) := by rw [IntKind.wrap_i64]; omega
  clear hA hi hz0 hz1 hz2
  go_enter Tryz.func57, Tryz.ntmps57
  go_upto_region 6 with (go_at_call 89; (with_reducible refine HR.out.mono ?_); rintro e w2 ⟨rfl, hb2⟩)
  have HB2 := Lib.hid hb2
  have HA2 := Lib.hid (HA.out.on hb2)
  clear hb2
  have a0 : w2.cell? ⟨A, 0, none⟩ = some (.slice la ln lc) := (by rw [cell_of_row _ _ 0 _ 84 _ HA2.out.box]; rfl)
  have HONE : Hid (∀ m : Nat, ∀ u ∈ ([.int .i64 0, .slice none 0 0, .slice none 0 0, .bool false, .bool true, .int .i64 lv, .slice none 0 0, .slice none 0 0, .map (some m)] : List Value), u.oneCell' = true) := Lib.hid (by intro m u hu; simp only [List.mem_cons, List.not_mem_nil, or_false] at hu; rcases hu with rfl | rfl | rfl | rfl | rfl | rfl | rfl | rfl | rfl <;> rfl)
  have HLE : Hid (base ≤ ((w2.alloc (.map #[] 0)).alloc (.cells #[.int .i64 0, .slice none 0 0, .slice none 0 0, .bool false, .bool true, .int .i64 lv, .slice none 0 0, .slice none 0 0, .map (some w2.heap.size)] 96)).heap.size) := Lib.hid (by have := HA2.out.le; simp only [World.size_alloc]; omega)
  have hmk : (Instr.makeMap 94 none).run Tryz.prog w2 = .ok (.map (some w2.heap.size)) (w2.alloc (.map #[] 0)) := run_makeMap _ _
  go_upto_region 7 with (first | (refine wpList_buildTo rfl 96 _ rfl (some 25) rfl #[.int .i64 0, .slice none 0 0, .slice none 0 0, .bool false, .bool true, .int .i64 lv, .slice none 0 0, .slice none 0 0, .map (some w2.heap.size)] (by first | kernel_rfl | rfl) ?_) | (at_builtin; refine wpList_append_own _ rfl _ _ 82 rfl base 96 i0 (.agg #[.int .i64 0, .slice none 0 0, .slice none 0 0, .bool false, .bool false, .int .i64 0, .slice none 0 0, .slice none 0 0, .map none]) 9 136 Tryz.underlying82 HI.out HI0.out HI1.out HI2.out rfl (by decide) _ ln _ rfl ((HA2.out.own.alloc _).alloc _) ⟨w2.heap.size + 1, 0, none⟩ 1 1 [.int .i64 0, .slice none 0 0, .slice none 0 0, .bool false, .bool true, .int .i64 lv, .slice none 0 0, .slice none 0 0, .map (some w2.heap.size)] rfl rfl (news_two _ _ _ _) (HONE.out _) (by unfold maxLen; omega) (by omega) HLE.out ?_; intro v' w5 hown hgr hnil; obtain ⟨a2, c2, rfl⟩ := own_slice hown; have hA5 := HA2.out.box5 hgr; have a5 : w5.cell? ⟨A, 0, none⟩ = some (.slice la ln lc) := (by rw [cell_of_row _ _ 0 _ 84 _ hA5]; rfl); have f5 : w5.frozen? ⟨A, 0, none⟩ = false := frozen_of_row _ _ 0 _ 84 hA5; clear hnil hA5; have HOW := Lib.hid hown; have HGR := Lib.hid hgr; clear hown hgr))
  have hfin := HA2.out.acts (wb := (w2.alloc (.map #[] 0)).alloc (.cells #[.int .i64 0, .slice none 0 0, .slice none 0 0, .bool false, .bool true, .int .i64 lv, .slice none 0 0, .slice none 0 0, .map (some w2.heap.size)] 96)) (((Below.refl _ _).alloc (Nat.le_refl _) _).alloc (by simp) _) HB2.out HLE0.out HOW.out HGR.out
  have hM : (w5.setCell ⟨A, 0, none⟩ (.slice a2 (ln + 1) c2)).heap[w2.heap.size]? = some (.map #[] 0) := by
    have hl := HA2.out.lt
    have hs := HA2.out.le
    rw [Below.heap_setCell _ _ _ _ (by simp; omega), HGR.out.block _ (by simp; omega) (fun e => by have := (HA2.out.own.lt _ e.symm).2; omega), Below.heap_alloc _ _ _ (by simp)]
    exact heap_alloc_new w2 _
  have HFIN := Lib.hid hfin
  have HM := Lib.hid hM
  have HSZ : Hid (w.heap.size ≤ w2.heap.size) := Lib.hid HB2.out.size
  clear hfin hM HGR HOW a5 f5 a0 hmk
  generalize (w5.setCell ⟨A, 0, none⟩ (.slice a2 (ln + 1) c2)) = w6 at *
  have a6 : w6.cell? ⟨A, 0, none⟩ = some (.slice a2 (ln + 1) c2) := (by rw [cell_of_row _ _ 0 _ 84 _ HFIN.out.1.box]; rfl)
  go_wp2
  go_ret2
  exact ⟨a2, c2, _, by simp [IntKind.wrap_i64] <;> omega, HFIN.out.1, HM.out, HSZ.out, HFIN.out.2⟩
end Go.Proofs.YtifilhkkgkihpaaGreatDoor
