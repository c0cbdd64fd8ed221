/- Walks: graph.Check. -/
import Derived.Test.YtoakfninndkgaaaGreatDoorNk
set_option linter.unusedVariables false
namespace Go.Proofs.YtoakfninndkgaaaGreatDoor
open Go.RowKit
/-- a head as it lies. -/
structure Hd where
  kd : Int
  na : Option Addr
  nn : Nat
  nc : Nat
  NS : List ByteArray
  ka : Option Addr
  kn : Nat
  kc : Nat
  KS : List Int
  op : Bool
structure HdOk (w : World) (h : Hd) : Prop where
  names : NamesAt w h.na h.nn h.NS
  kids : IntsAt w h.ka h.kn h.KS
  nnb : h.nn ≤ 100000
  knb : h.kn ≤ 1000
  small : ∀ s ∈ h.NS, s.size ≤ 100000
structure HdIn (w : World) (b off i : Nat) (h : Hd) : Prop where
  c0 : w.cell? ⟨b, off + i * 4, none⟩ = some (.int .i64 h.kd)
  c1 : w.cell? ⟨b, off + i * 4 + 1, none⟩ = some (.slice h.na h.nn h.nc)
  c2 : w.cell? ⟨b, off + i * 4 + 2, none⟩ = some (.slice h.ka h.kn h.kc)
  c3 : w.cell? ⟨b, off + i * 4 + 3, none⟩ = some (.bool h.op)
  ok : HdOk w h
def HeadsIn (w : World) (la : Option Addr) (ln : Nat) (HS : List Hd) : Prop := ln = HS.length ∧ (ln = 0 ∨ ∃ g o, la = some ⟨g, o, none⟩ ∧ g < w.heap.size ∧ ∀ i h, HS[i]? = some h → HdIn w g o i h)
theorem HdOk.on {w w' : World} {h : Hd} (k : HdOk w h) (hb : Below w.heap.size w w') : HdOk w' h := ⟨k.names.on hb, k.kids.on hb, k.nnb, k.knb, k.small⟩
def graphB (root : Int) (HS : List Hd) : Bool := (decide (HS.length ≠ 0) && decide (HS.length ≤ 4096) && decide (0 ≤ root) && decide (root < (HS.length : Int))) && HS.all (fun h => headB h.kd h.op HS.length h.NS h.KS)
set_option maxRecDepth 20000 in
set_option maxHeartbeats 4000000 in
theorem check_bad (w : World) (la : Option Addr) (ln lc : Nat) (root : Int) (HS : List Hd) (hH : ln = HS.length) (hln : (ln : Int) ≤ maxLen) (hbad : ln = 0 ∨ (0 < ln ∧ 4096 < ln) ∨ ((0 < ln ∧ ln ≤ 4096) ∧ (root < 0 ∨ (0 ≤ root ∧ (ln : Int) ≤ root)))) :
    Calls Tryz.prog 50 #[.agg #[.slice la ln lc, .int .i64 root]] w (ErrPost w (graphB root HS)) := by
  have hf : graphB root HS = false := by
    unfold graphB
    rw [← hH]
    rcases hbad with h | ⟨_, h⟩ | ⟨⟨h0, h1⟩, h | ⟨h2, h⟩⟩
    · simp [h]
    · rw [show decide (ln ≤ 4096) = false from by simp; omega]; simp
    · rw [show decide (0 ≤ root) = false from by simp; omega]; simp
    · rw [show decide (root < (ln : Int)) = false from by simp; omega]; simp
  have HF := Lib.hid hf
  have hb0 : Below w.heap.size w (w.alloc (.cells #[.slice la ln lc, .int .i64 root] 24)) := (Below.refl _ _).alloc (Nat.le_refl _) _
  have HB := Lib.hid hb0
  clear hf hH hb0
  rcases hbad with rfl | ⟨h0, h1⟩ | ⟨⟨h0, h1⟩, h2 | ⟨h2, h3⟩⟩
  · go_enter Tryz.func50, Tryz.ntmps50
    go_wp2
    go_ret
    exact ⟨by rw [HF.out]; rfl, HB.out⟩
  · have hi : ¬ (ln : Int) = 0 := by omega
    have hi2 : (4096 : Int) < ln := by omega
    have hi3 : ((ln : Int) == 0) = false := by simpa using hi
    go_enter Tryz.func50, Tryz.ntmps50
    go_wp2
    go_ret
    exact ⟨by rw [HF.out]; rfl, HB.out⟩
  · have hi : ¬ (ln : Int) = 0 := by omega
    have hi2 : ¬ (4096 : Int) < ln := by omega
    have hi3 : ((ln : Int) == 0) = false := by simpa using hi
    go_enter Tryz.func50, Tryz.ntmps50
    go_wp2
    go_ret
    exact ⟨by rw [HF.out]; rfl, HB.out⟩
  · have hi : ¬ (ln : Int) = 0 := by omega
    have hi2 : ¬ (4096 : Int) < ln := by omega
    have hi3 : ((ln : Int) == 0) = false := by simpa using hi
    have hi4 : ¬ root < 0 := by omega
    go_enter Tryz.func50, Tryz.ntmps50
    go_wp2
    go_ret
    exact ⟨by rw [HF.out]; rfl, HB.out⟩
set_option maxRecDepth 20000 in
set_option maxHeartbeats 4000000 in
theorem check_any (w : World) (la : Option Addr) (ln lc : Nat) (root : Int) (HS : List Hd) (hH : HeadsIn w la ln HS) (hln : (ln : Int) ≤ maxLen) :
    Calls Tryz.prog 50 #[.agg #[.slice la ln lc, .int .i64 root]] w (ErrPost w (graphB root HS)) := by
  by_cases hbad : ln = 0 ∨ (0 < ln ∧ 4096 < ln) ∨ ((0 < ln ∧ ln ≤ 4096) ∧ (root < 0 ∨ (0 ≤ root ∧ (ln : Int) ≤ root)))
  · exact check_bad w la ln lc root HS hH.1 hln hbad
  have h0 : ¬ (ln : Int) = 0 := by omega
  have h1 : ¬ (4096 : Int) < ln := by omega
  have h2 : ¬ root < 0 := by omega
  have h3 : ¬ (ln : Int) ≤ root := by omega
  have h4 : ((ln : Int) == 0) = false := by simpa using h0
  have hf : graphB root HS = HS.all (fun h => headB h.kd h.op HS.length h.NS h.KS) := by
    unfold graphB
    rw [← hH.1, show (decide (ln ≠ 0) && decide (ln ≤ 4096) && decide (0 ≤ root) && decide (root < (ln : Int))) = true from by simp; omega]
    simp
  obtain ⟨g, o, rfl, hg, hc⟩ := hH.2.resolve_left (by omega)
  have HC := Lib.hid hc
  have HG := Lib.hid hg
  have HL := Lib.hid hH.1
  have HF := Lib.hid hf
  have hxb : (w.alloc (.cells #[.slice (some ⟨g, o, none⟩) ln lc, .int .i64 root] 24)).heap[w.heap.size]? = some (.cells #[.slice (some ⟨g, o, none⟩) ln lc, .int .i64 root] 24 (0, 0)) := heap_alloc_new w _
  have HXB := Lib.hid hxb
  have HBA : Hid (Below w.heap.size w (w.alloc (.cells #[.slice (some ⟨g, o, none⟩) ln lc, .int .i64 root] 24))) := Lib.hid ((Below.refl _ _).alloc (Nat.le_refl _) _)
  clear hbad hf hc hg hH hxb
  go_enter Tryz.func50, Tryz.ntmps50
  go_upto_region 1 with (fail)
  generalize (w.alloc (.cells #[.slice (some ⟨g, o, none⟩) ln lc, .int .i64 root] 24)) = w1 at *
  have a0 : w1.cell? ⟨w.heap.size, 0, none⟩ = some (.slice (some ⟨g, o, none⟩) ln lc) := (by rw [cell_of_row _ _ 0 _ 24 _ HXB.out]; rfl)
  have a1 : w1.cell? ⟨w.heap.size, 1, none⟩ = some (.int .i64 root) := (by rw [cell_of_row _ _ 1 _ 24 _ HXB.out]; rfl)
  go_wp2
  clear a0 a1
  have HXL : Hid (w.heap.size < w1.heap.size) := Lib.hid (Array.getElem?_eq_some_iff.1 HXB.out).1
  go_loopw [31] (fun s31 wr => ∃ j : Nat, s31 = .int .i64 (j : Int) ∧ j ≤ ln ∧ Hid (Below w1.heap.size w1 wr) ∧ Hid (∀ i h, i < j → HS[i]? = some h → headB h.kd h.op HS.length h.NS h.KS = true)) (fun s31 _ => ln - (intOf s31).toNat)
  case atStart => exact ⟨0, rfl, Nat.zero_le _, Lib.hid (Below.refl _ _), Lib.hid (fun i h hi => by omega)⟩
  case round =>
    obtain ⟨j, rfl, hj, HBR, HA⟩ := hrel
    have HJ := Lib.hid hj
    have hwj : IntKind.i64.wrap ((j : Int) + 1) = (j : Int) + 1 := by rw [IntKind.wrap_i64]; simp only [maxLen] at hln; omega
    by_cases hjk : j < ln
    · have hjk2 : (j : Int) < ln := by omega
      obtain ⟨h, hh⟩ : ∃ h, HS[j]? = some h := ⟨_, List.getElem?_eq_getElem (by rw [← HL.out]; exact hjk)⟩
      have HH := Lib.hid hh
      have hin := HC.out j h hh
      have HIN := Lib.hid hin
      have hbr : Below w.heap.size w wr := HBA.out.trans (HBR.out.mono HBA.out.size)
      have HBW := Lib.hid hbr
      have b0 : wr.cell? ⟨g, o + j * 4, none⟩ = some (.int .i64 h.kd) := (by rw [← hin.c0]; exact hbr.cell (p := ⟨g, o + j * 4, none⟩) HG.out)
      have b1 : wr.cell? ⟨g, o + j * 4 + 1, none⟩ = some (.slice h.na h.nn h.nc) := (by rw [← hin.c1]; exact hbr.cell (p := ⟨g, o + j * 4 + 1, none⟩) HG.out)
      have b2 : wr.cell? ⟨g, o + j * 4 + 2, none⟩ = some (.slice h.ka h.kn h.kc) := (by rw [← hin.c2]; exact hbr.cell (p := ⟨g, o + j * 4 + 2, none⟩) HG.out)
      have b3 : wr.cell? ⟨g, o + j * 4 + 3, none⟩ = some (.bool h.op) := (by rw [← hin.c3]; exact hbr.cell (p := ⟨g, o + j * 4 + 3, none⟩) HG.out)
      clear hin hbr hh
      have hy : (wr.alloc (.cells #[.int .i64 h.kd, .slice h.na h.nn h.nc, .slice h.ka h.kn h.kc, .bool h.op] 38)).heap[wr.heap.size]? = some (.cells #[.int .i64 h.kd, .slice h.na h.nn h.nc, .slice h.ka h.kn h.kc, .bool h.op] 38 (0, 0)) := heap_alloc_new wr _
      have HY := Lib.hid hy
      have HBY : Hid (Below w1.heap.size w1 (wr.alloc (.cells #[.int .i64 h.kd, .slice h.na h.nn h.nc, .slice h.ka h.kn h.kc, .bool h.op] 38))) := Lib.hid (HBR.out.alloc HBR.out.size _)
      clear hy
      go_upto_region 6 with (fail)
      clear b0 b1 b2 b3
      generalize (wr.alloc (.cells #[.int .i64 h.kd, .slice h.na h.nn h.nc, .slice h.ka h.kn h.kc, .bool h.op] 38)) = w2 at *
      have a0 : w2.cell? ⟨w.heap.size, 0, none⟩ = some (.slice (some ⟨g, o, none⟩) ln lc) := (by rw [cell_of_row _ _ 0 _ 24 _ ((HBY.out.block _ HXL.out).trans HXB.out)]; rfl)
      have b0 : w2.cell? ⟨wr.heap.size, 0, none⟩ = some (.int .i64 h.kd) := (by rw [cell_of_row _ _ 0 _ 38 _ HY.out]; rfl)
      have b1 : w2.cell? ⟨wr.heap.size, 1, none⟩ = some (.slice h.na h.nn h.nc) := (by rw [cell_of_row _ _ 1 _ 38 _ HY.out]; rfl)
      have b2 : w2.cell? ⟨wr.heap.size, 2, none⟩ = some (.slice h.ka h.kn h.kc) := (by rw [cell_of_row _ _ 2 _ 38 _ HY.out]; rfl)
      have b3 : w2.cell? ⟨wr.heap.size, 3, none⟩ = some (.bool h.op) := (by rw [cell_of_row _ _ 3 _ 38 _ HY.out]; rfl)
      have HBZ : Hid (Below w.heap.size w w2) := Lib.hid (HBA.out.trans (HBY.out.mono HBA.out.size))
      have HK := Lib.hid (head_any w2 h.kd h.na h.nn h.nc h.NS h.ka h.kn h.kc h.KS h.op (ln : Int) (HIN.out.ok.on HBZ.out).names (HIN.out.ok.on HBZ.out).kids HIN.out.ok.nnb HIN.out.ok.knb HIN.out.ok.small)
      have HHB : Hid (headB h.kd h.op (ln : Int) h.NS h.KS = headB h.kd h.op HS.length h.NS h.KS) := Lib.hid (by rw [HL.out])
      generalize headB h.kd h.op (ln : Int) h.NS h.KS = tb at *
      cases tb with
      | false =>
        have hf : graphB root HS = false := by
          rw [HF.out]
          exact List.all_eq_false.2 ⟨h, List.mem_of_getElem? HH.out, by rw [← HHB.out]; simp⟩
        have HFF := Lib.hid hf
        clear hf
        go_wp2_with (go_at_call 59; (with_reducible refine HK.out.mono ?_); rintro e w5 ⟨rfl, hb5⟩)
        go_ret
        exact ⟨by rw [HFF.out]; rfl, HBZ.out.trans (hb5.mono HBZ.out.size)⟩
      | true =>
        go_wp2_with (go_at_call 59; (with_reducible refine HK.out.mono ?_); rintro e w5 ⟨rfl, hb5⟩)
        go_roundw
        case rel => exact ⟨j + 1, by go_num, by omega, Lib.hid (HBY.out.trans (hb5.mono HBY.out.size)), Lib.hid (fun i h' hi hh' => by
          by_cases he : i = j
          · subst he
            have := hh'.symm.trans HH.out
            cases this
            exact HHB.out.symm
          · exact HA.out i h' (by omega) hh')⟩
        case measure => simp [intOf]; omega
    · have hjk2 : ¬ (j : Int) < ln := by omega
      obtain rfl : ln = j := by omega
      have hf : graphB root HS = true := by
        rw [HF.out]
        exact List.all_eq_true.2 (fun h hm => by
          obtain ⟨i, hi⟩ := List.getElem?_of_mem hm
          exact HA.out i h (by rw [HL.out]; exact (List.getElem?_eq_some_iff.1 hi).1) hi)
      have HFF := Lib.hid hf
      clear hf
      go_wp2
      go_ret
      exact ⟨by rw [HFF.out]; rfl, HBA.out.trans (HBR.out.mono HBA.out.size)⟩
end Go.Proofs.YtoakfninndkgaaaGreatDoor
