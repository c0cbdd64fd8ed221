/- Walks: ref08.Right. Plain and walks: the worlds of ArenaGraphs; arena.Len. Walks: the example of chapter 12. -/
import Derived.Test.YtoakfninndkgaaaGreatDoorGa03
import Derived.Test.YtoakfninndkgaaaGreatDoorGa19
import Derived.Test.YtoakfninndkgaaaGreatDoorGa15
set_option linter.unusedSimpArgs false
set_option linter.unusedVariables false
set_option linter.unusedVariables false
namespace Go.Proofs.YtoakfninndkgaaaGreatDoor
open Go.RowKit
def nmOk (c8 c9 : Bool) (a : ByteArray) : Prop := (c8 = true → nameL a.data.toList = true) ∧ (c9 = true → tagL a.data.toList = true)
theorem typ_many {kd : Int} {op : Bool} {nn kn : Nat} {NS : List ByteArray} (h0 : 0 < nn) (h : nn < kn) : typB kd op nn kn NS = false := by
  have e1 : decide (nn = 0) = false := by simp; omega
  have e2 : decide (nn = kn) = false := by simp; omega
  unfold typB
  rw [e1, e2]
  simp
theorem head_kid {h : Hd} {n : Int} {p : Nat} {k : Int} (hk : h.KS[p]? = some k) (hb : k < 0 ∨ n ≤ k) : headB h.kd h.op n h.NS h.KS = false := by
  have : h.KS.all (fun k => decide (0 ≤ k) && decide (k < n)) = false := List.all_eq_false.2 ⟨k, List.mem_of_getElem? hk, by simp; omega⟩
  unfold headB
  rw [this]
  simp
theorem head_many {h : Hd} {n : Int} (h0 : 0 < h.NS.length) (hb : h.NS.length < h.KS.length) : headB h.kd h.op n h.NS h.KS = false := by
  unfold headB
  rw [typ_many h0 hb]
  simp
theorem head_rise {h : Hd} {n : Int} (hb : risesB h.NS = false) : headB h.kd h.op n h.NS h.KS = false := by
  unfold headB
  rw [hb]
  simp
theorem head_typ {h : Hd} {n : Int} (hb : typB h.kd h.op h.NS.length h.KS.length h.NS = false) : headB h.kd h.op n h.NS h.KS = false := by
  unfold headB
  rw [hb]
  simp
theorem typ_name {op : Bool} {nn kn : Nat} {NS : List ByteArray} {s : ByteArray} (hs : s ∈ NS) (hb : nameL s.data.toList = false) : typB 8 op nn kn NS = false := by
  have : (NS.all fun s => nameL s.data.toList) = false := List.all_eq_false.2 ⟨s, hs, by simp [hb]⟩
  unfold typB
  rw [this]
  simp
theorem typ_tag {op : Bool} {nn kn : Nat} {NS : List ByteArray} {s : ByteArray} (hs : s ∈ NS) (hb : tagL s.data.toList = false) : typB 9 op nn kn NS = false := by
  have : (NS.all fun s => tagL s.data.toList) = false := List.all_eq_false.2 ⟨s, hs, by simp [hb]⟩
  unfold typB
  rw [this]
  simp
theorem head_yes {h : Hd} {n : Int} (h10 : h.kd ≠ 10) (hr : risesB h.NS = true) (hk : ∀ (p : Nat) k, h.KS[p]? = some k → 0 ≤ k ∧ k < n) (ht : typB h.kd h.op h.NS.length h.KS.length h.NS = true) : headB h.kd h.op n h.NS h.KS = true := by
  have : h.KS.all (fun k => decide (0 ≤ k) && decide (k < n)) = true := List.all_eq_true.2 (fun k hk' => by
    obtain ⟨p, hp⟩ := List.getElem?_of_mem hk'
    have := hk p k hp
    simp; omega)
  unfold headB
  rw [hr, this, ht]
  simp [h10]
theorem all_names {NS : List ByteArray} {f : List UInt8 → Bool} (h : ∀ (p : Nat) a, NS[p]? = some a → f a.data.toList = true) : (NS.all fun s => f s.data.toList) = true := List.all_eq_true.2 (fun s hs => by
  obtain ⟨p, hp⟩ := List.getElem?_of_mem hs
  exact h p s hp)
set_option maxRecDepth 20000 in
set_option maxHeartbeats 4000000 in
theorem right_bad (w : World) (la : Option Addr) (ln lc : Nat) (root : Int) (HS : List Hd) (hH : ln = HS.length) (hln : (ln : Int) ≤ 100000) (hbad : ln = 0 ∨ (0 < ln ∧ 4096 < ln) ∨ ((0 < ln ∧ ln ≤ 4096) ∧ (root < 0 ∨ (0 ≤ root ∧ (ln : Int) ≤ root)))) :
    Calls Tryz.prog 9 #[.agg #[.slice la ln lc, .int .i64 root]] w (BoolPost w (graphB root HS)) := by
  have hf : graphB root HS = false := by
    unfold graphB
    rw [← hH]
    rcases hbad with h | ⟨_, h⟩ | ⟨⟨h0, h1⟩, h | ⟨h2, h⟩⟩
    · simp [h]
    · rw [show decide (ln ≤ 4096) = false from by simp; omega]; simp
    · rw [show decide (0 ≤ root) = false from by simp; omega]; simp
    · rw [show decide (root < (ln : Int)) = false from by simp; omega]; simp
  have HF := Lib.hid hf
  have hb0 : Below w.heap.size w (w.alloc (.cells #[.slice la ln lc, .int .i64 root] 24)) := (Below.refl _ _).alloc (Nat.le_refl _) _
  have HB := Lib.hid hb0
  clear hf hH hb0
  rcases hbad with rfl | ⟨h0, h1⟩ | ⟨⟨h0, h1⟩, h2 | ⟨h2, h3⟩⟩
  · go_enter Tryz.func9, Tryz.ntmps9
    go_wp2
    go_ret
    exact ⟨by rw [HF.out]; rfl, HB.out⟩
  · have hi : ¬ (ln : Int) = 0 := by omega
    have hi2 : (4096 : Int) < ln := by omega
    have hi3 : ((ln : Int) == 0) = false := by simpa using hi
    go_enter Tryz.func9, Tryz.ntmps9
    go_wp2
    go_ret
    exact ⟨by rw [HF.out]; rfl, HB.out⟩
  · have hi : ¬ (ln : Int) = 0 := by omega
    have hi2 : ¬ (4096 : Int) < ln := by omega
    have hi3 : ((ln : Int) == 0) = false := by simpa using hi
    go_enter Tryz.func9, Tryz.ntmps9
    go_wp2
    go_ret
    exact ⟨by rw [HF.out]; rfl, HB.out⟩
  · have hi : ¬ (ln : Int) = 0 := by omega
    have hi2 : ¬ (4096 : Int) < ln := by omega
    have hi3 : ((ln : Int) == 0) = false := by simpa using hi
    have hi4 : ¬ root < 0 := by omega
    go_enter Tryz.func9, Tryz.ntmps9
    go_wp2
    go_ret
    exact ⟨by rw [HF.out]; rfl, HB.out⟩
set_option maxRecDepth 20000 in
set_option maxHeartbeats 8000000 in
theorem right_h (w : World) (la : Option Addr) (ln lc : Nat) (root : Int) (HS : List Hd) (hH : HeadsIn w la ln HS) (hln : (ln : Int) ≤ 100000) :
    Calls Tryz.prog 9 #[.agg #[.slice la ln lc, .int .i64 root]] w (BoolPost w (graphB root HS)) := by
  by_cases hbad : ln = 0 ∨ (0 < ln ∧ 4096 < ln) ∨ ((0 < ln ∧ ln ≤ 4096) ∧ (root < 0 ∨ (0 ≤ root ∧ (ln : Int) ≤ root)))
  · exact right_bad w la ln lc root HS hH.1 hln hbad
  have h0 : ¬ (ln : Int) = 0 := by omega
  have h1 : ¬ (4096 : Int) < ln := by omega
  have h2 : ¬ root < 0 := by omega
  have h3 : ¬ (ln : Int) ≤ root := by omega
  have h4 : ((ln : Int) == 0) = false := by simpa using h0
  have hf : graphB root HS = HS.all (fun h => headB h.kd h.op HS.length h.NS h.KS) := by
    unfold graphB
    rw [← hH.1, show (decide (ln ≠ 0) && decide (ln ≤ 4096) && decide (0 ≤ root) && decide (root < (ln : Int))) = true from by simp; omega]
    simp
  obtain ⟨g, o, rfl, hg, hc⟩ := hH.2.resolve_left (by omega)
  have HC := Lib.hid hc
  have HG := Lib.hid hg
  have HL := Lib.hid hH.1
  have HF := Lib.hid hf
  have hxb : (w.alloc (.cells #[.slice (some ⟨g, o, none⟩) ln lc, .int .i64 root] 24)).heap[w.heap.size]? = some (.cells #[.slice (some ⟨g, o, none⟩) ln lc, .int .i64 root] 24 (0, 0)) := heap_alloc_new w _
  have HXB := Lib.hid hxb
  have HBA : Hid (Below w.heap.size w (w.alloc (.cells #[.slice (some ⟨g, o, none⟩) ln lc, .int .i64 root] 24))) := Lib.hid ((Below.refl _ _).alloc (Nat.le_refl _) _)
  clear hbad hf hc hg hH hxb
  go_enter Tryz.func9, Tryz.ntmps9
  go_upto_region 1 with (fail)
  generalize (w.alloc (.cells #[.slice (some ⟨g, o, none⟩) ln lc, .int .i64 root] 24)) = w1 at *
  have a0 : w1.cell? ⟨w.heap.size, 0, none⟩ = some (.slice (some ⟨g, o, none⟩) ln lc) := (by rw [cell_of_row _ _ 0 _ 24 _ HXB.out]; rfl)
  have a1 : w1.cell? ⟨w.heap.size, 1, none⟩ = some (.int .i64 root) := (by rw [cell_of_row _ _ 1 _ 24 _ HXB.out]; rfl)
  go_wp2
  clear a0 a1
  have HXL : Hid (w.heap.size < w1.heap.size) := Lib.hid (Array.getElem?_eq_some_iff.1 HXB.out).1
  go_loopw [36] (fun s36 wr => ∃ j : Nat, s36 = .int .i64 (j : Int) ∧ j ≤ ln ∧ Hid (Below w1.heap.size w1 wr) ∧ Hid (∀ i h, i < j → HS[i]? = some h → headB h.kd h.op HS.length h.NS h.KS = true)) (fun s36 _ => ln - (intOf s36).toNat)
  case atStart => exact ⟨0, rfl, Nat.zero_le _, Lib.hid (Below.refl _ _), Lib.hid (fun i h hi => by omega)⟩
  case round =>
    obtain ⟨j, rfl, hj, HBR, HA⟩ := hrel
    obtain ⟨wq, rfl⟩ : ∃ wq : World, wq = wr := ⟨_, rfl⟩
    have HJ := Lib.hid hj
    have hwj : IntKind.i64.wrap ((j : Int) + 1) = (j : Int) + 1 := by rw [IntKind.wrap_i64]; omega
    by_cases hjk : j < ln
    · have hjk2 : (j : Int) < ln := by omega
      obtain ⟨h, hh⟩ : ∃ h, HS[j]? = some h := ⟨_, List.getElem?_eq_getElem (by rw [← HL.out]; exact hjk)⟩
      have HH := Lib.hid hh
      have hin := HC.out j h hh
      have HIN := Lib.hid hin
      have hbr : Below w.heap.size w wq := HBA.out.trans (HBR.out.mono HBA.out.size)
      have HBW := Lib.hid hbr
      have b0 : wq.cell? ⟨g, o + j * 4, none⟩ = some (.int .i64 h.kd) := (by rw [← hin.c0]; exact hbr.cell (p := ⟨g, o + j * 4, none⟩) HG.out)
      have b1 : wq.cell? ⟨g, o + j * 4 + 1, none⟩ = some (.slice h.na h.nn h.nc) := (by rw [← hin.c1]; exact hbr.cell (p := ⟨g, o + j * 4 + 1, none⟩) HG.out)
      have b2 : wq.cell? ⟨g, o + j * 4 + 2, none⟩ = some (.slice h.ka h.kn h.kc) := (by rw [← hin.c2]; exact hbr.cell (p := ⟨g, o + j * 4 + 2, none⟩) HG.out)
      have b3 : wq.cell? ⟨g, o + j * 4 + 3, none⟩ = some (.bool h.op) := (by rw [← hin.c3]; exact hbr.cell (p := ⟨g, o + j * 4 + 3, none⟩) HG.out)
      clear hin hbr hh
      have hy : (wq.alloc (.cells #[.int .i64 h.kd, .slice h.na h.nn h.nc, .slice h.ka h.kn h.kc, .bool h.op] 38)).heap[wq.heap.size]? = some (.cells #[.int .i64 h.kd, .slice h.na h.nn h.nc, .slice h.ka h.kn h.kc, .bool h.op] 38 (0, 0)) := heap_alloc_new wq _
      have HY := Lib.hid hy
      have HBY : Hid (Below w1.heap.size w1 (wq.alloc (.cells #[.int .i64 h.kd, .slice h.na h.nn h.nc, .slice h.ka h.kn h.kc, .bool h.op] 38))) := Lib.hid (HBR.out.alloc HBR.out.size _)
      clear hy
      go_upto_region 6 with (fail)
      clear b0 b1 b2 b3
      generalize (wq.alloc (.cells #[.int .i64 h.kd, .slice h.na h.nn h.nc, .slice h.ka h.kn h.kc, .bool h.op] 38)) = w2 at *
      have a0 : w2.cell? ⟨w.heap.size, 0, none⟩ = some (.slice (some ⟨g, o, none⟩) ln lc) := (by rw [cell_of_row _ _ 0 _ 24 _ ((HBY.out.block _ HXL.out).trans HXB.out)]; rfl)
      have b0 : w2.cell? ⟨wq.heap.size, 0, none⟩ = some (.int .i64 h.kd) := (by rw [cell_of_row _ _ 0 _ 38 _ HY.out]; rfl)
      have b1 : w2.cell? ⟨wq.heap.size, 1, none⟩ = some (.slice h.na h.nn h.nc) := (by rw [cell_of_row _ _ 1 _ 38 _ HY.out]; rfl)
      have b2 : w2.cell? ⟨wq.heap.size, 2, none⟩ = some (.slice h.ka h.kn h.kc) := (by rw [cell_of_row _ _ 2 _ 38 _ HY.out]; rfl)
      have b3 : w2.cell? ⟨wq.heap.size, 3, none⟩ = some (.bool h.op) := (by rw [cell_of_row _ _ 3 _ 38 _ HY.out]; rfl)
      have HYL : Hid (wq.heap.size < w2.heap.size) := Lib.hid (Array.getElem?_eq_some_iff.1 HY.out).1
      have HBZ : Hid (Below w.heap.size w w2) := Lib.hid (HBA.out.trans (HBY.out.mono HBA.out.size))
      have HFALSE : Hid (headB h.kd h.op HS.length h.NS h.KS = false → graphB root HS = false) := Lib.hid (fun e => by
        rw [HF.out]
        exact List.all_eq_false.2 ⟨h, List.mem_of_getElem? HH.out, by rw [e]; simp⟩)
      have HNM := Lib.hid (HIN.out.ok.on HBZ.out).names
      have HKD := Lib.hid (HIN.out.ok.on HBZ.out).kids
      have HNL := Lib.hid HIN.out.ok.names.1
      have HKL := Lib.hid HIN.out.ok.kids.1
      have hnb : (h.nn : Int) ≤ 100000 := (by have := HIN.out.ok.nnb; omega)
      have hkb : (h.kn : Int) ≤ 1000 := (by have := HIN.out.ok.knb; omega)
      go_wp2
      go_loop [43] (fun s43 => ∃ i : Nat, s43 = .int .i64 (i : Int) ∧ i ≤ h.kn ∧ Hid (∀ p k, p < i → h.KS[p]? = some k → (0 ≤ k ∧ k < (HS.length : Int))) ∧ Hid (h.nn = 0 ∨ i ≤ h.nn)) (fun s43 => h.kn - (intOf s43).toNat)
      case atStart => exact ⟨0, rfl, Nat.zero_le _, Lib.hid (fun p k hp => by omega), Lib.hid (Or.inr (Nat.zero_le _))⟩
      case round =>
        obtain ⟨i, rfl, hi, HKA, HKN⟩ := hrel
        have hwi : IntKind.i64.wrap ((i : Int) + 1) = (i : Int) + 1 := by rw [IntKind.wrap_i64]; omega
        by_cases hik : i < h.kn
        · have hik2 : (i : Int) < h.kn := by omega
          obtain ⟨k, hk⟩ : ∃ k, h.KS[i]? = some k := ⟨_, List.getElem?_eq_getElem (by rw [← HKL.out]; exact hik)⟩
          obtain ⟨gk, ok, ek, hgk, hck⟩ := HKD.out.2.resolve_left (by omega)
          have ck := hck i k hk
          have HKK := Lib.hid hk
          clear hk hck hgk
          generalize h.ka = ka at *
          subst ek
          rcases (by omega : k < 0 ∨ (0 ≤ k ∧ (ln : Int) ≤ k) ∨ ((0 ≤ k ∧ k < ln) ∧ h.nn = 0) ∨ ((0 ≤ k ∧ k < ln) ∧ 0 < h.nn ∧ i < h.nn) ∨ ((0 ≤ k ∧ k < ln) ∧ 0 < h.nn ∧ h.nn ≤ i)) with k1 | ⟨k1, k2⟩ | ⟨⟨k1, k2⟩, k3⟩ | ⟨⟨k1, k2⟩, k3, k4⟩ | ⟨⟨k1, k2⟩, k3, k4⟩
          · have HFF := Lib.hid (HFALSE.out (head_kid HKK.out (Or.inl k1)))
            go_wp2
            go_ret
            exact ⟨by rw [HFF.out]; rfl, HBZ.out⟩
          · have k3 : ¬ k < 0 := by omega
            have HFF := Lib.hid (HFALSE.out (head_kid HKK.out (Or.inr (by rw [← HL.out]; exact k2))))
            go_wp2
            go_ret
            exact ⟨by rw [HFF.out]; rfl, HBZ.out⟩
          · have k5 : ¬ k < 0 := by omega
            have k6 : ¬ (ln : Int) ≤ k := by omega
            have k7 : ¬ (0 : Int) < h.nn := by omega
            have HK0 := Lib.hid k3
            clear k3
            go_wp2
            go_round
            case rel => exact ⟨i + 1, by go_num, by omega, Lib.hid (fun p k' hp hk' => by
              by_cases he : p = i
              · subst he
                have := hk'.symm.trans HKK.out
                cases this
                exact ⟨by omega, by rw [← HL.out]; omega⟩
              · exact HKA.out p k' (by omega) hk'), Lib.hid (Or.inl HK0.out)⟩
            case measure => simp [intOf]; omega
          · have k5 : ¬ k < 0 := by omega
            have k6 : ¬ (ln : Int) ≤ k := by omega
            have k7 : (0 : Int) < h.nn := by omega
            have k8 : ¬ (h.nn : Int) ≤ i := by omega
            have HK0 := Lib.hid k4
            go_wp2
            go_round
            case rel => exact ⟨i + 1, by go_num, by omega, Lib.hid (fun p k' hp hk' => by
              by_cases he : p = i
              · subst he
                have := hk'.symm.trans HKK.out
                cases this
                exact ⟨by omega, by rw [← HL.out]; omega⟩
              · exact HKA.out p k' (by omega) hk'), Lib.hid (Or.inr HK0.out)⟩
            case measure => simp [intOf]; omega
          · have k5 : ¬ k < 0 := by omega
            have k6 : ¬ (ln : Int) ≤ k := by omega
            have k7 : (0 : Int) < h.nn := by omega
            have k8 : (h.nn : Int) ≤ i := by omega
            have HFF := Lib.hid (HFALSE.out (head_many (by rw [← HNL.out]; exact k3) (by rw [← HNL.out, ← HKL.out]; omega)))
            go_wp2
            go_ret
            exact ⟨by rw [HFF.out]; rfl, HBZ.out⟩
        · have hik2 : ¬ (i : Int) < h.kn := by omega
          have HKALL : Hid (∀ p k, h.KS[p]? = some k → (0 ≤ k ∧ k < (HS.length : Int))) := Lib.hid (fun p k hp => HKA.out p k (by
            have := (List.getElem?_eq_some_iff.1 hp).1
            rw [← HKL.out] at this
            omega) hp)
          go_wp2
          have HE8 : Hid (∃ c : Bool, (h.kd == 8) = c) := Lib.hid ⟨_, rfl⟩
          have HE9 : Hid (∃ c : Bool, (h.kd == 9) = c) := Lib.hid ⟨_, rfl⟩
          obtain ⟨c8, hc8⟩ := HE8.out
          obtain ⟨c9, hc9⟩ := HE9.out
          have HC8 := Lib.hid hc8
          have HC9 := Lib.hid hc9
          clear hc8 hc9
          go_loopw [74] (fun s74 wr => ∃ i : Nat, s74 = .int .i64 (i : Int) ∧ i ≤ h.nn ∧ Hid (Below w2.heap.size w2 wr) ∧ Hid (∀ p a b, p + 1 < i → h.NS[p]? = some a → h.NS[p + 1]? = some b → bl a b = true) ∧ Hid (∀ p a, p < i → h.NS[p]? = some a → nmOk c8 c9 a)) (fun s74 _ => h.nn - (intOf s74).toNat)
          case atStart => exact ⟨0, rfl, Nat.zero_le _, Lib.hid (Below.refl _ _), Lib.hid (fun p a b hp => by omega), Lib.hid (fun p a hp => by omega)⟩
          case round =>
            obtain ⟨m, rfl, hm, HBM, HRI, HNO⟩ := hrel
            have hwm : IntKind.i64.wrap ((m : Int) + 1) = (m : Int) + 1 := by rw [IntKind.wrap_i64]; omega
            have HYM := Lib.hid ((HBM.out.block _ HYL.out).trans HY.out)
            have b0' : wr.cell? ⟨wq.heap.size, 0, none⟩ = some (.int .i64 h.kd) := (by rw [cell_of_row _ _ 0 _ 38 _ HYM.out]; rfl)
            have b1' : wr.cell? ⟨wq.heap.size, 1, none⟩ = some (.slice h.na h.nn h.nc) := (by rw [cell_of_row _ _ 1 _ 38 _ HYM.out]; rfl)
            have b2' : wr.cell? ⟨wq.heap.size, 2, none⟩ = some (.slice h.ka h.kn h.kc) := (by rw [cell_of_row _ _ 2 _ 38 _ HYM.out]; rfl)
            have b3' : wr.cell? ⟨wq.heap.size, 3, none⟩ = some (.bool h.op) := (by rw [cell_of_row _ _ 3 _ 38 _ HYM.out]; rfl)
            have HBQ : Hid (Below w.heap.size w wr) := Lib.hid (HBZ.out.trans (HBM.out.mono HBZ.out.size))
            have HB1Q : Hid (Below w1.heap.size w1 wr) := Lib.hid (HBY.out.trans (HBM.out.mono HBY.out.size))
            by_cases hmn : m < h.nn
            · have hmn2 : (m : Int) < h.nn := by omega
              obtain ⟨s, hs⟩ : ∃ s, h.NS[m]? = some s := ⟨_, List.getElem?_eq_getElem (by rw [← HNL.out]; exact hmn)⟩
              obtain ⟨gn, on, en, hgn, hcn⟩ := HNM.out.2.resolve_left (by omega)
              have cs : wr.cell? ⟨gn, on + m, none⟩ = some (.string s) := (by rw [← hcn m s hs]; exact HBM.out.cell (p := ⟨gn, on + m, none⟩) hgn)
              have HSM := Lib.hid (HIN.out.ok.small s (List.mem_of_getElem? hs))
              have HSS := Lib.hid hs
              have HCN := Lib.hid hcn
              have HGN := Lib.hid hgn
              clear hs hcn hgn
              generalize h.na = na at *
              subst en
              by_cases hm0 : m = 0
              · have hd0 : decide ((0 : Int) < (m : Int)) = false := by simp; omega
                have hd1 : ¬ (0 : Int) < (m : Int) := by omega
                have hd2 : decide (0 < m) = false := by simp; omega
                have HRN : Hid (∀ p a b, p + 1 < m + 1 → h.NS[p]? = some a → h.NS[p + 1]? = some b → bl a b = true) := Lib.hid (fun p a b hp => by omega)
                clear hm0
                go_wp2
                go_quiet (fail)
                have HNMS : Hid (∃ c : Bool, nameL s.data.toList = c) := Lib.hid ⟨_, rfl⟩
                have HTGS : Hid (∃ c : Bool, tagL s.data.toList = c) := Lib.hid ⟨_, rfl⟩
                obtain ⟨cn, hcn⟩ := HNMS.out
                obtain ⟨ct', hct⟩ := HTGS.out
                have HCNN := Lib.hid hcn
                have HCTT := Lib.hid hct
                clear hcn hct
                have e8 := HC8.out
                have e9 := HC9.out
                rcases (by cases c8 <;> cases c9 <;> simp : (c8 = true ∧ c9 = true) ∨ (c8 = true ∧ c9 = false) ∨ (c8 = false ∧ c9 = true) ∨ (c8 = false ∧ c9 = false)) with ⟨rfl, rfl⟩ | ⟨rfl, rfl⟩ | ⟨rfl, rfl⟩ | ⟨rfl, rfl⟩
                · exact absurd (show h.kd = 8 from (by simpa using e8)) (by have h99 : h.kd = 9 := (by simpa using e9); omega)
                · have HKD8 : Hid (h.kd = 8) := Lib.hid (by simpa using e8)
                  cases cn with
                  | true =>
                    go_wp2_with (go_at_call 33; ((with_reducible refine (rname_any _ HSM.out _).mono ?_); rintro e w' ⟨rfl, rfl⟩; rw [HCNN.out]))
                    go_roundw
                    case rel => exact ⟨m + 1, by go_num, by omega, Lib.hid (below_drewN HBM.out), HRN, Lib.hid (fun p a hp ha => by
                      by_cases he : p = m
                      · subst he
                        have := ha.symm.trans HSS.out
                        cases this
                        exact ⟨fun _ => HCNN.out, (fun hh => by cases hh)⟩
                      · exact HNO.out p a (by omega) ha)⟩
                    case measure => simp [intOf]; omega
                  | false =>
                    have HFF := Lib.hid (HFALSE.out (head_typ (by rw [HKD8.out]; exact typ_name (List.mem_of_getElem? HSS.out) HCNN.out)))
                    go_wp2_with (go_at_call 33; ((with_reducible refine (rname_any _ HSM.out _).mono ?_); rintro e w' ⟨rfl, rfl⟩; rw [HCNN.out]))
                    go_ret
                    exact ⟨by rw [HFF.out]; rfl, below_drewN HBQ.out⟩
                · have HKD9 : Hid (h.kd = 9) := Lib.hid (by simpa using e9)
                  cases ct' with
                  | true =>
                    go_wp2_with (go_at_call 34; ((with_reducible refine (rtag_any _ HSM.out _).mono ?_); rintro e w' ⟨rfl, rfl⟩; rw [HCTT.out]))
                    go_roundw
                    case rel => exact ⟨m + 1, by go_num, by omega, Lib.hid (below_drewN HBM.out), HRN, Lib.hid (fun p a hp ha => by
                      by_cases he : p = m
                      · subst he
                        have := ha.symm.trans HSS.out
                        cases this
                        exact ⟨(fun hh => by cases hh), fun _ => HCTT.out⟩
                      · exact HNO.out p a (by omega) ha)⟩
                    case measure => simp [intOf]; omega
                  | false =>
                    have HFF := Lib.hid (HFALSE.out (head_typ (by rw [HKD9.out]; exact typ_tag (List.mem_of_getElem? HSS.out) HCTT.out)))
                    go_wp2_with (go_at_call 34; ((with_reducible refine (rtag_any _ HSM.out _).mono ?_); rintro e w' ⟨rfl, rfl⟩; rw [HCTT.out]))
                    go_ret
                    exact ⟨by rw [HFF.out]; rfl, below_drewN HBQ.out⟩
                · go_wp2
                  go_roundw
                  case rel => exact ⟨m + 1, by go_num, by omega, Lib.hid (below_drewN HBM.out), HRN, Lib.hid (fun p a hp ha => by
                    by_cases he : p = m
                    · subst he
                      have := ha.symm.trans HSS.out
                      cases this
                      exact ⟨(fun hh => by cases hh), (fun hh => by cases hh)⟩
                    · exact HNO.out p a (by omega) ha)⟩
                  case measure => simp [intOf]; omega
              · obtain ⟨m', hm'⟩ : ∃ m', m = m' + 1 := ⟨m - 1, by omega⟩
                have hd0 : decide ((0 : Int) < (m : Int)) = true := by simp; omega
                have hd1 : (0 : Int) < (m : Int) := by omega
                have hd2 : decide (0 < m) = true := by simp; omega
                have hwm1 : IntKind.i64.wrap ((m : Int) - 1) = (m' : Int) := by rw [IntKind.wrap_i64]; omega
                have hwm2 : (m : Int) - 1 = (m' : Int) := by omega
                have hm'2 : (m' : Int) < h.nn := by omega
                obtain ⟨t, ht⟩ : ∃ t, h.NS[m']? = some t := ⟨_, List.getElem?_eq_getElem (by rw [← HNL.out]; omega)⟩
                have ct : wr.cell? ⟨gn, on + m', none⟩ = some (.string t) := (by rw [← HCN.out m' t ht]; exact HBM.out.cell (p := ⟨gn, on + m', none⟩) HGN.out)
                have HTT := Lib.hid ht
                have HMM := Lib.hid hm'
                clear ht hm' hm0
                cases hbl : bl t s with
                | false =>
                  have hb2 : Op.bytesLess t.toList s.toList = false := hbl
                  have HFF := Lib.hid (HFALSE.out (head_rise (rises_not h.NS m' t s HTT.out (by rw [← HMM.out]; exact HSS.out) hbl)))
                  clear hbl
                  go_wp2
                  go_quiet (fail)
                  go_wp2
                  go_ret
                  exact ⟨by rw [HFF.out]; rfl, below_drewN HBQ.out⟩
                | true =>
                  have hb2 : Op.bytesLess t.toList s.toList = true := hbl
                  have HRN : Hid (∀ p a b, p + 1 < m + 1 → h.NS[p]? = some a → h.NS[p + 1]? = some b → bl a b = true) := Lib.hid (fun p a b hp ha hb => by
                    by_cases he : p = m'
                    · subst he
                      have e1 := ha.symm.trans HTT.out
                      rw [← HMM.out] at hb
                      have e2 := hb.symm.trans HSS.out
                      cases e1; cases e2
                      exact hbl
                    · exact HRI.out p a b (by have := HMM.out; omega) ha hb)
                  clear hbl
                  go_wp2
                  go_quiet (fail)
                  have HNMS : Hid (∃ c : Bool, nameL s.data.toList = c) := Lib.hid ⟨_, rfl⟩
                  have HTGS : Hid (∃ c : Bool, tagL s.data.toList = c) := Lib.hid ⟨_, rfl⟩
                  obtain ⟨cn, hcn⟩ := HNMS.out
                  obtain ⟨ct', hct⟩ := HTGS.out
                  have HCNN := Lib.hid hcn
                  have HCTT := Lib.hid hct
                  clear hcn hct
                  have e8 := HC8.out
                  have e9 := HC9.out
                  rcases (by cases c8 <;> cases c9 <;> simp : (c8 = true ∧ c9 = true) ∨ (c8 = true ∧ c9 = false) ∨ (c8 = false ∧ c9 = true) ∨ (c8 = false ∧ c9 = false)) with ⟨rfl, rfl⟩ | ⟨rfl, rfl⟩ | ⟨rfl, rfl⟩ | ⟨rfl, rfl⟩
                  · exact absurd (show h.kd = 8 from (by simpa using e8)) (by have h99 : h.kd = 9 := (by simpa using e9); omega)
                  · have HKD8 : Hid (h.kd = 8) := Lib.hid (by simpa using e8)
                    cases cn with
                    | true =>
                      go_wp2_with (go_at_call 33; ((with_reducible refine (rname_any _ HSM.out _).mono ?_); rintro e w' ⟨rfl, rfl⟩; rw [HCNN.out]))
                      go_roundw
                      case rel => exact ⟨m + 1, by go_num, by omega, Lib.hid (below_drewN HBM.out), HRN, Lib.hid (fun p a hp ha => by
                        by_cases he : p = m
                        · subst he
                          have := ha.symm.trans HSS.out
                          cases this
                          exact ⟨fun _ => HCNN.out, (fun hh => by cases hh)⟩
                        · exact HNO.out p a (by omega) ha)⟩
                      case measure => simp [intOf]; omega
                    | false =>
                      have HFF := Lib.hid (HFALSE.out (head_typ (by rw [HKD8.out]; exact typ_name (List.mem_of_getElem? HSS.out) HCNN.out)))
                      go_wp2_with (go_at_call 33; ((with_reducible refine (rname_any _ HSM.out _).mono ?_); rintro e w' ⟨rfl, rfl⟩; rw [HCNN.out]))
                      go_ret
                      exact ⟨by rw [HFF.out]; rfl, below_drewN HBQ.out⟩
                  · have HKD9 : Hid (h.kd = 9) := Lib.hid (by simpa using e9)
                    cases ct' with
                    | true =>
                      go_wp2_with (go_at_call 34; ((with_reducible refine (rtag_any _ HSM.out _).mono ?_); rintro e w' ⟨rfl, rfl⟩; rw [HCTT.out]))
                      go_roundw
                      case rel => exact ⟨m + 1, by go_num, by omega, Lib.hid (below_drewN HBM.out), HRN, Lib.hid (fun p a hp ha => by
                        by_cases he : p = m
                        · subst he
                          have := ha.symm.trans HSS.out
                          cases this
                          exact ⟨(fun hh => by cases hh), fun _ => HCTT.out⟩
                        · exact HNO.out p a (by omega) ha)⟩
                      case measure => simp [intOf]; omega
                    | false =>
                      have HFF := Lib.hid (HFALSE.out (head_typ (by rw [HKD9.out]; exact typ_tag (List.mem_of_getElem? HSS.out) HCTT.out)))
                      go_wp2_with (go_at_call 34; ((with_reducible refine (rtag_any _ HSM.out _).mono ?_); rintro e w' ⟨rfl, rfl⟩; rw [HCTT.out]))
                      go_ret
                      exact ⟨by rw [HFF.out]; rfl, below_drewN HBQ.out⟩
                  · go_wp2
                    go_roundw
                    case rel => exact ⟨m + 1, by go_num, by omega, Lib.hid (below_drewN HBM.out), HRN, Lib.hid (fun p a hp ha => by
                      by_cases he : p = m
                      · subst he
                        have := ha.symm.trans HSS.out
                        cases this
                        exact ⟨(fun hh => by cases hh), (fun hh => by cases hh)⟩
                      · exact HNO.out p a (by omega) ha)⟩
                    case measure => simp [intOf]; omega
            · have hmn2 : ¬ (m : Int) < h.nn := by omega
              have hrs : risesB h.NS = true := rises_step h.NS (fun p a b ha hb => HRI.out p a b (by
                have := (List.getElem?_eq_some_iff.1 hb).1
                rw [← HNL.out] at this
                omega) ha hb)
              have HRS := Lib.hid hrs
              have hnall : ∀ (p : Nat) a, h.NS[p]? = some a → nmOk c8 c9 a := fun p a ha => HNO.out p a (by
                have := (List.getElem?_eq_some_iff.1 ha).1
                rw [← HNL.out] at this
                omega) ha
              have HNALL := Lib.hid hnall
              clear hrs hnall
              have HHY : Hid (typB h.kd h.op h.nn h.kn h.NS = true → h.kd ≠ 10 → headB h.kd h.op HS.length h.NS h.KS = true) := Lib.hid (fun ht h10 => head_yes h10 HRS.out HKALL.out (by rw [← HNL.out, ← HKL.out]; exact ht))
              have HHN : Hid (typB h.kd h.op h.nn h.kn h.NS = false → graphB root HS = false) := Lib.hid (fun ht => HFALSE.out (head_typ (by rw [← HNL.out, ← HKL.out]; exact ht)))
              have e8 := HC8.out
              have e9 := HC9.out
              rcases (by cases c8 <;> cases c9 <;> simp : (c8 = true ∧ c9 = true) ∨ (c8 = true ∧ c9 = false) ∨ (c8 = false ∧ c9 = true) ∨ (c8 = false ∧ c9 = false)) with ⟨rfl, rfl⟩ | ⟨rfl, rfl⟩ | ⟨rfl, rfl⟩ | ⟨rfl, rfl⟩
              · exact absurd (show h.kd = 8 from (by simpa using e8)) (by have h99 : h.kd = 9 := (by simpa using e9); omega)
              · have hkd : h.kd = 8 := by simpa using e8
                have e7 : (h.kd == 7) = false := by simp; omega
                have HAN : Hid ((h.NS.all fun s => nameL s.data.toList) = true) := Lib.hid (all_names (fun p a ha => (HNALL.out p a ha).1 rfl))
                have HKDD := Lib.hid hkd
                clear hkd
                by_cases hnk : h.nn = h.kn
                · have ek1 : ((h.kn : Int) == (h.nn : Int)) = true := by simp; omega
                  have ek2 : ((h.kn : Int) != (h.nn : Int)) = false := by simp; omega
                  have ek3 : ((h.nn : Int) != (h.nn : Int)) = false := by simp
                  have HNK := Lib.hid hnk
                  clear hnk
                  have hne9 : (h.kd != 9) = true := by rw [HKDD.out]; rfl
                  cases hop : h.op with
                  | false =>
                    have HYES := Lib.hid (HHY.out (by rw [HKDD.out, hop]; unfold typB; rw [HAN.out]; simp [HNK.out]) (by rw [HKDD.out]; decide))
                    have HOP := Lib.hid hop
                    rw [hop] at b3'
                    clear hop
                    go_wp2
                    go_quiet (fail)
                    go_wp2
                    go_roundw
                    case rel => exact ⟨j + 1, by go_num, by omega, Lib.hid (below_drewN HB1Q.out), Lib.hid (fun i' h' hi' hh' => by
                      by_cases he : i' = j
                      · subst he
                        have := hh'.symm.trans HH.out
                        cases this
                        exact HYES.out
                      · exact HA.out i' h' (by omega) hh')⟩
                    case measure => simp [intOf]; omega
                  | true =>
                    have HFF := Lib.hid (HHN.out (by rw [HKDD.out, hop]; rfl))
                    rw [hop] at b3'
                    clear hop
                    go_wp2
                    go_quiet (fail)
                    go_wp2
                    go_ret
                    exact ⟨by rw [HFF.out]; rfl, below_drewN HBQ.out⟩
                · have ek1 : ((h.kn : Int) == (h.nn : Int)) = false := by simp; omega
                  have ek2 : ((h.kn : Int) != (h.nn : Int)) = true := by simp; omega
                  have HFF := Lib.hid (HHN.out (by rw [HKDD.out]; unfold typB; rw [show decide (h.nn = h.kn) = false from by simp; exact hnk]; simp))
                  clear hnk
                  go_wp2
                  go_quiet (fail)
                  go_wp2
                  go_ret
                  exact ⟨by rw [HFF.out]; rfl, below_drewN HBQ.out⟩
              · have hkd : h.kd = 9 := by simpa using e9
                have e7 : (h.kd == 7) = false := by simp; omega
                have HAN : Hid ((h.NS.all fun s => tagL s.data.toList) = true) := Lib.hid (all_names (fun p a ha => (HNALL.out p a ha).2 rfl))
                have HKDD := Lib.hid hkd
                clear hkd
                by_cases hnk : h.nn = h.kn
                · have ek1 : ((h.kn : Int) == (h.nn : Int)) = true := by simp; omega
                  have ek2 : ((h.kn : Int) != (h.nn : Int)) = false := by simp; omega
                  have ek3 : ((h.nn : Int) != (h.nn : Int)) = false := by simp
                  have HNK := Lib.hid hnk
                  clear hnk
                  have HYES := Lib.hid (HHY.out (by rw [HKDD.out]; unfold typB; rw [HAN.out]; simp [HNK.out]) (by rw [HKDD.out]; decide))
                  have hne9 : (h.kd != 9) = false := by rw [HKDD.out]; rfl
                  cases hop : h.op
                  all_goals
                    rw [hop] at b3'
                    clear hop
                    go_wp2
                    go_quiet (fail)
                    go_wp2
                    go_roundw
                    case rel => exact ⟨j + 1, by go_num, by omega, Lib.hid (below_drewN HB1Q.out), Lib.hid (fun i' h' hi' hh' => by
                      by_cases he : i' = j
                      · subst he
                        have := hh'.symm.trans HH.out
                        cases this
                        exact HYES.out
                      · exact HA.out i' h' (by omega) hh')⟩
                    case measure => simp [intOf]; omega
                · have ek1 : ((h.kn : Int) == (h.nn : Int)) = false := by simp; omega
                  have ek2 : ((h.kn : Int) != (h.nn : Int)) = true := by simp; omega
                  have HFF := Lib.hid (HHN.out (by rw [HKDD.out]; unfold typB; rw [show decide (h.nn = h.kn) = false from by simp; exact hnk]; simp))
                  clear hnk
                  go_wp2
                  go_quiet (fail)
                  go_wp2
                  go_ret
                  exact ⟨by rw [HFF.out]; rfl, below_drewN HBQ.out⟩
              · have hk8 : h.kd ≠ 8 := by simpa using e8
                have hk9 : h.kd ≠ 9 := by simpa using e9
                have hne9 : (h.kd != 9) = true := by simpa using hk9
                by_cases hk7 : h.kd = 7
                · have e7 : (h.kd == 7) = true := by simp [hk7]
                  have HKDD := Lib.hid hk7
                  clear hk7 hk8 hk9
                  rcases (by omega : h.kn ≠ 2 ∨ (h.kn = 2 ∧ h.nn ≠ 0) ∨ (h.kn = 2 ∧ h.nn = 0)) with k1 | ⟨k1, k2⟩ | ⟨k1, k2⟩
                  · have ek : ((h.kn : Int) != 2) = true := by simp; omega
                    have ek' : ((h.kn : Int) == 2) = false := by simp; omega
                    have HFF := Lib.hid (HHN.out (by rw [HKDD.out]; unfold typB; rw [show decide (h.kn = 2) = false from by simp; exact k1]; simp))
                    clear k1
                    go_wp2
                    go_ret
                    exact ⟨by rw [HFF.out]; rfl, HBQ.out⟩
                  · have ek : ((h.kn : Int) != 2) = false := by simp; omega
                    have ek' : ((h.kn : Int) == 2) = true := by simp; omega
                    have en : ((h.nn : Int) != 0) = true := by simp; omega
                    have en' : ((h.nn : Int) == 0) = false := by simp; omega
                    have HFF := Lib.hid (HHN.out (by rw [HKDD.out]; unfold typB; rw [show decide (h.nn = 0) = false from by simp; exact k2]; simp))
                    clear k1 k2
                    go_wp2
                    go_ret
                    exact ⟨by rw [HFF.out]; rfl, HBQ.out⟩
                  · have ek : ((h.kn : Int) != 2) = false := by simp; omega
                    have ek' : ((h.kn : Int) == 2) = true := by simp; omega
                    have en : ((h.nn : Int) != 0) = false := by simp; omega
                    have en' : ((h.nn : Int) == 0) = true := by simp; omega
                    cases hop : h.op with
                    | false =>
                      have HYES := Lib.hid (HHY.out (by rw [HKDD.out, hop, k1, k2]; rfl) (by rw [HKDD.out]; decide))
                      rw [hop] at b3'
                      clear hop k1 k2
                      go_wp2
                      go_roundw
                      case rel => exact ⟨j + 1, by go_num, by omega, Lib.hid (HB1Q.out), Lib.hid (fun i' h' hi' hh' => by
                        by_cases he : i' = j
                        · subst he
                          have := hh'.symm.trans HH.out
                          cases this
                          exact HYES.out
                        · exact HA.out i' h' (by omega) hh')⟩
                      case measure => simp [intOf]; omega
                    | true =>
                      have HFF := Lib.hid (HHN.out (by rw [HKDD.out, hop]; rfl))
                      rw [hop] at b3'
                      clear hop k1 k2
                      go_wp2
                      go_ret
                      exact ⟨by rw [HFF.out]; rfl, HBQ.out⟩
                · have e7 : (h.kd == 7) = false := by simpa using hk7
                  by_cases hlo : h.kd < 0
                  · have HFF := Lib.hid (HHN.out (by unfold typB; rw [if_neg hk7, if_neg hk8, if_neg hk9, show decide (0 ≤ h.kd) = false from by simp; omega]; simp))
                    clear hk7 hk8 hk9
                    go_wp2
                    go_ret
                    exact ⟨by rw [HFF.out]; rfl, HBQ.out⟩
                  · by_cases hhi : 6 < h.kd
                    · have HFF := Lib.hid (HHN.out (by unfold typB; rw [if_neg hk7, if_neg hk8, if_neg hk9, show decide (h.kd ≤ 6) = false from by simp; omega]; simp))
                      clear hk7 hk8 hk9
                      go_wp2
                      go_ret
                      exact ⟨by rw [HFF.out]; rfl, HBQ.out⟩
                    · have HKT : Hid (typB h.kd h.op h.nn h.kn h.NS = if h.op = true then false else decide (h.nn = 0) && decide (h.kn = 0)) := Lib.hid (by
                        unfold typB
                        rw [if_neg hk7, if_neg hk8, if_neg hk9, show decide (0 ≤ h.kd) = true from by simp; omega, show decide (h.kd ≤ 6) = true from by simp; omega]
                        simp [hk9])
                      have HK10 : Hid (h.kd ≠ 10) := Lib.hid (by omega)
                      clear hk7 hk8 hk9
                      rcases (by omega : h.kn ≠ 0 ∨ (h.kn = 0 ∧ h.nn ≠ 0) ∨ (h.kn = 0 ∧ h.nn = 0)) with k1 | ⟨k1, k2⟩ | ⟨k1, k2⟩
                      · have ek : ((h.kn : Int) != 0) = true := by simp; omega
                        have ek' : ((h.kn : Int) == 0) = false := by simp; omega
                        have HFF := Lib.hid (HHN.out (by rw [HKT.out, show decide (h.kn = 0) = false from by simp; exact k1]; simp))
                        clear k1
                        go_wp2
                        go_ret
                        exact ⟨by rw [HFF.out]; rfl, HBQ.out⟩
                      · have ek : ((h.kn : Int) != 0) = false := by simp; omega
                        have ek' : ((h.kn : Int) == 0) = true := by simp; omega
                        have en : ((h.nn : Int) != 0) = true := by simp; omega
                        have en' : ((h.nn : Int) == 0) = false := by simp; omega
                        have HFF := Lib.hid (HHN.out (by rw [HKT.out, show decide (h.nn = 0) = false from by simp; exact k2]; simp))
                        clear k1 k2
                        go_wp2
                        go_ret
                        exact ⟨by rw [HFF.out]; rfl, HBQ.out⟩
                      · have ek : ((h.kn : Int) != 0) = false := by simp; omega
                        have ek' : ((h.kn : Int) == 0) = true := by simp; omega
                        have en : ((h.nn : Int) != 0) = false := by simp; omega
                        have en' : ((h.nn : Int) == 0) = true := by simp; omega
                        cases hop : h.op with
                        | false =>
                          have HYES := Lib.hid (HHY.out (by rw [HKT.out, hop, k1, k2]; rfl) HK10.out)
                          rw [hop] at b3'
                          clear hop k1 k2
                          go_wp2
                          go_roundw
                          case rel => exact ⟨j + 1, by go_num, by omega, Lib.hid (HB1Q.out), Lib.hid (fun i' h' hi' hh' => by
                            by_cases he : i' = j
                            · subst he
                              have := hh'.symm.trans HH.out
                              cases this
                              exact HYES.out
                            · exact HA.out i' h' (by omega) hh')⟩
                          case measure => simp [intOf]; omega
                        | true =>
                          have HFF := Lib.hid (HHN.out (by rw [HKT.out, hop]; rfl))
                          rw [hop] at b3'
                          clear hop k1 k2
                          go_wp2
                          go_ret
                          exact ⟨by rw [HFF.out]; rfl, HBQ.out⟩
    · have hjk2 : ¬ (j : Int) < ln := by omega
      obtain rfl : ln = j := by omega
      have hf : graphB root HS = true := by
        rw [HF.out]
        exact List.all_eq_true.2 (fun h hm => by
          obtain ⟨i, hi⟩ := List.getElem?_of_mem hm
          exact HA.out i h (by rw [HL.out]; exact (List.getElem?_eq_some_iff.1 hi).1) hi)
      have HFF := Lib.hid hf
      clear hf
      go_wp2
      go_ret
      exact ⟨by rw [HFF.out]; rfl, HBA.out.trans (HBR.out.mono HBA.out.size)⟩
end Go.Proofs.YtoakfninndkgaaaGreatDoor
set_option linter.unusedVariables false
namespace Go.Proofs.YtoakfninndkgaaaGreatDoor
open Go.RowKit
set_option maxRecDepth 20000 in
set_option maxHeartbeats 2000000 in
theorem len_any (w : World) (A : Nat) (la : Option Addr) (ln lc : Nat) (most : Int) (hA : w.heap[A]? = some (.cells #[.slice la ln lc, .int .i64 most] 79 (0, 0))) :
    Calls Tryz.prog 12 #[.pointer (some ⟨A, 0, none⟩)] w fun e w' => e = .returned (.int .i64 (ln : Int)) ∧ w' = w := by
  have a0 : w.cell? ⟨A, 0, none⟩ = some (.slice la ln lc) := (by rw [cell_of_row _ _ 0 _ 79 _ hA]; rfl)
  clear hA
  go_enter Tryz.func12, Tryz.ntmps12
  go_wp2
  go_ret
  exact ⟨rfl, rfl⟩
/-- kids told from ln on, the first j of them told from 0 on. -/
def bkTo (ln : Nat) (KS : List Int) (j : Nat) : List Int := KS.take j ++ (KS.drop j).map (· + (ln : Int))
theorem bkTo_zero (ln : Nat) (KS : List Int) : bkTo ln KS 0 = KS.map (· + (ln : Int)) := by simp [bkTo]
theorem bkTo_all (ln : Nat) (KS : List Int) : bkTo ln KS KS.length = KS := by simp [bkTo]
theorem bkTo_at (ln : Nat) (KS : List Int) (j : Nat) (x : Int) (h : KS[j]? = some x) : (bkTo ln KS j)[j]? = some (x + (ln : Int)) := by
  have hj := (List.getElem?_eq_some_iff.1 h).1
  unfold bkTo
  rw [List.getElem?_append_right (by simp; omega)]
  simp [Nat.min_eq_left (Nat.le_of_lt hj), h]
theorem bkTo_set (ln : Nat) (KS : List Int) (j : Nat) (x : Int) (h : KS[j]? = some x) : (bkTo ln KS j).set j x = bkTo ln KS (j + 1) := by
  have hj := (List.getElem?_eq_some_iff.1 h).1
  unfold bkTo
  rw [List.set_append_right _ _ (by simp; omega)]
  have hd : KS.drop j = x :: KS.drop (j + 1) := by
    rw [List.drop_eq_getElem_cons hj]
    congr 1
    exact (List.getElem?_eq_some_iff.1 h).2
  rw [hd, List.take_add_one, h]
  simp [Nat.min_eq_left (Nat.le_of_lt hj)]
/-- the law's own graph, as far as it is built: its box at B, its heads in a row of their own. -/
structure XSt (w5 wr : World) (B : Nat) (root : Int) (xa : Option Addr) (xc : Nat) (OS XS : List Hd) : Prop where
  below : Below w5.heap.size w5 wr
  ge : w5.heap.size ≤ B
  box : wr.heap[B]? = some (.cells #[.slice xa XS.length xc, .int .i64 root] 24 (0, 0))
  out : wr.ownsRow (B + 1) 38 4 (.slice xa XS.length xc) XS.length (XS.flatMap hcells)
  le : XS.length ≤ OS.length
  rel : ∀ (i : Nat) x y, OS[i]? = some x → XS[i]? = some y → y.kd = x.kd ∧ y.op = x.op ∧ y.NS = x.NS ∧ y.KS = x.KS
  heads : ∀ y ∈ XS, HdOk wr y
  sep : ∀ y ∈ XS, ∀ ad, blkOf y ad → B < ad.block ∧ ad.block < wr.heap.size ∧ (Value.slice xa XS.length xc).ownBlock ≠ some ad.block
section
variable {w5 wr w' : World} {B : Nat} {root : Int} {xa : Option Addr} {xc : Nat} {OS XS : List Hd}
theorem flat9_at : ∀ (YS : List Hd) (i j : Nat) (y : Hd), YS[i]? = some y → j < 9 → (YS.flatMap pcells)[i * 9 + j]? = (pcells y)[j]?
  | [], i, j, y, h, _ => by simp at h
  | z :: r, 0, j, y, h, hj => by
    obtain rfl : z = y := by simpa using h
    rw [List.flatMap_cons, List.getElem?_append_left (by simp [pcells]; omega)]
    simp
  | z :: r, i + 1, j, y, h, hj => by
    rw [List.flatMap_cons, List.getElem?_append_right (by simp [pcells]; omega)]
    have e : (i + 1) * 9 + j - (pcells z).length = i * 9 + j := by simp [pcells]; omega
    rw [e]
    exact flat9_at r i j y (by simpa using h) hj
theorem XSt.start (w : World) (OS : List Hd) : XSt w (w.alloc (.cells #[.slice none 0 0, .int .i64 0] 24)) w.heap.size 0 none 0 OS [] where
  below := (Below.refl _ _).alloc (Nat.le_refl _) _
  ge := Nat.le_refl _
  box := heap_alloc_new w _
  out := World.ownsRow_nil _ _ _ _
  le := Nat.zero_le _
  rel i x y _ h2 := by simp at h2
  heads y hy := by cases hy
  sep y hy := by cases hy
theorem XSt.on (h : XSt w5 wr B root xa xc OS XS) (hb : Below wr.heap.size wr w') : XSt w5 w' B root xa xc OS XS where
  below := h.below.trans (hb.mono h.below.size)
  ge := h.ge
  box := (hb.block B (Array.getElem?_eq_some_iff.1 h.box).1).trans h.box
  out := ownsRow_mono h.out (fun g hg => hb.block g (h.out.lt g hg).2)
  le := h.le
  rel := h.rel
  heads y hy := (h.heads y hy).on hb
  sep y hy ad e := by
    obtain ⟨h1, h2, h3⟩ := h.sep y hy ad e
    exact ⟨h1, Nat.lt_of_lt_of_le h2 hb.size, h3⟩
theorem XSt.step (h : XSt w5 wr B root xa xc OS XS) {x y : Hd} (hx : OS[XS.length]? = some x) (hm : y.kd = x.kd ∧ y.op = x.op ∧ y.NS = x.NS ∧ y.KS = x.KS) (hy : HdOk wr y) (hys : ∀ ad, blkOf y ad → B < ad.block ∧ ad.block < wr.heap.size ∧ (Value.slice xa XS.length xc).ownBlock ≠ some ad.block) {wd : World} (hd : Below wr.heap.size wr wd) {o : Obj} {w6 : World} {g6 c6 : Nat}
    (hg : (wd.alloc o).grownBy w6 (Value.slice xa XS.length xc).ownBlock) (hown : w6.ownsRow (B + 1) 38 4 (.slice (some ⟨g6, 0, none⟩) (XS.length + 1) c6) (XS.length + 1) (XS.flatMap hcells ++ hcells y)) (hw : (Value.slice xa XS.length xc).ownBlock = some g6 ∨ g6 = (wd.alloc o).heap.size) :
    XSt w5 (w6.setCell ⟨B, 0, none⟩ (.slice (some ⟨g6, 0, none⟩) (XS.length + 1) c6)) B root (some ⟨g6, 0, none⟩) c6 OS (XS ++ [y]) := by
  have hbd : Below wr.heap.size wr (wd.alloc o) := hd.alloc hd.size _
  have hBl : B < wr.heap.size := (Array.getElem?_eq_some_iff.1 h.box).1
  have hlo : ∀ b, b < wr.heap.size → (Value.slice xa XS.length xc).ownBlock ≠ some b → w6.heap[b]? = wr.heap[b]? := fun b hb e => by
    rw [hg.block b (by have := hbd.size; omega) (fun e' => e e'.symm)]
    exact hbd.block b hb
  have hB6 : w6.heap[B]? = some (.cells #[.slice xa XS.length xc, .int .i64 root] 24 (0, 0)) := (hlo B hBl (fun e => by have := (h.out.lt _ e).1; omega)).trans h.box
  have hsz : wr.heap.size ≤ w6.heap.size := Nat.le_trans hbd.size hg.size
  have hkeep : ∀ b, b < wr.heap.size → b ≠ B → (Value.slice xa XS.length xc).ownBlock ≠ some b → (w6.setCell ⟨B, 0, none⟩ (.slice (some ⟨g6, 0, none⟩) (XS.length + 1) c6)).heap[b]? = wr.heap[b]? := fun b hb h1 h2 => by
    rw [Below.heap_setCell _ _ _ _ h1]
    exact hlo b hb h2
  have hgb : ∀ b, b < wr.heap.size → (Value.slice xa XS.length xc).ownBlock ≠ some b → g6 ≠ b := fun b hb hne e => by
    rcases hw with r | r
    · exact hne (by rw [r, e])
    · have := hbd.size; omega
  have hhd : ∀ z : Hd, HdOk wr z → (∀ ad, blkOf z ad → B < ad.block ∧ ad.block < wr.heap.size ∧ (Value.slice xa XS.length xc).ownBlock ≠ some ad.block) → HdOk (w6.setCell ⟨B, 0, none⟩ (.slice (some ⟨g6, 0, none⟩) (XS.length + 1) c6)) z := fun z hz hs =>
    hd_kept hz (fun ad e _ => by obtain ⟨s1, s2, s3⟩ := hs ad e; exact hkeep _ s2 (by omega) s3) (by simpa using hsz)
  have hge := h.ge
  have e1 : (XS ++ [y]).length = XS.length + 1 := by simp
  have hbs := h.below.size
  exact {
    below := ⟨hg.os.trans (hbd.os.trans h.below.os), hg.tape.trans (hbd.tape.trans h.below.tape), hg.output.trans (hbd.output.trans h.below.output), by simpa using Nat.le_trans hbs hsz, fun b hb => by
      rw [hkeep b (by omega) (by omega) (fun e => by have := (h.out.lt _ e).1; omega)]
      exact h.below.block b hb⟩
    ge := hge
    box := by
      rw [e1, heap_setCell_same _ B 0 _ 24 _ hB6]
      rfl
    out := by
      rw [e1, List.flatMap_append]
      have := ownsRow_setCell_below hown (a := ⟨B, 0, none⟩) (Nat.lt_succ_self B) (.slice (some ⟨g6, 0, none⟩) (XS.length + 1) c6)
      simpa using this
    le := by
      have := (List.getElem?_eq_some_iff.1 hx).1
      rw [e1]; omega
    rel := fun i x' y' h1 h2 => by
      rcases Nat.lt_or_ge i XS.length with h3 | h3
      · rw [List.getElem?_append_left h3] at h2
        exact h.rel i x' y' h1 h2
      · rw [List.getElem?_append_right h3] at h2
        have h4 : i - XS.length = 0 := by
          have := (List.getElem?_eq_some_iff.1 h2).1
          simp at this
          omega
        obtain rfl : i = XS.length := by omega
        rw [hx] at h1
        cases h1
        simp at h2
        rw [← h2]
        exact hm
    heads := fun z hz => by
      rcases List.mem_append.1 hz with r | r
      · exact hhd z (h.heads z r) (h.sep z r)
      · obtain rfl : z = y := by simpa using r
        exact hhd z hy hys
    sep := fun z hz ad e => by
      have hall : B < ad.block ∧ ad.block < wr.heap.size ∧ (Value.slice xa XS.length xc).ownBlock ≠ some ad.block := by
        rcases List.mem_append.1 hz with r | r
        · exact h.sep z r ad e
        · obtain rfl : z = y := by simpa using r
          exact hys ad e
      obtain ⟨s1, s2, s3⟩ := hall
      exact ⟨s1, by simpa using Nat.lt_of_lt_of_le s2 hsz, fun e2 => hgb _ s2 s3 (by cases e2; rfl)⟩ }
theorem XSt.heads_in (h : XSt w5 wr B root xa xc OS XS) : HeadsIn wr xa XS.length XS := by
  refine ⟨rfl, ?_⟩
  by_cases h0 : XS.length = 0
  · exact .inl h0
  · obtain ⟨g, cap, e, h2, h3⟩ := h.out.form (by omega)
    injection e with e1 e2 e3
    subst e1
    refine .inr ⟨g, 0, rfl, h3, fun i x hi => ?_⟩
    have hil := (List.getElem?_eq_some_iff.1 hi).1
    have hc : ∀ j, j < 4 → wr.cell? ⟨g, 0 + i * 4 + j, none⟩ = (hcells x)[j]? := fun j hj => by
      rw [Nat.zero_add, h.out.cellAt (i * 4 + j) (by omega)]
      exact flat_at XS i j x hi hj
    exact ⟨hc 0 (by omega), hc 1 (by omega), hc 2 (by omega), hc 3 (by omega), h.heads x (List.mem_of_getElem? hi)⟩
theorem XSt.alk (h : XSt w5 wr B root xa xc OS XS) (hl : XS.length = OS.length) : Alk OS XS := ⟨hl, h.rel⟩
end
end Go.Proofs.YtoakfninndkgaaaGreatDoor
set_option linter.unusedVariables false
namespace Go.Proofs.YtoakfninndkgaaaGreatDoor
open Go.RowKit
theorem right_ex : rightB 7 false 1 [] [0, 0] = true := by decide
theorem lv_ex : lvTo [2] [0, 0] 2 = 2 := by decide
theorem lives12 (w : World) : Calls Tryz.prog 7 #[] w fun e w' => e = .returned (.bool true) ∧ Below w.heap.size w w' := by
  have HA1 : Hid (ArenaAt (w.alloc (.cells #[.slice none 0 0, .int .i64 9] 79)) w.heap.size (w.heap.size + 1) none 0 0 9 []) := Lib.hid ⟨heap_alloc_new w _, World.ownsRow_nil _ _ _ _, by omega, by simp⟩
  have HB1 : Hid (Below w.heap.size w (w.alloc (.cells #[.slice none 0 0, .int .i64 9] 79))) := Lib.hid ((Below.refl _ _).alloc (Nat.le_refl _) _)
  have HS1 : Hid ((w.alloc (.cells #[.slice none 0 0, .int .i64 9] 79)).heap.size = w.heap.size + 1) := Lib.hid (by simp)
  have HNEW := Lib.hid (new_ok w 9 (by decide) (by decide))
  go_enter Tryz.func7, Tryz.ntmps7
  go_upto_region 2 with (go_at_call 10; (with_reducible refine HNEW.out.mono ?_); rintro e w1 ⟨rfl, rfl⟩)
  generalize (w.alloc (.cells #[.slice none 0 0, .int .i64 9] 79)) = w1 at *
  have HVAR := Lib.hid (var_ok w1 w.heap.size (w.heap.size + 1) none 0 0 9 2 [] HA1.out (by decide) (by decide) (by decide))
  go_upto_region 3 with (go_at_call 11; (with_reducible refine HVAR.out.mono ?_); rintro e w2 ⟨la, lc, M, rfl, hA2, hM, hM2, hac2⟩)
  have HA2 := Lib.hid hA2
  have HB2 : Hid (Below w.heap.size w w2) := Lib.hid (HB1.out.trans (hac2.below (by have := HS1.out; omega) (Nat.le_refl _) (fun k e => by cases e)))
  clear hA2 hM hM2 hac2
  have HB3 : Hid (Below w2.heap.size w2 (w2.alloc (.cells #[.int .i64 0, .int .i64 0] 3))) := Lib.hid ((Below.refl _ _).alloc (Nat.le_refl _) _)
  have HA3 := Lib.hid (HA2.out.on HB3.out)
  have HK3 : Hid (IntsAt (w2.alloc (.cells #[.int .i64 0, .int .i64 0] 3)) (some ⟨w2.heap.size, 0, none⟩) 2 [0, 0]) := Lib.hid ⟨rfl, Or.inr ⟨_, 0, rfl, by simp, fun i k hi => by
    rw [cell_of_row _ _ _ _ 3 _ (heap_alloc_new w2 _)]
    rcases i with _ | _ | i
    · cases hi; rfl
    · cases hi; rfl
    · simp at hi⟩⟩
  have HHD := Lib.hid (head_ok (w2.alloc (.cells #[.int .i64 0, .int .i64 0] 3)) w.heap.size (w.heap.size + 1) la 1 lc 9 _ [2] 7 none 0 0 [] (some ⟨w2.heap.size, 0, none⟩) 2 2 [0, 0] false HA3.out ⟨rfl, Or.inl rfl⟩ HK3.out (by decide) (by decide) (fun s h => by cases h) (fun _ => rfl) (fun h => by cases h) right_ex (by decide) (by decide) (fun i hi => by
    have : i = 0 := by omega
    subst this
    rfl))
  rw [lv_ex] at HHD
  have HBB : Hid (Below w.heap.size w (w2.alloc (.cells #[.int .i64 0, .int .i64 0] 3))) := Lib.hid (HB2.out.trans (HB3.out.mono HB2.out.size))
  go_upto_region 4 with (go_at_call 25; (with_reducible refine HHD.out.mono ?_); rintro e w4 ⟨la4, lc4, a4, c4, b4, d4, rfl, hA4, -, -, -, -, -, -, hac4⟩)
  have HA4 := Lib.hid hA4
  have HB4 : Hid (Below w.heap.size w w4) := Lib.hid (HBB.out.trans (hac4.below (by have := HBB.out.size; omega) (Nat.le_refl _) (fun k e => by have := (HA3.out.own.lt k e).1; omega)))
  clear hA4 hac4
  have HLV : Hid (Calls Tryz.prog 15 #[.pointer (some ⟨w.heap.size, 0, none⟩), .int .i64 1] w4 fun e w' => e = .returned (.int .i64 2) ∧ w' = w4) := Lib.hid (level_any w4 w.heap.size (w.heap.size + 1) la4 2 lc4 9 _ 1 2 HA4.out (by decide) rfl (by decide))
  go_wp2_with (go_at_call 15; (with_reducible refine HLV.out.mono ?_); rintro e w5 ⟨rfl, rfl⟩)
  go_ret
  exact ⟨rfl, HB4.out⟩
end Go.Proofs.YtoakfninndkgaaaGreatDoor
