/- Walks: all, once, rising. -/
import Derived.Test.YtoakfninndkgaaaGreatDoorNc
set_option linter.unusedVariables false
namespace Go.Proofs.YtoakfninndkgaaaGreatDoor
open Go.RowKit
def NamesAt (w : World) (an : Option Addr) (n : Nat) (NS : List ByteArray) : Prop := n = NS.length ∧ (n = 0 ∨ ∃ gn on, an = some ⟨gn, on, none⟩ ∧ gn < w.heap.size ∧ ∀ i s, NS[i]? = some s → w.cell? ⟨gn, on + i, none⟩ = some (.string s))
theorem NamesAt.on {w w' : World} {an : Option Addr} {n : Nat} {NS : List ByteArray} (h : NamesAt w an n NS) (hb : Below w.heap.size w w') : NamesAt w' an n NS := by
  refine ⟨h.1, ?_⟩
  rcases h.2 with h' | ⟨gn, on, e, hg, hc⟩
  · exact Or.inl h'
  · exact Or.inr ⟨gn, on, e, Nat.lt_of_lt_of_le hg hb.size, fun i s hi => by rw [← hc i s hi]; exact hb.cell (p := ⟨gn, on + i, none⟩) hg⟩
def nonneg (r : Int) : Bool := decide (0 ≤ r)
def IdxPost (w : World) (b : Bool) (e : Ending) (w' : World) : Prop := ∃ r : Int, e = .returned (.int .i64 r) ∧ (r = -1 ∧ b = true ∨ 0 ≤ r ∧ b = false) ∧ Below w.heap.size w w'
theorem clos_102 (w : World) (B : Nat) (s : ByteArray) (hs : s.size ≤ 100000) (hB : w.cell? ⟨B, 0, none⟩ = some (.func (.func 102) #[] #[])) : Calls Tryz.prog 126 #[.string s, .pointer (some ⟨B, 0, none⟩)] w fun e w' => e = .returned (.bool (!nameL s.data.toList)) ∧ Below w.heap.size w w' := by
  have H := Lib.hid (isname_any s hs)
  generalize nameL s.data.toList = b at *
  cases b
  all_goals
    go_enter Tryz.func126, Tryz.ntmps126
    go_wp2_with (go_at_call 102; refine (H.out _).mono ?_; rintro e w5 ⟨rfl, hb5⟩)
    go_ret
    exact ⟨by simp, hb5⟩
theorem idxf_102 (w : World) (b off n c B : Nat) (S : List ByteArray) (hS : S.length = n) (hn : n ≤ 100000) (hc : Hid (∀ (k : Nat) (s : ByteArray), S[k]? = some s → w.cell? ⟨b, off + k, none⟩ = some (.string s))) (hb : b < w.heap.size) (hz : Hid (∀ s ∈ S, s.size ≤ 100000)) (hB : w.heap[B]? = some (.cells #[.func (.func 102) #[] #[]] 76 (0, 0))) :
    Calls Tryz.prog 140 #[.slice (some ⟨b, off, none⟩) n c, .func (.func 126) #[] #[.pointer (some ⟨B, 0, none⟩)]] w (IdxPost w (S.all fun s => nameL s.data.toList)) := by
  have HS := Lib.hid hS
  have HB := Lib.hid hB
  have HBB := Lib.hid hb
  clear hS hB hb
  go_enter Tryz.func140, Tryz.ntmps140
  go_wp2
  go_loopw [8] (fun s8 wr => ∃ k : Nat, k ≤ n ∧ s8 = .int .i64 (k : Int) ∧ Hid ((S.take k).all (fun s => nameL s.data.toList) = true) ∧ Hid (Below w.heap.size w wr)) (fun s8 _ => n - (intOf s8).toNat)
  case atStart => exact ⟨0, Nat.zero_le _, rfl, rfl, Below.refl _ _⟩
  case round =>
    obtain ⟨k, hk, rfl, HA, HW⟩ := hrel
    have hwk : IntKind.i64.wrap ((k : Int) + 1) = (k : Int) + 1 := by rw [IntKind.wrap_i64]; omega
    by_cases hlt : k < n
    · have hlt2 : (k : Int) < n := by omega
      obtain ⟨s, hs⟩ : ∃ s, S[k]? = some s := ⟨_, List.getElem?_eq_getElem (by rw [HS.out]; exact hlt)⟩
      have ac : wr.cell? ⟨b, off + k, none⟩ = some (.string s) := by rw [← hc.out k s hs]; exact HW.out.cell (p := ⟨b, off + k, none⟩) HBB.out
      have HCL := Lib.hid (clos_102 wr B s (hz.out s (List.mem_of_getElem? hs)) (by rw [cell_of_row _ B 0 _ 76 _ ((HW.out.block B (Array.getElem?_eq_some_iff.1 HB.out).1).trans HB.out)]; rfl))
      have hst : S.take (k + 1) = S.take k ++ [s] := by rw [List.take_add_one, hs]; rfl
      have HST := Lib.hid hst
      have HSS := Lib.hid hs
      clear hs hst
      cases hp : nameL s.data.toList with
      | true =>
        rw [hp] at HCL
        have HP := Lib.hid hp
        clear hp
        go_wp2_with (go_at_call 126; refine HCL.out.mono ?_; rintro e w5 ⟨rfl, hb5⟩)
        go_roundw
        case rel => exact ⟨k + 1, by omega, by go_num, Lib.hid (by rw [HST.out, List.all_append, HA.out]; simp [HP.out]), Lib.hid (HW.out.trans (hb5.mono HW.out.size))⟩
        case measure => simp [intOf]; omega
      | false =>
        rw [hp] at HCL
        have HP := Lib.hid hp
        clear hp
        go_wp2_with (go_at_call 126; refine HCL.out.mono ?_; rintro e w5 ⟨rfl, hb5⟩)
        go_ret
        exact ⟨k, rfl, Or.inr ⟨by omega, List.all_eq_false.2 ⟨s, List.mem_of_getElem? HSS.out, by simp [HP.out]⟩⟩, HW.out.trans (hb5.mono HW.out.size)⟩
    · have hlt2 : ¬ (k : Int) < n := by omega
      obtain rfl : k = n := by omega
      go_wp2
      go_ret
      exact ⟨-1, rfl, Or.inl ⟨rfl, by have := HA.out; rwa [List.take_of_length_le (by rw [HS.out]; omega)] at this⟩, HW.out⟩
theorem idxz_102 (w : World) (a : Option Addr) (c : Nat) (g : Value) : Calls Tryz.prog 140 #[.slice a 0 c, g] w (IdxPost w true) := by
  go_enter Tryz.func140, Tryz.ntmps140
  go_wp2
  go_loop [8] (fun s8 => s8 = .int .i64 0) (fun _ => 0)
  case atStart => exact rfl
  case round =>
    obtain rfl := hrel
    go_wp2
    go_ret
    exact ⟨-1, rfl, Or.inl ⟨rfl, rfl⟩, Below.refl _ _⟩
theorem cont_102 (w : World) (a : Option Addr) (n c B : Nat) (S : List ByteArray) (hN : NamesAt w a n S) (hn : n ≤ 100000) (hz : ∀ s ∈ S, s.size ≤ 100000) (hB : w.heap[B]? = some (.cells #[.func (.func 102) #[] #[]] 76 (0, 0))) :
    Calls Tryz.prog 125 #[.slice a n c, .func (.func 126) #[] #[.pointer (some ⟨B, 0, none⟩)]] w fun e w' => e = .returned (.bool (!(S.all fun s => nameL s.data.toList))) ∧ Below w.heap.size w w' := by
  have HI : Hid (Calls Tryz.prog 140 #[.slice a n c, .func (.func 126) #[] #[.pointer (some ⟨B, 0, none⟩)]] w (IdxPost w (S.all fun s => nameL s.data.toList))) := by
    obtain ⟨hn', hN⟩ := hN
    rcases hN with rfl | ⟨gn, on, rfl, hg, hc⟩
    · rw [List.eq_nil_of_length_eq_zero hn'.symm]
      exact idxz_102 w a c _
    · exact idxf_102 w gn on n c B S hn'.symm hn (Lib.hid hc) hg (Lib.hid hz) hB
  generalize (S.all fun s => nameL s.data.toList) = b at *
  clear hN hz hB
  go_enter Tryz.func125, Tryz.ntmps125
  go_wp2_with (go_at_call 140; refine HI.out.mono ?_; rintro e w5 ⟨r, rfl, hr, hb5⟩)
  rcases hr with ⟨rfl, rfl⟩ | ⟨hr, rfl⟩
  · go_ret
    exact ⟨by simp, hb5⟩
  · go_ret
    exact ⟨by simp [hr], hb5⟩
theorem all_102 (w : World) (a : Option Addr) (n c : Nat) (S : List ByteArray) (hN : NamesAt w a n S) (hn : n ≤ 100000) (hz : ∀ s ∈ S, s.size ≤ 100000) :
    Calls Tryz.prog 104 #[.slice a n c, .func (.func 102) #[] #[]] w fun e w' => e = .returned (.bool (S.all fun s => nameL s.data.toList)) ∧ Below w.heap.size w w' := by
  have hal := heap_alloc_new w (.cells #[.func (.func 102) #[] #[]] 76)
  have HBA : Hid (Below w.heap.size w (w.alloc (.cells #[.func (.func 102) #[] #[]] 76))) := Lib.hid ((Below.refl _ _).alloc (Nat.le_refl _) _)
  have HI := Lib.hid (cont_102 (w.alloc (.cells #[.func (.func 102) #[] #[]] 76)) a n c w.heap.size S (hN.on HBA.out) hn hz hal)
  generalize (S.all fun s => nameL s.data.toList) = b at *
  clear hN hz hal
  cases b
  all_goals
    go_enter Tryz.func104, Tryz.ntmps104
    go_wp2_with (go_at_call 125; refine HI.out.mono ?_; rintro e w5 ⟨rfl, hb5⟩)
    go_ret
    exact ⟨by simp, HBA.out.trans (hb5.mono HBA.out.size)⟩
theorem clos_105 (w : World) (B : Nat) (s : ByteArray) (hs : s.size ≤ 100000) (hB : w.cell? ⟨B, 0, none⟩ = some (.func (.func 105) #[] #[])) : Calls Tryz.prog 126 #[.string s, .pointer (some ⟨B, 0, none⟩)] w fun e w' => e = .returned (.bool (!tagL s.data.toList)) ∧ Below w.heap.size w w' := by
  have H := Lib.hid (tag_any s hs)
  generalize tagL s.data.toList = b at *
  cases b
  all_goals
    go_enter Tryz.func126, Tryz.ntmps126
    go_wp2_with (go_at_call 105; refine (H.out _).mono ?_; rintro e w5 ⟨rfl, hb5⟩)
    go_ret
    exact ⟨by simp, hb5⟩
theorem idxf_105 (w : World) (b off n c B : Nat) (S : List ByteArray) (hS : S.length = n) (hn : n ≤ 100000) (hc : Hid (∀ (k : Nat) (s : ByteArray), S[k]? = some s → w.cell? ⟨b, off + k, none⟩ = some (.string s))) (hb : b < w.heap.size) (hz : Hid (∀ s ∈ S, s.size ≤ 100000)) (hB : w.heap[B]? = some (.cells #[.func (.func 105) #[] #[]] 76 (0, 0))) :
    Calls Tryz.prog 140 #[.slice (some ⟨b, off, none⟩) n c, .func (.func 126) #[] #[.pointer (some ⟨B, 0, none⟩)]] w (IdxPost w (S.all fun s => tagL s.data.toList)) := by
  have HS := Lib.hid hS
  have HB := Lib.hid hB
  have HBB := Lib.hid hb
  clear hS hB hb
  go_enter Tryz.func140, Tryz.ntmps140
  go_wp2
  go_loopw [8] (fun s8 wr => ∃ k : Nat, k ≤ n ∧ s8 = .int .i64 (k : Int) ∧ Hid ((S.take k).all (fun s => tagL s.data.toList) = true) ∧ Hid (Below w.heap.size w wr)) (fun s8 _ => n - (intOf s8).toNat)
  case atStart => exact ⟨0, Nat.zero_le _, rfl, rfl, Below.refl _ _⟩
  case round =>
    obtain ⟨k, hk, rfl, HA, HW⟩ := hrel
    have hwk : IntKind.i64.wrap ((k : Int) + 1) = (k : Int) + 1 := by rw [IntKind.wrap_i64]; omega
    by_cases hlt : k < n
    · have hlt2 : (k : Int) < n := by omega
      obtain ⟨s, hs⟩ : ∃ s, S[k]? = some s := ⟨_, List.getElem?_eq_getElem (by rw [HS.out]; exact hlt)⟩
      have ac : wr.cell? ⟨b, off + k, none⟩ = some (.string s) := by rw [← hc.out k s hs]; exact HW.out.cell (p := ⟨b, off + k, none⟩) HBB.out
      have HCL := Lib.hid (clos_105 wr B s (hz.out s (List.mem_of_getElem? hs)) (by rw [cell_of_row _ B 0 _ 76 _ ((HW.out.block B (Array.getElem?_eq_some_iff.1 HB.out).1).trans HB.out)]; rfl))
      have hst : S.take (k + 1) = S.take k ++ [s] := by rw [List.take_add_one, hs]; rfl
      have HST := Lib.hid hst
      have HSS := Lib.hid hs
      clear hs hst
      cases hp : tagL s.data.toList with
      | true =>
        rw [hp] at HCL
        have HP := Lib.hid hp
        clear hp
        go_wp2_with (go_at_call 126; refine HCL.out.mono ?_; rintro e w5 ⟨rfl, hb5⟩)
        go_roundw
        case rel => exact ⟨k + 1, by omega, by go_num, Lib.hid (by rw [HST.out, List.all_append, HA.out]; simp [HP.out]), Lib.hid (HW.out.trans (hb5.mono HW.out.size))⟩
        case measure => simp [intOf]; omega
      | false =>
        rw [hp] at HCL
        have HP := Lib.hid hp
        clear hp
        go_wp2_with (go_at_call 126; refine HCL.out.mono ?_; rintro e w5 ⟨rfl, hb5⟩)
        go_ret
        exact ⟨k, rfl, Or.inr ⟨by omega, List.all_eq_false.2 ⟨s, List.mem_of_getElem? HSS.out, by simp [HP.out]⟩⟩, HW.out.trans (hb5.mono HW.out.size)⟩
    · have hlt2 : ¬ (k : Int) < n := by omega
      obtain rfl : k = n := by omega
      go_wp2
      go_ret
      exact ⟨-1, rfl, Or.inl ⟨rfl, by have := HA.out; rwa [List.take_of_length_le (by rw [HS.out]; omega)] at this⟩, HW.out⟩
theorem idxz_105 (w : World) (a : Option Addr) (c : Nat) (g : Value) : Calls Tryz.prog 140 #[.slice a 0 c, g] w (IdxPost w true) := by
  go_enter Tryz.func140, Tryz.ntmps140
  go_wp2
  go_loop [8] (fun s8 => s8 = .int .i64 0) (fun _ => 0)
  case atStart => exact rfl
  case round =>
    obtain rfl := hrel
    go_wp2
    go_ret
    exact ⟨-1, rfl, Or.inl ⟨rfl, rfl⟩, Below.refl _ _⟩
theorem cont_105 (w : World) (a : Option Addr) (n c B : Nat) (S : List ByteArray) (hN : NamesAt w a n S) (hn : n ≤ 100000) (hz : ∀ s ∈ S, s.size ≤ 100000) (hB : w.heap[B]? = some (.cells #[.func (.func 105) #[] #[]] 76 (0, 0))) :
    Calls Tryz.prog 125 #[.slice a n c, .func (.func 126) #[] #[.pointer (some ⟨B, 0, none⟩)]] w fun e w' => e = .returned (.bool (!(S.all fun s => tagL s.data.toList))) ∧ Below w.heap.size w w' := by
  have HI : Hid (Calls Tryz.prog 140 #[.slice a n c, .func (.func 126) #[] #[.pointer (some ⟨B, 0, none⟩)]] w (IdxPost w (S.all fun s => tagL s.data.toList))) := by
    obtain ⟨hn', hN⟩ := hN
    rcases hN with rfl | ⟨gn, on, rfl, hg, hc⟩
    · rw [List.eq_nil_of_length_eq_zero hn'.symm]
      exact idxz_105 w a c _
    · exact idxf_105 w gn on n c B S hn'.symm hn (Lib.hid hc) hg (Lib.hid hz) hB
  generalize (S.all fun s => tagL s.data.toList) = b at *
  clear hN hz hB
  go_enter Tryz.func125, Tryz.ntmps125
  go_wp2_with (go_at_call 140; refine HI.out.mono ?_; rintro e w5 ⟨r, rfl, hr, hb5⟩)
  rcases hr with ⟨rfl, rfl⟩ | ⟨hr, rfl⟩
  · go_ret
    exact ⟨by simp, hb5⟩
  · go_ret
    exact ⟨by simp [hr], hb5⟩
theorem all_105 (w : World) (a : Option Addr) (n c : Nat) (S : List ByteArray) (hN : NamesAt w a n S) (hn : n ≤ 100000) (hz : ∀ s ∈ S, s.size ≤ 100000) :
    Calls Tryz.prog 104 #[.slice a n c, .func (.func 105) #[] #[]] w fun e w' => e = .returned (.bool (S.all fun s => tagL s.data.toList)) ∧ Below w.heap.size w w' := by
  have hal := heap_alloc_new w (.cells #[.func (.func 105) #[] #[]] 76)
  have HBA : Hid (Below w.heap.size w (w.alloc (.cells #[.func (.func 105) #[] #[]] 76))) := Lib.hid ((Below.refl _ _).alloc (Nat.le_refl _) _)
  have HI := Lib.hid (cont_105 (w.alloc (.cells #[.func (.func 105) #[] #[]] 76)) a n c w.heap.size S (hN.on HBA.out) hn hz hal)
  generalize (S.all fun s => tagL s.data.toList) = b at *
  clear hN hz hal
  cases b
  all_goals
    go_enter Tryz.func104, Tryz.ntmps104
    go_wp2_with (go_at_call 125; refine HI.out.mono ?_; rintro e w5 ⟨rfl, hb5⟩)
    go_ret
    exact ⟨by simp, HBA.out.trans (hb5.mono HBA.out.size)⟩
end Go.Proofs.YtoakfninndkgaaaGreatDoor
