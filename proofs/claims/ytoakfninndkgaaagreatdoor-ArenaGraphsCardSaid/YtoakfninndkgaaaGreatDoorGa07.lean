/- Walks: Weight. Plain: a sorted list of names and kids. Walks: insert, at the sorted list that a box shows. Record's pairs, plain; the weight of a row of kids. -/
import Derived.Test.YtoakfninndkgaaaGreatDoorGa06
import Derived.Lib.Strings
set_option linter.unusedSimpArgs false
set_option linter.unusedVariables false
set_option linter.unusedVariables false
namespace Go.Proofs.YtoakfninndkgaaaGreatDoor.Val
open Go.RowKit
/-- a value's weight, in every world that has grown out of this one. -/
def Weighs (w : World) (v : Value) (h : Nat) : Prop := ∀ w', Below w.heap.size w w' → Calls Tryz.prog 57 #[v] w' fun e w'' => e = .returned (.int .i64 (h : Int)) ∧ Below w'.heap.size w' w''
theorem Weighs.on {w w' : World} {v : Value} {h : Nat} (hw : Weighs w v h) (hb : Below w.heap.size w w') : Weighs w' v h := fun w'' hb' => hw w'' (hb.trans (hb'.mono hb.size))
theorem weigh_heavy (w : World) (q0 q1 q2 q3 q4 q5 q6 : Value) (h : Nat) (h1 : 0 < h) (h2 : h ≤ 1073741824) : Weighs w (.agg #[q0, q1, q2, q3, q4, q5, q6, .int .i64 (h : Int)]) h := by
  intro w' hb
  have hx := heap_alloc_new w' (.cells #[q0, q1, q2, q3, q4, q5, q6, .int .i64 (h : Int)] 70)
  have c7 : (w'.alloc (.cells #[q0, q1, q2, q3, q4, q5, q6, .int .i64 (h : Int)] 70)).cell? ⟨w'.heap.size, 7, none⟩ = some (.int .i64 (h : Int)) := by rw [cell_of_row _ _ 7 _ 70 _ hx]; rfl
  have hp : (0 : Int) < h := by omega
  clear hx hb
  go_enter Tryz.func57, Tryz.ntmps57
  go_wp2
  go_ret
  exact ⟨rfl, (Below.refl _ _).alloc (Nat.le_refl _) _⟩
/-- the weight without kids. -/
def own9 (kd : Int) (s : ByteArray) : Nat := 1 + if kd = 2 then s.size else 0
/-- the sum of the first n. -/
def sumH (H : Nat → Nat) : Nat → Nat
  | 0 => 0
  | n + 1 => sumH H n + H n
theorem sumH_le (H : Nat → Nat) (j n : Nat) (h : j ≤ n) : sumH H j ≤ sumH H n := by
  induction n with
  | zero => obtain rfl : j = 0 := by omega
            exact Nat.le_refl _
  | succ n ih =>
    by_cases hj : j = n + 1
    · subst hj; exact Nat.le_refl _
    · exact Nat.le_trans (ih (by omega)) (Nat.le_add_right _ _)
/-- kid j of a row, as it lies; and its weight. -/
def KidW (w : World) (g j h : Nat) : Prop := ∃ (kd ki kb : Int) (kt : ByteArray) (na : Option Addr) (nn nc : Nat) (ka : Option Addr) (kn kc : Nat) (fp : Option Addr) (hv : Int), (w.cell? ⟨g, j * 8, none⟩ = some (.int .i64 kd) ∧ w.cell? ⟨g, j * 8 + 1, none⟩ = some (.int .i64 ki) ∧ w.cell? ⟨g, j * 8 + 2, none⟩ = some (.int .u64 kb) ∧ w.cell? ⟨g, j * 8 + 3, none⟩ = some (.string kt) ∧ w.cell? ⟨g, j * 8 + 4, none⟩ = some (.slice na nn nc) ∧ w.cell? ⟨g, j * 8 + 5, none⟩ = some (.slice ka kn kc) ∧ w.cell? ⟨g, j * 8 + 6, none⟩ = some (.pointer fp) ∧ w.cell? ⟨g, j * 8 + 7, none⟩ = some (.int .i64 hv)) ∧ Weighs w (.agg #[.int .i64 kd, .int .i64 ki, .int .u64 kb, .string kt, .slice na nn nc, .slice ka kn kc, .pointer fp, .int .i64 hv]) h
theorem KidW.on {w w' : World} {g j h : Nat} (hw : KidW w g j h) (hg : g < w.heap.size) (hb : Below w.heap.size w w') : KidW w' g j h := by
  obtain ⟨kd, ki, kb, kt, na, nn, nc, ka, kn, kc, fp, hv, ⟨a0, a1, a2, a3, a4, a5, a6, a7⟩, hW⟩ := hw
  exact ⟨kd, ki, kb, kt, na, nn, nc, ka, kn, kc, fp, hv, ⟨by rw [← a0]; exact hb.cell (p := ⟨g, j * 8, none⟩) hg, by rw [← a1]; exact hb.cell (p := ⟨g, j * 8 + 1, none⟩) hg, by rw [← a2]; exact hb.cell (p := ⟨g, j * 8 + 2, none⟩) hg, by rw [← a3]; exact hb.cell (p := ⟨g, j * 8 + 3, none⟩) hg, by rw [← a4]; exact hb.cell (p := ⟨g, j * 8 + 4, none⟩) hg, by rw [← a5]; exact hb.cell (p := ⟨g, j * 8 + 5, none⟩) hg, by rw [← a6]; exact hb.cell (p := ⟨g, j * 8 + 6, none⟩) hg, by rw [← a7]; exact hb.cell (p := ⟨g, j * 8 + 7, none⟩) hg⟩, hW.on hb⟩
theorem weigh_leaf2 (w : World) (q1 q2 q4 q6 : Value) (s : ByteArray) (hs : s.size ≤ 100000) : Weighs w (.agg #[.int .i64 2, q1, q2, .string s, q4, .slice none 0 0, q6, .int .i64 0]) (own9 2 s) := by
  intro w' hb
  have hx := heap_alloc_new w' (.cells #[.int .i64 2, q1, q2, .string s, q4, .slice none 0 0, q6, .int .i64 0] 70)
  have c7 : (w'.alloc (.cells #[.int .i64 2, q1, q2, .string s, q4, .slice none 0 0, q6, .int .i64 0] 70)).cell? ⟨w'.heap.size, 7, none⟩ = some (.int .i64 0) := by rw [cell_of_row _ _ 7 _ 70 _ hx]; rfl
  have c0 : (w'.alloc (.cells #[.int .i64 2, q1, q2, .string s, q4, .slice none 0 0, q6, .int .i64 0] 70)).cell? ⟨w'.heap.size, 0, none⟩ = some (.int .i64 2) := by rw [cell_of_row _ _ 0 _ 70 _ hx]; rfl
  have c3 : (w'.alloc (.cells #[.int .i64 2, q1, q2, .string s, q4, .slice none 0 0, q6, .int .i64 0] 70)).cell? ⟨w'.heap.size, 3, none⟩ = some (.string s) := by rw [cell_of_row _ _ 3 _ 70 _ hx]; rfl
  have c5 : (w'.alloc (.cells #[.int .i64 2, q1, q2, .string s, q4, .slice none 0 0, q6, .int .i64 0] 70)).cell? ⟨w'.heap.size, 5, none⟩ = some (.slice none 0 0) := by rw [cell_of_row _ _ 5 _ 70 _ hx]; rfl
  have HB : Hid (Below w'.heap.size w' (w'.alloc (.cells #[.int .i64 2, q1, q2, .string s, q4, .slice none 0 0, q6, .int .i64 0] 70))) := Lib.hid ((Below.refl _ _).alloc (Nat.le_refl _) _)
  have HM : Hid (((own9 2 s : Nat) : Int) = 1 + (s.size : Int)) := Lib.hid (by unfold own9; simp)
  have h4 : IntKind.i64.wrap (1 + (s.size : Int)) = 1 + (s.size : Int) := by rw [IntKind.wrap_i64]; omega
  clear hx hb
  go_enter Tryz.func57, Tryz.ntmps57
  go_upto_region 7 with (fail)
  go_loop [3, 22] (fun s3 s22 => s3 = .int .i64 (1 + (s.size : Int)) ∧ s22 = .int .i64 0) (fun _ _ => 0)
  case atStart => exact ⟨rfl, rfl⟩
  case round =>
    obtain ⟨rfl, rfl⟩ := hrel
    go_wp2
    go_ret
    exact ⟨by rw [HM.out]; rfl, HB.out⟩
set_option maxHeartbeats 1000000 in
theorem weigh_kids2 (w : World) (q1 q2 q4 q6 : Value) (s : ByteArray) (hs : s.size ≤ 100000) (g2 n c2 : Nat) (H : Nat → Nat) (hn : n ≤ 100000) (hnc : n ≤ c2) (hg : g2 < w.heap.size)
    (hK : ∀ j, j < n → KidW w g2 j (H j)) (ht : own9 2 s + sumH H n ≤ 1000000000) : Weighs w (.agg #[.int .i64 2, q1, q2, .string s, q4, .slice (some ⟨g2, 0, none⟩) n c2, q6, .int .i64 0]) (own9 2 s + sumH H n) := by
  intro w' hb
  have hx := heap_alloc_new w' (.cells #[.int .i64 2, q1, q2, .string s, q4, .slice (some ⟨g2, 0, none⟩) n c2, q6, .int .i64 0] 70)
  have c7 : (w'.alloc (.cells #[.int .i64 2, q1, q2, .string s, q4, .slice (some ⟨g2, 0, none⟩) n c2, q6, .int .i64 0] 70)).cell? ⟨w'.heap.size, 7, none⟩ = some (.int .i64 0) := by rw [cell_of_row _ _ 7 _ 70 _ hx]; rfl
  have c0 : (w'.alloc (.cells #[.int .i64 2, q1, q2, .string s, q4, .slice (some ⟨g2, 0, none⟩) n c2, q6, .int .i64 0] 70)).cell? ⟨w'.heap.size, 0, none⟩ = some (.int .i64 2) := by rw [cell_of_row _ _ 0 _ 70 _ hx]; rfl
  have c3 : (w'.alloc (.cells #[.int .i64 2, q1, q2, .string s, q4, .slice (some ⟨g2, 0, none⟩) n c2, q6, .int .i64 0] 70)).cell? ⟨w'.heap.size, 3, none⟩ = some (.string s) := by rw [cell_of_row _ _ 3 _ 70 _ hx]; rfl
  have c5 : (w'.alloc (.cells #[.int .i64 2, q1, q2, .string s, q4, .slice (some ⟨g2, 0, none⟩) n c2, q6, .int .i64 0] 70)).cell? ⟨w'.heap.size, 5, none⟩ = some (.slice (some ⟨g2, 0, none⟩) n c2) := by rw [cell_of_row _ _ 5 _ 70 _ hx]; rfl
  have HB : Hid (Below w'.heap.size w' (w'.alloc (.cells #[.int .i64 2, q1, q2, .string s, q4, .slice (some ⟨g2, 0, none⟩) n c2, q6, .int .i64 0] 70))) := Lib.hid ((Below.refl _ _).alloc (Nat.le_refl _) _)
  have hm : ((own9 2 s : Nat) : Int) = 1 + (s.size : Int) := by unfold own9; simp
  have hz : (w'.alloc (.cells #[.int .i64 2, q1, q2, .string s, q4, .slice (some ⟨g2, 0, none⟩) n c2, q6, .int .i64 0] 70)).heap.size = w'.heap.size + 1 := by simp
  have hKK : Hid (∀ j, j < n → KidW (w'.alloc (.cells #[.int .i64 2, q1, q2, .string s, q4, .slice (some ⟨g2, 0, none⟩) n c2, q6, .int .i64 0] 70)) g2 j (H j)) := Lib.hid fun j hj => (hK j hj).on hg (hb.trans (HB.out.mono hb.size))
  have hgz : g2 < w'.heap.size := Nat.lt_of_lt_of_le hg hb.size
  have HGZ := Lib.hid hgz
  have HZ := Lib.hid hz
  have h4 : IntKind.i64.wrap (1 + (s.size : Int)) = 1 + (s.size : Int) := by rw [IntKind.wrap_i64]; omega
  generalize own9 2 s = m0 at *
  have HM := Lib.hid hm
  have HT := Lib.hid ht
  clear hx hb hK hg hgz hz hm ht
  go_enter Tryz.func57, Tryz.ntmps57
  go_upto_region 7 with (fail)
  clear c0 c3 c5 c7
  try clear h4
  generalize (w'.alloc (.cells #[.int .i64 2, q1, q2, .string s, q4, .slice (some ⟨g2, 0, none⟩) n c2, q6, .int .i64 0] 70)) = w1 at *
  go_loopw [3, 22] (fun s3 s22 wr => ∃ j : Nat, j ≤ n ∧ s3 = .int .i64 ((m0 + sumH H j : Nat) : Int) ∧ s22 = .int .i64 (j : Int) ∧ Hid (Below w1.heap.size w1 wr)) (fun _ s22 _ => n - (intOf s22).toNat)
  case atStart => exact ⟨0, by omega, by rw [show ((m0 + sumH H 0 : Nat) : Int) = (m0 : Int) from rfl, HM.out], rfl, Lib.hid (Below.refl _ _)⟩
  case round =>
    obtain ⟨j, hj, rfl, rfl, HBR⟩ := hrel
    by_cases hjn : j < n
    · have hlt : (j : Int) < n := by omega
      obtain ⟨kd, ki, kb, kt, na, nn, nc, ka, kn, kc, fp, hv, ⟨a0, a1, a2, a3, a4, a5, a6, a7⟩, hW⟩ := (hKK.out j hjn).on (by rw [HZ.out]; have := HGZ.out; omega) HBR.out
      have HW := Lib.hid hW
      have hsum := sumH_le H (j + 1) n hjn
      have hs1 : sumH H (j + 1) = sumH H j + H j := rfl
      have hbd : ((m0 + sumH H j : Nat) : Int) + (H j : Int) ≤ 1073741824 := by have := HT.out; omega
      have hwr : IntKind.i64.wrap (((m0 + sumH H j : Nat) : Int) + (H j : Int)) = ((m0 + sumH H j : Nat) : Int) + (H j : Int) := by rw [IntKind.wrap_i64]; omega
      have hwj : IntKind.i64.wrap ((j : Int) + 1) = (j : Int) + 1 := by rw [IntKind.wrap_i64]; omega
      have hnx : ((m0 + sumH H j : Nat) : Int) + (H j : Int) = ((m0 + sumH H (j + 1) : Nat) : Int) := by rw [hs1]; omega
      have HNX := Lib.hid hnx
      clear hW hsum hs1 hnx
      generalize ((m0 + sumH H j : Nat) : Int) = acc at *
      have hY := heap_alloc_new wr (.cells #[.int .i64 kd, .int .i64 ki, .int .u64 kb, .string kt, .slice na nn nc, .slice ka kn kc, .pointer fp, .int .i64 hv] 70)
      have b0 : (wr.alloc (.cells #[.int .i64 kd, .int .i64 ki, .int .u64 kb, .string kt, .slice na nn nc, .slice ka kn kc, .pointer fp, .int .i64 hv] 70)).cell? ⟨wr.heap.size, 0, none⟩ = some (.int .i64 kd) := by rw [cell_of_row _ _ 0 _ 70 _ hY]; rfl
      have b1 : (wr.alloc (.cells #[.int .i64 kd, .int .i64 ki, .int .u64 kb, .string kt, .slice na nn nc, .slice ka kn kc, .pointer fp, .int .i64 hv] 70)).cell? ⟨wr.heap.size, 1, none⟩ = some (.int .i64 ki) := by rw [cell_of_row _ _ 1 _ 70 _ hY]; rfl
      have b2 : (wr.alloc (.cells #[.int .i64 kd, .int .i64 ki, .int .u64 kb, .string kt, .slice na nn nc, .slice ka kn kc, .pointer fp, .int .i64 hv] 70)).cell? ⟨wr.heap.size, 2, none⟩ = some (.int .u64 kb) := by rw [cell_of_row _ _ 2 _ 70 _ hY]; rfl
      have b3 : (wr.alloc (.cells #[.int .i64 kd, .int .i64 ki, .int .u64 kb, .string kt, .slice na nn nc, .slice ka kn kc, .pointer fp, .int .i64 hv] 70)).cell? ⟨wr.heap.size, 3, none⟩ = some (.string kt) := by rw [cell_of_row _ _ 3 _ 70 _ hY]; rfl
      have b4 : (wr.alloc (.cells #[.int .i64 kd, .int .i64 ki, .int .u64 kb, .string kt, .slice na nn nc, .slice ka kn kc, .pointer fp, .int .i64 hv] 70)).cell? ⟨wr.heap.size, 4, none⟩ = some (.slice na nn nc) := by rw [cell_of_row _ _ 4 _ 70 _ hY]; rfl
      have b5 : (wr.alloc (.cells #[.int .i64 kd, .int .i64 ki, .int .u64 kb, .string kt, .slice na nn nc, .slice ka kn kc, .pointer fp, .int .i64 hv] 70)).cell? ⟨wr.heap.size, 5, none⟩ = some (.slice ka kn kc) := by rw [cell_of_row _ _ 5 _ 70 _ hY]; rfl
      have b6 : (wr.alloc (.cells #[.int .i64 kd, .int .i64 ki, .int .u64 kb, .string kt, .slice na nn nc, .slice ka kn kc, .pointer fp, .int .i64 hv] 70)).cell? ⟨wr.heap.size, 6, none⟩ = some (.pointer fp) := by rw [cell_of_row _ _ 6 _ 70 _ hY]; rfl
      have b7 : (wr.alloc (.cells #[.int .i64 kd, .int .i64 ki, .int .u64 kb, .string kt, .slice na nn nc, .slice ka kn kc, .pointer fp, .int .i64 hv] 70)).cell? ⟨wr.heap.size, 7, none⟩ = some (.int .i64 hv) := by rw [cell_of_row _ _ 7 _ 70 _ hY]; rfl
      have hBA : Below wr.heap.size wr (wr.alloc (.cells #[.int .i64 kd, .int .i64 ki, .int .u64 kb, .string kt, .slice na nn nc, .slice ka kn kc, .pointer fp, .int .i64 hv] 70)) := (Below.refl _ _).alloc (Nat.le_refl _) _
      have HBA := Lib.hid hBA
      clear hY hBA
      go_upto_region 9 with (fail)
      clear a0 a1 a2 a3 a4 a5 a6 a7
      go_wp2_with (go_at_call 57; refine (HW.out _ HBA.out).mono ?_; rintro e w5 ⟨rfl, hb5⟩)
      go_roundw
      case rel => exact ⟨j + 1, by omega, by rw [HNX.out], rfl, Lib.hid (HBR.out.trans ((HBA.out.trans (hb5.mono HBA.out.size)).mono HBR.out.size))⟩
      case measure => simp [intOf]; omega
    · have hjn2 : ¬ (j : Int) < n := by omega
      obtain rfl : j = n := by omega
      go_wp2
      go_ret
      exact ⟨rfl, HB.out.trans (HBR.out.mono HB.out.size)⟩
theorem weigh_leaf (w : World) (kz : Int) (q1 q2 q4 q6 : Value) (s : ByteArray) (hkz : kz ≠ 2) (hs : s.size ≤ 100000) : Weighs w (.agg #[.int .i64 kz, q1, q2, .string s, q4, .slice none 0 0, q6, .int .i64 0]) (own9 kz s) := by
  intro w' hb
  have hx := heap_alloc_new w' (.cells #[.int .i64 kz, q1, q2, .string s, q4, .slice none 0 0, q6, .int .i64 0] 70)
  have c7 : (w'.alloc (.cells #[.int .i64 kz, q1, q2, .string s, q4, .slice none 0 0, q6, .int .i64 0] 70)).cell? ⟨w'.heap.size, 7, none⟩ = some (.int .i64 0) := by rw [cell_of_row _ _ 7 _ 70 _ hx]; rfl
  have c0 : (w'.alloc (.cells #[.int .i64 kz, q1, q2, .string s, q4, .slice none 0 0, q6, .int .i64 0] 70)).cell? ⟨w'.heap.size, 0, none⟩ = some (.int .i64 kz) := by rw [cell_of_row _ _ 0 _ 70 _ hx]; rfl
  have c3 : (w'.alloc (.cells #[.int .i64 kz, q1, q2, .string s, q4, .slice none 0 0, q6, .int .i64 0] 70)).cell? ⟨w'.heap.size, 3, none⟩ = some (.string s) := by rw [cell_of_row _ _ 3 _ 70 _ hx]; rfl
  have c5 : (w'.alloc (.cells #[.int .i64 kz, q1, q2, .string s, q4, .slice none 0 0, q6, .int .i64 0] 70)).cell? ⟨w'.heap.size, 5, none⟩ = some (.slice none 0 0) := by rw [cell_of_row _ _ 5 _ 70 _ hx]; rfl
  have HB : Hid (Below w'.heap.size w' (w'.alloc (.cells #[.int .i64 kz, q1, q2, .string s, q4, .slice none 0 0, q6, .int .i64 0] 70))) := Lib.hid ((Below.refl _ _).alloc (Nat.le_refl _) _)
  have HM : Hid (((own9 kz s : Nat) : Int) = 1) := Lib.hid (by unfold own9; rw [if_neg hkz]; rfl)
  have h4 : (kz == 2) = false := by simpa using hkz
  clear hx hb
  go_enter Tryz.func57, Tryz.ntmps57
  go_upto_region 7 with (fail)
  go_loop [3, 22] (fun s3 s22 => s3 = .int .i64 (1) ∧ s22 = .int .i64 0) (fun _ _ => 0)
  case atStart => exact ⟨rfl, rfl⟩
  case round =>
    obtain ⟨rfl, rfl⟩ := hrel
    go_wp2
    go_ret
    exact ⟨by rw [HM.out]; rfl, HB.out⟩
set_option maxHeartbeats 1000000 in
theorem weigh_kids (w : World) (kz : Int) (q1 q2 q4 q6 : Value) (s : ByteArray) (hkz : kz ≠ 2) (hs : s.size ≤ 100000) (g2 n c2 : Nat) (H : Nat → Nat) (hn : n ≤ 100000) (hnc : n ≤ c2) (hg : g2 < w.heap.size)
    (hK : ∀ j, j < n → KidW w g2 j (H j)) (ht : own9 kz s + sumH H n ≤ 1000000000) : Weighs w (.agg #[.int .i64 kz, q1, q2, .string s, q4, .slice (some ⟨g2, 0, none⟩) n c2, q6, .int .i64 0]) (own9 kz s + sumH H n) := by
  intro w' hb
  have hx := heap_alloc_new w' (.cells #[.int .i64 kz, q1, q2, .string s, q4, .slice (some ⟨g2, 0, none⟩) n c2, q6, .int .i64 0] 70)
  have c7 : (w'.alloc (.cells #[.int .i64 kz, q1, q2, .string s, q4, .slice (some ⟨g2, 0, none⟩) n c2, q6, .int .i64 0] 70)).cell? ⟨w'.heap.size, 7, none⟩ = some (.int .i64 0) := by rw [cell_of_row _ _ 7 _ 70 _ hx]; rfl
  have c0 : (w'.alloc (.cells #[.int .i64 kz, q1, q2, .string s, q4, .slice (some ⟨g2, 0, none⟩) n c2, q6, .int .i64 0] 70)).cell? ⟨w'.heap.size, 0, none⟩ = some (.int .i64 kz) := by rw [cell_of_row _ _ 0 _ 70 _ hx]; rfl
  have c3 : (w'.alloc (.cells #[.int .i64 kz, q1, q2, .string s, q4, .slice (some ⟨g2, 0, none⟩) n c2, q6, .int .i64 0] 70)).cell? ⟨w'.heap.size, 3, none⟩ = some (.string s) := by rw [cell_of_row _ _ 3 _ 70 _ hx]; rfl
  have c5 : (w'.alloc (.cells #[.int .i64 kz, q1, q2, .string s, q4, .slice (some ⟨g2, 0, none⟩) n c2, q6, .int .i64 0] 70)).cell? ⟨w'.heap.size, 5, none⟩ = some (.slice (some ⟨g2, 0, none⟩) n c2) := by rw [cell_of_row _ _ 5 _ 70 _ hx]; rfl
  have HB : Hid (Below w'.heap.size w' (w'.alloc (.cells #[.int .i64 kz, q1, q2, .string s, q4, .slice (some ⟨g2, 0, none⟩) n c2, q6, .int .i64 0] 70))) := Lib.hid ((Below.refl _ _).alloc (Nat.le_refl _) _)
  have hm : ((own9 kz s : Nat) : Int) = 1 := by unfold own9; rw [if_neg hkz]; rfl
  have hz : (w'.alloc (.cells #[.int .i64 kz, q1, q2, .string s, q4, .slice (some ⟨g2, 0, none⟩) n c2, q6, .int .i64 0] 70)).heap.size = w'.heap.size + 1 := by simp
  have hKK : Hid (∀ j, j < n → KidW (w'.alloc (.cells #[.int .i64 kz, q1, q2, .string s, q4, .slice (some ⟨g2, 0, none⟩) n c2, q6, .int .i64 0] 70)) g2 j (H j)) := Lib.hid fun j hj => (hK j hj).on hg (hb.trans (HB.out.mono hb.size))
  have hgz : g2 < w'.heap.size := Nat.lt_of_lt_of_le hg hb.size
  have HGZ := Lib.hid hgz
  have HZ := Lib.hid hz
  have h4 : (kz == 2) = false := by simpa using hkz
  generalize own9 kz s = m0 at *
  have HM := Lib.hid hm
  have HT := Lib.hid ht
  clear hx hb hK hg hgz hz hm ht
  go_enter Tryz.func57, Tryz.ntmps57
  go_upto_region 7 with (fail)
  clear c0 c3 c5 c7
  try clear h4
  generalize (w'.alloc (.cells #[.int .i64 kz, q1, q2, .string s, q4, .slice (some ⟨g2, 0, none⟩) n c2, q6, .int .i64 0] 70)) = w1 at *
  go_loopw [3, 22] (fun s3 s22 wr => ∃ j : Nat, j ≤ n ∧ s3 = .int .i64 ((m0 + sumH H j : Nat) : Int) ∧ s22 = .int .i64 (j : Int) ∧ Hid (Below w1.heap.size w1 wr)) (fun _ s22 _ => n - (intOf s22).toNat)
  case atStart => exact ⟨0, by omega, by rw [show ((m0 + sumH H 0 : Nat) : Int) = (m0 : Int) from rfl, HM.out], rfl, Lib.hid (Below.refl _ _)⟩
  case round =>
    obtain ⟨j, hj, rfl, rfl, HBR⟩ := hrel
    by_cases hjn : j < n
    · have hlt : (j : Int) < n := by omega
      obtain ⟨kd, ki, kb, kt, na, nn, nc, ka, kn, kc, fp, hv, ⟨a0, a1, a2, a3, a4, a5, a6, a7⟩, hW⟩ := (hKK.out j hjn).on (by rw [HZ.out]; have := HGZ.out; omega) HBR.out
      have HW := Lib.hid hW
      have hsum := sumH_le H (j + 1) n hjn
      have hs1 : sumH H (j + 1) = sumH H j + H j := rfl
      have hbd : ((m0 + sumH H j : Nat) : Int) + (H j : Int) ≤ 1073741824 := by have := HT.out; omega
      have hwr : IntKind.i64.wrap (((m0 + sumH H j : Nat) : Int) + (H j : Int)) = ((m0 + sumH H j : Nat) : Int) + (H j : Int) := by rw [IntKind.wrap_i64]; omega
      have hwj : IntKind.i64.wrap ((j : Int) + 1) = (j : Int) + 1 := by rw [IntKind.wrap_i64]; omega
      have hnx : ((m0 + sumH H j : Nat) : Int) + (H j : Int) = ((m0 + sumH H (j + 1) : Nat) : Int) := by rw [hs1]; omega
      have HNX := Lib.hid hnx
      clear hW hsum hs1 hnx
      generalize ((m0 + sumH H j : Nat) : Int) = acc at *
      have hY := heap_alloc_new wr (.cells #[.int .i64 kd, .int .i64 ki, .int .u64 kb, .string kt, .slice na nn nc, .slice ka kn kc, .pointer fp, .int .i64 hv] 70)
      have b0 : (wr.alloc (.cells #[.int .i64 kd, .int .i64 ki, .int .u64 kb, .string kt, .slice na nn nc, .slice ka kn kc, .pointer fp, .int .i64 hv] 70)).cell? ⟨wr.heap.size, 0, none⟩ = some (.int .i64 kd) := by rw [cell_of_row _ _ 0 _ 70 _ hY]; rfl
      have b1 : (wr.alloc (.cells #[.int .i64 kd, .int .i64 ki, .int .u64 kb, .string kt, .slice na nn nc, .slice ka kn kc, .pointer fp, .int .i64 hv] 70)).cell? ⟨wr.heap.size, 1, none⟩ = some (.int .i64 ki) := by rw [cell_of_row _ _ 1 _ 70 _ hY]; rfl
      have b2 : (wr.alloc (.cells #[.int .i64 kd, .int .i64 ki, .int .u64 kb, .string kt, .slice na nn nc, .slice ka kn kc, .pointer fp, .int .i64 hv] 70)).cell? ⟨wr.heap.size, 2, none⟩ = some (.int .u64 kb) := by rw [cell_of_row _ _ 2 _ 70 _ hY]; rfl
      have b3 : (wr.alloc (.cells #[.int .i64 kd, .int .i64 ki, .int .u64 kb, .string kt, .slice na nn nc, .slice ka kn kc, .pointer fp, .int .i64 hv] 70)).cell? ⟨wr.heap.size, 3, none⟩ = some (.string kt) := by rw [cell_of_row _ _ 3 _ 70 _ hY]; rfl
      have b4 : (wr.alloc (.cells #[.int .i64 kd, .int .i64 ki, .int .u64 kb, .string kt, .slice na nn nc, .slice ka kn kc, .pointer fp, .int .i64 hv] 70)).cell? ⟨wr.heap.size, 4, none⟩ = some (.slice na nn nc) := by rw [cell_of_row _ _ 4 _ 70 _ hY]; rfl
      have b5 : (wr.alloc (.cells #[.int .i64 kd, .int .i64 ki, .int .u64 kb, .string kt, .slice na nn nc, .slice ka kn kc, .pointer fp, .int .i64 hv] 70)).cell? ⟨wr.heap.size, 5, none⟩ = some (.slice ka kn kc) := by rw [cell_of_row _ _ 5 _ 70 _ hY]; rfl
      have b6 : (wr.alloc (.cells #[.int .i64 kd, .int .i64 ki, .int .u64 kb, .string kt, .slice na nn nc, .slice ka kn kc, .pointer fp, .int .i64 hv] 70)).cell? ⟨wr.heap.size, 6, none⟩ = some (.pointer fp) := by rw [cell_of_row _ _ 6 _ 70 _ hY]; rfl
      have b7 : (wr.alloc (.cells #[.int .i64 kd, .int .i64 ki, .int .u64 kb, .string kt, .slice na nn nc, .slice ka kn kc, .pointer fp, .int .i64 hv] 70)).cell? ⟨wr.heap.size, 7, none⟩ = some (.int .i64 hv) := by rw [cell_of_row _ _ 7 _ 70 _ hY]; rfl
      have hBA : Below wr.heap.size wr (wr.alloc (.cells #[.int .i64 kd, .int .i64 ki, .int .u64 kb, .string kt, .slice na nn nc, .slice ka kn kc, .pointer fp, .int .i64 hv] 70)) := (Below.refl _ _).alloc (Nat.le_refl _) _
      have HBA := Lib.hid hBA
      clear hY hBA
      go_upto_region 9 with (fail)
      clear a0 a1 a2 a3 a4 a5 a6 a7
      go_wp2_with (go_at_call 57; refine (HW.out _ HBA.out).mono ?_; rintro e w5 ⟨rfl, hb5⟩)
      go_roundw
      case rel => exact ⟨j + 1, by omega, by rw [HNX.out], rfl, Lib.hid (HBR.out.trans ((HBA.out.trans (hb5.mono HBA.out.size)).mono HBR.out.size))⟩
      case measure => simp [intOf]; omega
    · have hjn2 : ¬ (j : Int) < n := by omega
      obtain rfl : j = n := by omega
      go_wp2
      go_ret
      exact ⟨rfl, HB.out.trans (HBR.out.mono HB.out.size)⟩
end Go.Proofs.YtoakfninndkgaaaGreatDoor.Val
set_option linter.unusedVariables false
namespace Go.Proofs.YtoakfninndkgaaaGreatDoor.Val
open Go.RowKit
/-- a value's parts, one for each cell. -/
structure Kid where
  kd : Int
  ki : Int
  kb : Int
  kt : ByteArray
  na : Option Addr
  nn : Nat
  nc : Nat
  ka : Option Addr
  kn : Nat
  kc : Nat
  fp : Option Addr
  hv : Int
def Kid.cells (k : Kid) : List Value := [.int .i64 k.kd, .int .i64 k.ki, .int .u64 k.kb, .string k.kt, .slice k.na k.nn k.nc, .slice k.ka k.kn k.kc, .pointer k.fp, .int .i64 k.hv]
def Kid.val (k : Kid) : Value := .agg #[.int .i64 k.kd, .int .i64 k.ki, .int .u64 k.kb, .string k.kt, .slice k.na k.nn k.nc, .slice k.ka k.kn k.kc, .pointer k.fp, .int .i64 k.hv]
theorem Kid.cells_len (k : Kid) : k.cells.length = 8 := rfl
def bl (a b : ByteArray) : Bool := Op.bytesLess a.toList b.toList
theorem toList_inj {a b : ByteArray} (h : a.toList = b.toList) : a = b := by
  rw [Lib.toList_data, Lib.toList_data] at h
  exact ByteArray.ext (Array.toList_inj.1 h)
theorem less_lex : ∀ (x y : List UInt8), Op.bytesLess x y = decide (x < y)
  | [], [] => by simp [Op.bytesLess]
  | _ :: _, [] => by simp [Op.bytesLess]
  | [], _ :: _ => by simp [Op.bytesLess]
  | a :: x, b :: y => by
    rw [Op.bytesLess, less_lex x y]
    simp only [List.cons_lt_cons_iff]
    by_cases h1 : a < b <;> by_cases h2 : a = b <;> by_cases h3 : x < y <;> simp [h1, h2, h3]
theorem bl_irrefl (a : ByteArray) : bl a a = false := by
  unfold bl; rw [less_lex]; exact decide_eq_false (List.lt_irrefl _)
theorem bl_trans {a b c : ByteArray} (h : bl a b = true) (h2 : bl b c = true) : bl a c = true := by
  unfold bl at *; rw [less_lex] at *
  exact decide_eq_true (List.lt_trans (of_decide_eq_true h) (of_decide_eq_true h2))
theorem bl_tri {a b : ByteArray} (h : bl a b = false) (h2 : bl b a = false) : a = b := by
  unfold bl at *; rw [less_lex] at *
  exact toList_inj (List.le_antisymm (of_decide_eq_false h2) (of_decide_eq_false h))
theorem bl_asymm {a b : ByteArray} (h : bl a b = true) : bl b a = false := by
  cases hb : bl b a with
  | false => rfl
  | true => have := bl_trans h hb; rw [bl_irrefl] at this; cases this
abbrev Ent := ByteArray × Kid
/-- the names rise. -/
def Rises : List Ent → Prop
  | [] => True
  | e :: l => (∀ f ∈ l, bl e.1 f.1 = true) ∧ Rises l
def names (E : List Ent) : List ByteArray := E.map (·.1)
def cells (E : List Ent) : List Value := E.flatMap (·.2.cells)
/-- how many names are less. -/
def lowP : List Ent → ByteArray → Nat
  | [], _ => 0
  | e :: l, x => if bl e.1 x then lowP l x + 1 else 0
/-- a name's kid. -/
def getE : List Ent → ByteArray → Option Kid
  | [], _ => none
  | e :: l, x => if e.1 = x then some e.2 else getE l x
/-- put in order, if it is not there. -/
def insE : List Ent → ByteArray → Kid → List Ent
  | [], x, k => [(x, k)]
  | e :: l, x, k => if bl e.1 x then e :: insE l x k else if e.1 = x then e :: l else (x, k) :: e :: l
theorem lowP_cons (e : Ent) (l : List Ent) (x : ByteArray) : lowP (e :: l) x = if bl e.1 x then lowP l x + 1 else 0 := rfl
theorem getE_cons (e : Ent) (l : List Ent) (x : ByteArray) : getE (e :: l) x = if e.1 = x then some e.2 else getE l x := rfl
theorem insE_cons (e : Ent) (l : List Ent) (x : ByteArray) (k : Kid) : insE (e :: l) x k = if bl e.1 x then e :: insE l x k else if e.1 = x then e :: l else (x, k) :: e :: l := rfl
theorem lowP_le (E : List Ent) (x : ByteArray) : lowP E x ≤ E.length := by
  induction E with
  | nil => exact Nat.le_refl _
  | cons e l ih => rw [lowP_cons]; split <;> simp <;> omega
theorem part_of (E : List Ent) (x : ByteArray) (h : Rises E) : ∀ k s, (names E)[k]? = some s → bl s x = decide (k < lowP E x) := by
  induction E with
  | nil => intro k s hs; simp [names] at hs
  | cons e l ih =>
    intro k s hs
    cases k with
    | zero =>
      obtain rfl : e.1 = s := by simpa [names] using hs
      rw [lowP_cons]
      cases hb : bl e.1 x <;> simp
    | succ k =>
      have hs' : (names l)[k]? = some s := by simpa [names] using hs
      cases hb : bl e.1 x with
      | true => rw [ih h.2 k s hs', lowP_cons, if_pos hb]; simp
      | false =>
        have h0 : lowP (e :: l) x = 0 := by rw [lowP_cons, hb]; rfl
        rw [h0]
        obtain ⟨f, hf, rfl⟩ := List.mem_map.1 (List.mem_of_getElem? hs')
        cases hc : bl f.1 x with
        | false => simp
        | true => have := bl_trans (h.1 f hf) hc; rw [hb] at this; cases this
theorem low_low (E : List Ent) (x : ByteArray) (h : Rises E) : (∃ k, getE E x = some k) ↔ isAt (names E) (lowP E x) x = true := by
  induction E with
  | nil => simp [getE, isAt, names]
  | cons e l ih =>
    by_cases hb : bl e.1 x = true
    · have hne : e.1 ≠ x := fun e' => by rw [e', bl_irrefl] at hb; cases hb
      have h1 : getE (e :: l) x = getE l x := by rw [getE_cons, if_neg hne]
      have h2 : isAt (names (e :: l)) (lowP (e :: l) x) x = isAt (names l) (lowP l x) x := by rw [lowP_cons, if_pos hb]; unfold isAt; simp [names]
      rw [h1, h2]
      exact ih h.2
    · have hb' : bl e.1 x = false := by simpa using hb
      have h2 : isAt (names (e :: l)) (lowP (e :: l) x) x = (e.1.toList == x.toList) := by rw [lowP_cons, hb']; unfold isAt; simp [names]
      rw [h2]
      by_cases he : e.1 = x
      · rw [getE_cons, if_pos he]; simp [he]
      · have h3 : (e.1.toList == x.toList) = false := by
          cases hh : (e.1.toList == x.toList) with
          | false => rfl
          | true => exact absurd (toList_inj (by simpa using hh)) he
        rw [h3]
        rw [getE_cons, if_neg he]
        have hno : ∀ l' : List Ent, (∀ f ∈ l', bl e.1 f.1 = true) → getE l' x = none := by
          intro l' hl'
          induction l' with
          | nil => rfl
          | cons f r ihr =>
            rw [getE_cons, if_neg (fun e' => by have := hl' f (List.mem_cons_self ..); rw [e'] at this; rw [this] at hb'; cases hb')]
            exact ihr (fun g hg => hl' g (List.mem_cons_of_mem _ hg))
        rw [hno l h.1]
        simp
theorem take_past {A B : List Value} {n m : Nat} (h : A.length = n) : (A ++ B).take (n + m) = A ++ B.take m := by
  rw [List.take_append, h, List.take_of_length_le (by omega)]; simp
theorem drop_past {A B : List Value} {n m : Nat} (h : A.length = n) : (A ++ B).drop (n + m) = B.drop m := by
  rw [List.drop_append, h, List.drop_eq_nil_of_le (by omega)]; simp
theorem at_cons_lt (e : Ent) (l : List Ent) (x : ByteArray) (hb : bl e.1 x = true) : isAt (names (e :: l)) (lowP (e :: l) x) x = isAt (names l) (lowP l x) x := by rw [lowP_cons, if_pos hb]; unfold isAt; simp [names]
theorem at_cons_ge (e : Ent) (l : List Ent) (x : ByteArray) (hb : bl e.1 x = false) : isAt (names (e :: l)) (lowP (e :: l) x) x = (e.1.toList == x.toList) := by rw [lowP_cons, hb]; unfold isAt; simp [names]
theorem insE_old (E : List Ent) (x : ByteArray) (k : Kid) (h : isAt (names E) (lowP E x) x = true) : insE E x k = E := by
  induction E with
  | nil => simp [isAt, names] at h
  | cons e l ih =>
    rw [insE_cons]
    by_cases hb : bl e.1 x = true
    · rw [if_pos hb, ih (by rw [at_cons_lt e l x hb] at h; exact h)]
    · have hb' : bl e.1 x = false := by simpa using hb
      rw [at_cons_ge e l x hb'] at h
      rw [if_neg hb, if_pos (toList_inj (by simpa using h))]
theorem cells_cons (e : Ent) (l : List Ent) : cells (e :: l) = e.2.cells ++ cells l := rfl
theorem insE_new (E : List Ent) (x : ByteArray) (k : Kid) (h : isAt (names E) (lowP E x) x = false) :
    names (insE E x k) = (names E).take (lowP E x) ++ [x] ++ (names E).drop (lowP E x) ∧ cells (insE E x k) = (cells E).take (lowP E x * 8) ++ k.cells ++ (cells E).drop (lowP E x * 8) ∧ (insE E x k).length = E.length + 1 := by
  induction E with
  | nil => simp [insE, names, cells, lowP]
  | cons e l ih =>
    rw [insE_cons]
    by_cases hb : bl e.1 x = true
    · rw [at_cons_lt e l x hb] at h
      obtain ⟨h1, h2, h3⟩ := ih h
      rw [if_pos hb, lowP_cons, if_pos hb]
      refine ⟨?_, ?_, by simp [h3]⟩
      · have : names (e :: insE l x k) = e.1 :: names (insE l x k) := rfl
        rw [this, h1]
        simp [names]
      · rw [cells_cons, cells_cons, h2, show (lowP l x + 1) * 8 = 8 + lowP l x * 8 by omega]
        have h8 : e.2.cells.length = 8 := rfl
        rw [take_past h8, drop_past h8]
        simp
    · have hb' : bl e.1 x = false := by simpa using hb
      have hne : e.1 ≠ x := fun e' => by rw [at_cons_ge e l x hb', e'] at h; simp at h
      rw [if_neg hb, if_neg hne, lowP_cons, if_neg hb]
      simp [names, cells]
theorem insE_mem (E : List Ent) (x : ByteArray) (k : Kid) : ∀ f ∈ insE E x k, f = (x, k) ∨ f ∈ E := by
  induction E with
  | nil => intro f hf; simp [insE] at hf; exact Or.inl hf
  | cons e l ih =>
    intro f hf
    rw [insE_cons] at hf
    split at hf
    · rcases List.mem_cons.1 hf with rfl | hf
      · exact Or.inr (List.mem_cons_self ..)
      · rcases ih f hf with h | h
        · exact Or.inl h
        · exact Or.inr (List.mem_cons_of_mem _ h)
    · split at hf
      · exact Or.inr hf
      · rcases List.mem_cons.1 hf with rfl | hf
        · exact Or.inl rfl
        · exact Or.inr hf
theorem insE_rises (E : List Ent) (x : ByteArray) (k : Kid) (h : Rises E) : Rises (insE E x k) := by
  induction E with
  | nil => exact ⟨fun f hf => (by cases hf), True.intro⟩
  | cons e l ih =>
    rw [insE_cons]
    split
    · rename_i hb
      refine ⟨fun f hf => ?_, ih h.2⟩
      rcases insE_mem l x k f hf with rfl | hf
      · exact hb
      · exact h.1 f hf
    · rename_i hb
      split
      · exact h
      · rename_i hne
        have hb' : bl e.1 x = false := by simpa using hb
        have hxe : bl x e.1 = true := by
          cases hx : bl x e.1 with
          | true => rfl
          | false => exact absurd (bl_tri hb' hx) hne
        refine ⟨fun f hf => ?_, h⟩
        rcases List.mem_cons.1 hf with rfl | hf
        · exact hxe
        · exact bl_trans hxe (h.1 f hf)
theorem getE_ins (E : List Ent) (x y : ByteArray) (k : Kid) (h : Rises E) : getE (insE E x k) y = match getE E y with
    | some u => some u
    | none => if x = y then some k else none := by
  induction E with
  | nil => simp [insE, getE]
  | cons e l ih =>
    rw [insE_cons]
    split
    · rename_i hb
      rw [getE_cons, getE_cons]
      split
      · rfl
      · exact ih h.2
    · rename_i hb
      have hb' : bl e.1 x = false := by simpa using hb
      split
      · rename_i he
        cases hg : getE (e :: l) y with
        | some u => rfl
        | none =>
          rw [getE_cons] at hg
          split at hg
          · cases hg
          · rename_i hne
            simp only
            rw [if_neg (fun e' => hne (by rw [he, e']))]
      · rename_i hne
        rw [getE_cons]
        by_cases hxy : x = y
        · rw [if_pos hxy]
          subst hxy
          have : getE (e :: l) x = none := by
            cases hg : getE (e :: l) x with
            | none => rfl
            | some u =>
              have := (low_low (e :: l) x h).1 ⟨u, hg⟩
              rw [at_cons_ge e l x hb'] at this
              exact absurd (toList_inj (by simpa using this)) hne
          rw [this]
          simp
        · rw [if_neg hxy]
          cases hg : getE (e :: l) y with
          | some u => rfl
          | none => simp [hxy]
end Go.Proofs.YtoakfninndkgaaaGreatDoor.Val
set_option linter.unusedVariables false
namespace Go.Proofs.YtoakfninndkgaaaGreatDoor.Val
open Go.RowKit
/-- the box at block Bk shows the list E. -/
structure BX (w : World) (base Bk : Nat) (E : List Ent) : Prop where
  ex : ∃ vn vk, w.heap[Bk]? = some (.cells #[vn, vk] 120 (0, 0)) ∧ w.ownsRow base 9 1 vn E.length ((names E).map Value.string) ∧ w.ownsRow base 70 8 vk E.length (cells E)
  rises : Rises E
theorem BX.on {w w' : World} {base Bk : Nat} {E : List Ent} (h : BX w base Bk E) (hb : ∀ k, k < w.heap.size → w'.heap[k]? = w.heap[k]?) : BX w' base Bk E := by
  obtain ⟨⟨vn, vk, h1, h2, h3⟩, hr⟩ := h
  refine ⟨⟨vn, vk, ?_, ?_, ?_⟩, hr⟩
  · rw [hb Bk (Array.getElem?_eq_some_iff.1 h1).1]; exact h1
  · refine ⟨h2.1, ?_⟩
    rcases h2.2 with h' | ⟨g, cap, cur, e1, e2, e3, e4⟩
    · exact Or.inl h'
    · exact Or.inr ⟨g, cap, cur, e1, e2, by rw [hb g (Array.getElem?_eq_some_iff.1 e3).1]; exact e3, e4⟩
  · refine ⟨h3.1, ?_⟩
    rcases h3.2 with h' | ⟨g, cap, cur, e1, e2, e3, e4⟩
    · exact Or.inl h'
    · exact Or.inr ⟨g, cap, cur, e1, e2, by rw [hb g (Array.getElem?_eq_some_iff.1 e3).1]; exact e3, e4⟩
theorem cells_one (E : List Ent) : ∀ u ∈ cells E, u.oneCell' = true := by
  intro u hu
  obtain ⟨e, -, hu⟩ := List.mem_flatMap.1 hu
  have : ∀ u ∈ e.2.cells, u.oneCell' = true := by
    intro u hu
    simp [Kid.cells] at hu
    rcases hu with rfl | rfl | rfl | rfl | rfl | rfl | rfl | rfl <;> rfl
  exact this u hu
theorem insert_BX (w : World) (base Bk : Nat) (E : List Ent) (x : ByteArray) (k : Kid) (h : BX w base Bk E) (hn : E.length ≤ 99998) (hb : base ≤ w.heap.size) (hBk : base ≤ Bk) :
    Calls Tryz.prog 56 #[.pointer (some ⟨Bk, 0, none⟩), .string x, k.val] w fun e w' => e = .returned (.tuple #[]) ∧ BX w' base Bk (insE E x k) ∧ Below base w w' := by
  obtain ⟨⟨vn, vk, h1, h2, h3⟩, hr⟩ := h
  have hpart := part_of E x hr
  cases hat : isAt (names E) (lowP E x) x with
  | true =>
    rw [insE_old E x k hat]
    refine (insert_old w base Bk E.length (lowP E x) (names E) _ _ _ _ _ _ _ _ vn vk x (by simp [names]) hn h1 h2 (lowP_le E x) hpart hat).mono ?_
    rintro e w' ⟨rfl, rfl⟩
    exact ⟨rfl, (BX.on ⟨⟨vn, vk, h1, h2, h3⟩, hr⟩ (fun j hj => Below.heap_alloc w _ j hj)), (Below.refl _ _).alloc hb _⟩
  | false =>
    obtain ⟨n1, n2, n3⟩ := insE_new E x k hat
    refine (insert_new w base Bk E.length (lowP E x) (names E) (cells E) _ _ _ _ _ _ _ _ vn vk x (by simp [names]) hn h1 h2 h3 (cells_one E) ?_ (lowP_le E x) hpart hat hb).mono ?_
    · intro u hu
      simp at hu
      rcases hu with rfl | rfl | rfl | rfl | rfl | rfl | rfl | rfl <;> rfl
    rintro e w' ⟨rfl, hE⟩
    obtain ⟨g1, c1, g2, c2, r1, r2, r3⟩ := hE.rows
    refine ⟨rfl, ⟨⟨_, _, r1, ?_, ?_⟩, insE_rises E x k hr⟩, ⟨hE.os, hE.tape, hE.output, hE.size, fun j hj => hE.block j (by omega) (by omega) ?_ ?_⟩⟩
    · rw [n3, n1]
      simpa [List.map_take, List.map_drop] using r2
    · rw [n3, n2]
      exact r3
    · intro e; have := ownsRow_ge h2 j e; omega
    · intro e; have := ownsRow_ge h3 j e; omega
end Go.Proofs.YtoakfninndkgaaaGreatDoor.Val
set_option linter.unusedVariables false
namespace Go.Proofs.YtoakfninndkgaaaGreatDoor.Val
open Go.RowKit
/-- the list behind the first j pairs. -/
def upE (P : List Ent) (j : Nat) : List Ent := (P.take j).foldl (fun E e => insE E e.1 e.2) []
theorem upE_zero (P : List Ent) : upE P 0 = [] := rfl
theorem upE_succ (P : List Ent) (j : Nat) (e : Ent) (h : P[j]? = some e) : upE P (j + 1) = insE (upE P j) e.1 e.2 := by
  unfold upE
  rw [List.take_add_one, h, List.foldl_append]
  rfl
theorem insE_len (E : List Ent) (x : ByteArray) (k : Kid) : (insE E x k).length ≤ E.length + 1 := by
  induction E with
  | nil => simp [insE]
  | cons e l ih =>
    rw [insE_cons]
    split
    · simp; omega
    · split <;> simp
theorem upE_len (P : List Ent) (j : Nat) (h : j ≤ P.length) : (upE P j).length ≤ j := by
  induction j with
  | zero => simp [upE_zero]
  | succ j ih =>
    obtain ⟨e, he⟩ : ∃ e, P[j]? = some e := ⟨_, List.getElem?_eq_getElem (by omega)⟩
    rw [upE_succ P j e he]
    exact Nat.le_trans (insE_len _ _ _) (by have := ih (by omega); omega)
theorem upE_mem (P : List Ent) (j : Nat) (h : j ≤ P.length) : ∀ f ∈ upE P j, f ∈ P := by
  induction j with
  | zero => intro f hf; simp [upE_zero] at hf
  | succ j ih =>
    obtain ⟨e, he⟩ : ∃ e, P[j]? = some e := ⟨_, List.getElem?_eq_getElem (by omega)⟩
    rw [upE_succ P j e he]
    intro f hf
    rcases insE_mem _ _ _ f hf with rfl | hf
    · exact List.mem_of_getElem? he
    · exact ih (by omega) f hf
/-- the names and kids that Record is handed, as they lie. -/
structure PairsIn (w : World) (gn on gk : Nat) (P : List Ent) : Prop where
  nm : ∀ j e, P[j]? = some e → w.cell? ⟨gn, on + j, none⟩ = some (.string e.1)
  kc : ∀ j e i u, P[j]? = some e → e.2.cells[i]? = some u → w.cell? ⟨gk, j * 8 + i, none⟩ = some u
theorem cellE (E : List Ent) : ∀ (j : Nat) (e : Ent) (i : Nat) (u : Value), E[j]? = some e → e.2.cells[i]? = some u → (cells E)[j * 8 + i]? = some u := by
  induction E with
  | nil => intro j e i u h; simp at h
  | cons f l ih =>
    intro j e i u h hi
    have h8 : f.2.cells.length = 8 := rfl
    have hi8 : i < 8 := by have := (List.getElem?_eq_some_iff.1 hi).1; exact this
    rw [cells_cons]
    cases j with
    | zero =>
      obtain rfl : f = e := by simpa using h
      rw [List.getElem?_append_left (by omega), Nat.zero_mul, Nat.zero_add]
      exact hi
    | succ j =>
      rw [List.getElem?_append_right (by omega), h8, show (j + 1) * 8 + i - 8 = j * 8 + i by omega]
      exact ih j e i u (by simpa using h) hi
/-- the weights in a row. -/
def hAt (hOf : Kid → Nat) (E : List Ent) (j : Nat) : Nat := match E[j]? with
  | some e => hOf e.2
  | none => 0
theorem sumH_bound (H : Nat → Nat) (B n : Nat) (h : ∀ j, j < n → H j ≤ B) : sumH H n ≤ n * B := by
  induction n with
  | zero => simp [sumH]
  | succ n ih =>
    have h1 := ih (fun j hj => h j (by omega))
    have h2 := h n (by omega)
    show sumH H n + H n ≤ _
    rw [Nat.succ_mul]
    omega
theorem weigh_row (w : World) (base : Nat) (q1 q2 q4 q6 : Value) (kz : Int) (hkz : kz ≠ 2) (s : ByteArray) (hs : s.size ≤ 100000) (a : Option Addr) (c : Nat) (E : List Ent) (hOf : Kid → Nat) (hown : w.ownsRow base 70 8 (.slice a E.length c) E.length (cells E)) (hn : E.length ≤ 1000)
    (hW : ∀ e ∈ E, Weighs w e.2.val (hOf e.2)) (hB : ∀ e ∈ E, hOf e.2 ≤ 100000) : Weighs w (.agg #[.int .i64 kz, q1, q2, .string s, q4, .slice a E.length c, q6, .int .i64 0]) (own9 kz s + sumH (hAt hOf E) E.length) := by
  have hH : ∀ j, j < E.length → hAt hOf E j ≤ 100000 := fun j hj => by
    unfold hAt
    rw [List.getElem?_eq_getElem hj]
    exact hB _ (List.getElem_mem hj)
  have hsum := sumH_bound _ _ _ hH
  have h9 : own9 kz s ≤ 100001 := by unfold own9; split <;> omega
  rcases hown.2 with ⟨h1, h2⟩ | ⟨g, cap, cur, e1, e2, e3, e4, e5, e6, e7⟩
  · rw [h2] at h1
    cases h1
    rw [h2]
    exact weigh_leaf w kz q1 q2 q4 q6 s hkz hs
  · cases e1
    refine weigh_kids w kz q1 q2 q4 q6 s hkz hs g E.length c (hAt hOf E) (by omega) e4 (Array.getElem?_eq_some_iff.1 e3).1 ?_ ?_
    · intro j hj
      obtain ⟨e, he⟩ : ∃ e, E[j]? = some e := ⟨_, List.getElem?_eq_getElem hj⟩
      have hc : ∀ i u, e.2.cells[i]? = some u → w.cell? ⟨g, j * 8 + i, none⟩ = some u := fun i u hi => by
        rw [cell_of_row w g _ _ 70 _ e3]
        exact row_at e7 (cellE E j e i u he hi)
      have hh : hAt hOf E j = hOf e.2 := by unfold hAt; rw [he]
      rw [hh]
      exact ⟨_, _, _, _, _, _, _, _, _, _, _, _, ⟨hc 0 _ rfl, hc 1 _ rfl, hc 2 _ rfl, hc 3 _ rfl, hc 4 _ rfl, hc 5 _ rfl, hc 6 _ rfl, hc 7 _ rfl⟩, hW e (List.mem_of_getElem? he)⟩
    · have : E.length * 100000 ≤ 1000 * 100000 := Nat.mul_le_mul_right _ hn
      omega
end Go.Proofs.YtoakfninndkgaaaGreatDoor.Val
