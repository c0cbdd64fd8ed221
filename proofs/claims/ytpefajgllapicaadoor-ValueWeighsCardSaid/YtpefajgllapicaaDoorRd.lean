/- Walks: Weight. -/
import Derived.Test.YtpefajgllapicaaDoorRc
set_option linter.unusedVariables false
namespace Go.Proofs.YtpefajgllapicaaDoor
open Go.RowKit
/-- a value's weight, in every world that has grown out of this one. -/
def Weighs (w : World) (v : Value) (h : Nat) : Prop := ∀ w', Below w.heap.size w w' → Calls Tryd.prog 9 #[v] w' fun e w'' => e = .returned (.int .i64 (h : Int)) ∧ Below w'.heap.size w' w''
theorem Weighs.on {w w' : World} {v : Value} {h : Nat} (hw : Weighs w v h) (hb : Below w.heap.size w w') : Weighs w' v h := fun w'' hb' => hw w'' (hb.trans (hb'.mono hb.size))
theorem weigh_heavy (w : World) (q0 q1 q2 q3 q4 q5 q6 : Value) (h : Nat) (h1 : 0 < h) (h2 : h ≤ 1073741824) : Weighs w (.agg #[q0, q1, q2, q3, q4, q5, q6, .int .i64 (h : Int)]) h := by
  intro w' hb
  have hx := heap_alloc_new w' (.cells #[q0, q1, q2, q3, q4, q5, q6, .int .i64 (h : Int)] 28)
  have c7 : (w'.alloc (.cells #[q0, q1, q2, q3, q4, q5, q6, .int .i64 (h : Int)] 28)).cell? ⟨w'.heap.size, 7, none⟩ = some (.int .i64 (h : Int)) := by rw [cell_of_row _ _ 7 _ 28 _ hx]; rfl
  have hp : (0 : Int) < h := by omega
  clear hx hb
  go_enter Tryd.func9, Tryd.ntmps9
  go_wp2
  go_ret
  exact ⟨rfl, (Below.refl _ _).alloc (Nat.le_refl _) _⟩
/-- the weight without kids. -/
def own9 (kd : Int) (s : ByteArray) : Nat := 1 + if kd = 2 then s.size else 0
/-- the sum of the first n. -/
def sumH (H : Nat → Nat) : Nat → Nat
  | 0 => 0
  | n + 1 => sumH H n + H n
theorem sumH_le (H : Nat → Nat) (j n : Nat) (h : j ≤ n) : sumH H j ≤ sumH H n := by
  induction n with
  | zero => obtain rfl : j = 0 := by omega
            exact Nat.le_refl _
  | succ n ih =>
    by_cases hj : j = n + 1
    · subst hj; exact Nat.le_refl _
    · exact Nat.le_trans (ih (by omega)) (Nat.le_add_right _ _)
/-- kid j of a row, as it lies; and its weight. -/
def KidW (w : World) (g j h : Nat) : Prop := ∃ (kd ki kb : Int) (kt : ByteArray) (na : Option Addr) (nn nc : Nat) (ka : Option Addr) (kn kc : Nat) (fp : Option Addr) (hv : Int), (w.cell? ⟨g, j * 8, none⟩ = some (.int .i64 kd) ∧ w.cell? ⟨g, j * 8 + 1, none⟩ = some (.int .i64 ki) ∧ w.cell? ⟨g, j * 8 + 2, none⟩ = some (.int .u64 kb) ∧ w.cell? ⟨g, j * 8 + 3, none⟩ = some (.string kt) ∧ w.cell? ⟨g, j * 8 + 4, none⟩ = some (.slice na nn nc) ∧ w.cell? ⟨g, j * 8 + 5, none⟩ = some (.slice ka kn kc) ∧ w.cell? ⟨g, j * 8 + 6, none⟩ = some (.pointer fp) ∧ w.cell? ⟨g, j * 8 + 7, none⟩ = some (.int .i64 hv)) ∧ Weighs w (.agg #[.int .i64 kd, .int .i64 ki, .int .u64 kb, .string kt, .slice na nn nc, .slice ka kn kc, .pointer fp, .int .i64 hv]) h
theorem KidW.on {w w' : World} {g j h : Nat} (hw : KidW w g j h) (hg : g < w.heap.size) (hb : Below w.heap.size w w') : KidW w' g j h := by
  obtain ⟨kd, ki, kb, kt, na, nn, nc, ka, kn, kc, fp, hv, ⟨a0, a1, a2, a3, a4, a5, a6, a7⟩, hW⟩ := hw
  exact ⟨kd, ki, kb, kt, na, nn, nc, ka, kn, kc, fp, hv, ⟨by rw [← a0]; exact hb.cell (p := ⟨g, j * 8, none⟩) hg, by rw [← a1]; exact hb.cell (p := ⟨g, j * 8 + 1, none⟩) hg, by rw [← a2]; exact hb.cell (p := ⟨g, j * 8 + 2, none⟩) hg, by rw [← a3]; exact hb.cell (p := ⟨g, j * 8 + 3, none⟩) hg, by rw [← a4]; exact hb.cell (p := ⟨g, j * 8 + 4, none⟩) hg, by rw [← a5]; exact hb.cell (p := ⟨g, j * 8 + 5, none⟩) hg, by rw [← a6]; exact hb.cell (p := ⟨g, j * 8 + 6, none⟩) hg, by rw [← a7]; exact hb.cell (p := ⟨g, j * 8 + 7, none⟩) hg⟩, hW.on hb⟩
theorem weigh_leaf2 (w : World) (q1 q2 q4 q6 : Value) (s : ByteArray) (hs : s.size ≤ 100000) : Weighs w (.agg #[.int .i64 2, q1, q2, .string s, q4, .slice none 0 0, q6, .int .i64 0]) (own9 2 s) := by
  intro w' hb
  have hx := heap_alloc_new w' (.cells #[.int .i64 2, q1, q2, .string s, q4, .slice none 0 0, q6, .int .i64 0] 28)
  have c7 : (w'.alloc (.cells #[.int .i64 2, q1, q2, .string s, q4, .slice none 0 0, q6, .int .i64 0] 28)).cell? ⟨w'.heap.size, 7, none⟩ = some (.int .i64 0) := by rw [cell_of_row _ _ 7 _ 28 _ hx]; rfl
  have c0 : (w'.alloc (.cells #[.int .i64 2, q1, q2, .string s, q4, .slice none 0 0, q6, .int .i64 0] 28)).cell? ⟨w'.heap.size, 0, none⟩ = some (.int .i64 2) := by rw [cell_of_row _ _ 0 _ 28 _ hx]; rfl
  have c3 : (w'.alloc (.cells #[.int .i64 2, q1, q2, .string s, q4, .slice none 0 0, q6, .int .i64 0] 28)).cell? ⟨w'.heap.size, 3, none⟩ = some (.string s) := by rw [cell_of_row _ _ 3 _ 28 _ hx]; rfl
  have c5 : (w'.alloc (.cells #[.int .i64 2, q1, q2, .string s, q4, .slice none 0 0, q6, .int .i64 0] 28)).cell? ⟨w'.heap.size, 5, none⟩ = some (.slice none 0 0) := by rw [cell_of_row _ _ 5 _ 28 _ hx]; rfl
  have HB : Hid (Below w'.heap.size w' (w'.alloc (.cells #[.int .i64 2, q1, q2, .string s, q4, .slice none 0 0, q6, .int .i64 0] 28))) := Lib.hid ((Below.refl _ _).alloc (Nat.le_refl _) _)
  have HM : Hid (((own9 2 s : Nat) : Int) = 1 + (s.size : Int)) := Lib.hid (by unfold own9; simp)
  have h4 : IntKind.i64.wrap (1 + (s.size : Int)) = 1 + (s.size : Int) := by rw [IntKind.wrap_i64]; omega
  clear hx hb
  go_enter Tryd.func9, Tryd.ntmps9
  go_upto_region 7 with (fail)
  go_loop [3, 22] (fun s3 s22 => s3 = .int .i64 (1 + (s.size : Int)) ∧ s22 = .int .i64 0) (fun _ _ => 0)
  case atStart => exact ⟨rfl, rfl⟩
  case round =>
    obtain ⟨rfl, rfl⟩ := hrel
    go_wp2
    go_ret
    exact ⟨by rw [HM.out]; rfl, HB.out⟩
set_option maxHeartbeats 1000000 in
theorem weigh_kids2 (w : World) (q1 q2 q4 q6 : Value) (s : ByteArray) (hs : s.size ≤ 100000) (g2 n c2 : Nat) (H : Nat → Nat) (hn : n ≤ 100000) (hnc : n ≤ c2) (hg : g2 < w.heap.size)
    (hK : ∀ j, j < n → KidW w g2 j (H j)) (ht : own9 2 s + sumH H n ≤ 1000000000) : Weighs w (.agg #[.int .i64 2, q1, q2, .string s, q4, .slice (some ⟨g2, 0, none⟩) n c2, q6, .int .i64 0]) (own9 2 s + sumH H n) := by
  intro w' hb
  have hx := heap_alloc_new w' (.cells #[.int .i64 2, q1, q2, .string s, q4, .slice (some ⟨g2, 0, none⟩) n c2, q6, .int .i64 0] 28)
  have c7 : (w'.alloc (.cells #[.int .i64 2, q1, q2, .string s, q4, .slice (some ⟨g2, 0, none⟩) n c2, q6, .int .i64 0] 28)).cell? ⟨w'.heap.size, 7, none⟩ = some (.int .i64 0) := by rw [cell_of_row _ _ 7 _ 28 _ hx]; rfl
  have c0 : (w'.alloc (.cells #[.int .i64 2, q1, q2, .string s, q4, .slice (some ⟨g2, 0, none⟩) n c2, q6, .int .i64 0] 28)).cell? ⟨w'.heap.size, 0, none⟩ = some (.int .i64 2) := by rw [cell_of_row _ _ 0 _ 28 _ hx]; rfl
  have c3 : (w'.alloc (.cells #[.int .i64 2, q1, q2, .string s, q4, .slice (some ⟨g2, 0, none⟩) n c2, q6, .int .i64 0] 28)).cell? ⟨w'.heap.size, 3, none⟩ = some (.string s) := by rw [cell_of_row _ _ 3 _ 28 _ hx]; rfl
  have c5 : (w'.alloc (.cells #[.int .i64 2, q1, q2, .string s, q4, .slice (some ⟨g2, 0, none⟩) n c2, q6, .int .i64 0] 28)).cell? ⟨w'.heap.size, 5, none⟩ = some (.slice (some ⟨g2, 0, none⟩) n c2) := by rw [cell_of_row _ _ 5 _ 28 _ hx]; rfl
  have HB : Hid (Below w'.heap.size w' (w'.alloc (.cells #[.int .i64 2, q1, q2, .string s, q4, .slice (some ⟨g2, 0, none⟩) n c2, q6, .int .i64 0] 28))) := Lib.hid ((Below.refl _ _).alloc (Nat.le_refl _) _)
  have hm : ((own9 2 s : Nat) : Int) = 1 + (s.size : Int) := by unfold own9; simp
  have hz : (w'.alloc (.cells #[.int .i64 2, q1, q2, .string s, q4, .slice (some ⟨g2, 0, none⟩) n c2, q6, .int .i64 0] 28)).heap.size = w'.heap.size + 1 := by simp
  have hKK : Hid (∀ j, j < n → KidW (w'.alloc (.cells #[.int .i64 2, q1, q2, .string s, q4, .slice (some ⟨g2, 0, none⟩) n c2, q6, .int .i64 0] 28)) g2 j (H j)) := Lib.hid fun j hj => (hK j hj).on hg (hb.trans (HB.out.mono hb.size))
  have hgz : g2 < w'.heap.size := Nat.lt_of_lt_of_le hg hb.size
  have HGZ := Lib.hid hgz
  have HZ := Lib.hid hz
  have h4 : IntKind.i64.wrap (1 + (s.size : Int)) = 1 + (s.size : Int) := by rw [IntKind.wrap_i64]; omega
  generalize own9 2 s = m0 at *
  have HM := Lib.hid hm
  have HT := Lib.hid ht
  clear hx hb hK hg hgz hz hm ht
  go_enter Tryd.func9, Tryd.ntmps9
  go_upto_region 7 with (fail)
  clear c0 c3 c5 c7
  try clear h4
  generalize (w'.alloc (.cells #[.int .i64 2, q1, q2, .string s, q4, .slice (some ⟨g2, 0, none⟩) n c2, q6, .int .i64 0] 28)) = w1 at *
  go_loopw [3, 22] (fun s3 s22 wr => ∃ j : Nat, j ≤ n ∧ s3 = .int .i64 ((m0 + sumH H j : Nat) : Int) ∧ s22 = .int .i64 (j : Int) ∧ Hid (Below w1.heap.size w1 wr)) (fun _ s22 _ => n - (intOf s22).toNat)
  case atStart => exact ⟨0, by omega, by rw [show ((m0 + sumH H 0 : Nat) : Int) = (m0 : Int) from rfl, HM.out], rfl, Lib.hid (Below.refl _ _)⟩
  case round =>
    obtain ⟨j, hj, rfl, rfl, HBR⟩ := hrel
    by_cases hjn : j < n
    · have hlt : (j : Int) < n := by omega
      obtain ⟨kd, ki, kb, kt, na, nn, nc, ka, kn, kc, fp, hv, ⟨a0, a1, a2, a3, a4, a5, a6, a7⟩, hW⟩ := (hKK.out j hjn).on (by rw [HZ.out]; have := HGZ.out; omega) HBR.out
      have HW := Lib.hid hW
      have hsum := sumH_le H (j + 1) n hjn
      have hs1 : sumH H (j + 1) = sumH H j + H j := rfl
      have hbd : ((m0 + sumH H j : Nat) : Int) + (H j : Int) ≤ 1073741824 := by have := HT.out; omega
      have hwr : IntKind.i64.wrap (((m0 + sumH H j : Nat) : Int) + (H j : Int)) = ((m0 + sumH H j : Nat) : Int) + (H j : Int) := by rw [IntKind.wrap_i64]; omega
      have hwj : IntKind.i64.wrap ((j : Int) + 1) = (j : Int) + 1 := by rw [IntKind.wrap_i64]; omega
      have hnx : ((m0 + sumH H j : Nat) : Int) + (H j : Int) = ((m0 + sumH H (j + 1) : Nat) : Int) := by rw [hs1]; omega
      have HNX := Lib.hid hnx
      clear hW hsum hs1 hnx
      generalize ((m0 + sumH H j : Nat) : Int) = acc at *
      have hY := heap_alloc_new wr (.cells #[.int .i64 kd, .int .i64 ki, .int .u64 kb, .string kt, .slice na nn nc, .slice ka kn kc, .pointer fp, .int .i64 hv] 28)
      have b0 : (wr.alloc (.cells #[.int .i64 kd, .int .i64 ki, .int .u64 kb, .string kt, .slice na nn nc, .slice ka kn kc, .pointer fp, .int .i64 hv] 28)).cell? ⟨wr.heap.size, 0, none⟩ = some (.int .i64 kd) := by rw [cell_of_row _ _ 0 _ 28 _ hY]; rfl
      have b1 : (wr.alloc (.cells #[.int .i64 kd, .int .i64 ki, .int .u64 kb, .string kt, .slice na nn nc, .slice ka kn kc, .pointer fp, .int .i64 hv] 28)).cell? ⟨wr.heap.size, 1, none⟩ = some (.int .i64 ki) := by rw [cell_of_row _ _ 1 _ 28 _ hY]; rfl
      have b2 : (wr.alloc (.cells #[.int .i64 kd, .int .i64 ki, .int .u64 kb, .string kt, .slice na nn nc, .slice ka kn kc, .pointer fp, .int .i64 hv] 28)).cell? ⟨wr.heap.size, 2, none⟩ = some (.int .u64 kb) := by rw [cell_of_row _ _ 2 _ 28 _ hY]; rfl
      have b3 : (wr.alloc (.cells #[.int .i64 kd, .int .i64 ki, .int .u64 kb, .string kt, .slice na nn nc, .slice ka kn kc, .pointer fp, .int .i64 hv] 28)).cell? ⟨wr.heap.size, 3, none⟩ = some (.string kt) := by rw [cell_of_row _ _ 3 _ 28 _ hY]; rfl
      have b4 : (wr.alloc (.cells #[.int .i64 kd, .int .i64 ki, .int .u64 kb, .string kt, .slice na nn nc, .slice ka kn kc, .pointer fp, .int .i64 hv] 28)).cell? ⟨wr.heap.size, 4, none⟩ = some (.slice na nn nc) := by rw [cell_of_row _ _ 4 _ 28 _ hY]; rfl
      have b5 : (wr.alloc (.cells #[.int .i64 kd, .int .i64 ki, .int .u64 kb, .string kt, .slice na nn nc, .slice ka kn kc, .pointer fp, .int .i64 hv] 28)).cell? ⟨wr.heap.size, 5, none⟩ = some (.slice ka kn kc) := by rw [cell_of_row _ _ 5 _ 28 _ hY]; rfl
      have b6 : (wr.alloc (.cells #[.int .i64 kd, .int .i64 ki, .int .u64 kb, .string kt, .slice na nn nc, .slice ka kn kc, .pointer fp, .int .i64 hv] 28)).cell? ⟨wr.heap.size, 6, none⟩ = some (.pointer fp) := by rw [cell_of_row _ _ 6 _ 28 _ hY]; rfl
      have b7 : (wr.alloc (.cells #[.int .i64 kd, .int .i64 ki, .int .u64 kb, .string kt, .slice na nn nc, .slice ka kn kc, .pointer fp, .int .i64 hv] 28)).cell? ⟨wr.heap.size, 7, none⟩ = some (.int .i64 hv) := by rw [cell_of_row _ _ 7 _ 28 _ hY]; rfl
      have hBA : Below wr.heap.size wr (wr.alloc (.cells #[.int .i64 kd, .int .i64 ki, .int .u64 kb, .string kt, .slice na nn nc, .slice ka kn kc, .pointer fp, .int .i64 hv] 28)) := (Below.refl _ _).alloc (Nat.le_refl _) _
      have HBA := Lib.hid hBA
      clear hY hBA
      go_upto_region 9 with (fail)
      clear a0 a1 a2 a3 a4 a5 a6 a7
      go_wp2_with (go_at_call 9; refine (HW.out _ HBA.out).mono ?_; rintro e w5 ⟨rfl, hb5⟩)
      go_roundw
      case rel => exact ⟨j + 1, by omega, by rw [HNX.out], rfl, Lib.hid (HBR.out.trans ((HBA.out.trans (hb5.mono HBA.out.size)).mono HBR.out.size))⟩
      case measure => simp [intOf]; omega
    · have hjn2 : ¬ (j : Int) < n := by omega
      obtain rfl : j = n := by omega
      go_wp2
      go_ret
      exact ⟨rfl, HB.out.trans (HBR.out.mono HB.out.size)⟩
theorem weigh_leaf (w : World) (kz : Int) (q1 q2 q4 q6 : Value) (s : ByteArray) (hkz : kz ≠ 2) (hs : s.size ≤ 100000) : Weighs w (.agg #[.int .i64 kz, q1, q2, .string s, q4, .slice none 0 0, q6, .int .i64 0]) (own9 kz s) := by
  intro w' hb
  have hx := heap_alloc_new w' (.cells #[.int .i64 kz, q1, q2, .string s, q4, .slice none 0 0, q6, .int .i64 0] 28)
  have c7 : (w'.alloc (.cells #[.int .i64 kz, q1, q2, .string s, q4, .slice none 0 0, q6, .int .i64 0] 28)).cell? ⟨w'.heap.size, 7, none⟩ = some (.int .i64 0) := by rw [cell_of_row _ _ 7 _ 28 _ hx]; rfl
  have c0 : (w'.alloc (.cells #[.int .i64 kz, q1, q2, .string s, q4, .slice none 0 0, q6, .int .i64 0] 28)).cell? ⟨w'.heap.size, 0, none⟩ = some (.int .i64 kz) := by rw [cell_of_row _ _ 0 _ 28 _ hx]; rfl
  have c3 : (w'.alloc (.cells #[.int .i64 kz, q1, q2, .string s, q4, .slice none 0 0, q6, .int .i64 0] 28)).cell? ⟨w'.heap.size, 3, none⟩ = some (.string s) := by rw [cell_of_row _ _ 3 _ 28 _ hx]; rfl
  have c5 : (w'.alloc (.cells #[.int .i64 kz, q1, q2, .string s, q4, .slice none 0 0, q6, .int .i64 0] 28)).cell? ⟨w'.heap.size, 5, none⟩ = some (.slice none 0 0) := by rw [cell_of_row _ _ 5 _ 28 _ hx]; rfl
  have HB : Hid (Below w'.heap.size w' (w'.alloc (.cells #[.int .i64 kz, q1, q2, .string s, q4, .slice none 0 0, q6, .int .i64 0] 28))) := Lib.hid ((Below.refl _ _).alloc (Nat.le_refl _) _)
  have HM : Hid (((own9 kz s : Nat) : Int) = 1) := Lib.hid (by unfold own9; rw [if_neg hkz]; rfl)
  have h4 : (kz == 2) = false := by simpa using hkz
  clear hx hb
  go_enter Tryd.func9, Tryd.ntmps9
  go_upto_region 7 with (fail)
  go_loop [3, 22] (fun s3 s22 => s3 = .int .i64 (1) ∧ s22 = .int .i64 0) (fun _ _ => 0)
  case atStart => exact ⟨rfl, rfl⟩
  case round =>
    obtain ⟨rfl, rfl⟩ := hrel
    go_wp2
    go_ret
    exact ⟨by rw [HM.out]; rfl, HB.out⟩
set_option maxHeartbeats 1000000 in
theorem weigh_kids (w : World) (kz : Int) (q1 q2 q4 q6 : Value) (s : ByteArray) (hkz : kz ≠ 2) (hs : s.size ≤ 100000) (g2 n c2 : Nat) (H : Nat → Nat) (hn : n ≤ 100000) (hnc : n ≤ c2) (hg : g2 < w.heap.size)
    (hK : ∀ j, j < n → KidW w g2 j (H j)) (ht : own9 kz s + sumH H n ≤ 1000000000) : Weighs w (.agg #[.int .i64 kz, q1, q2, .string s, q4, .slice (some ⟨g2, 0, none⟩) n c2, q6, .int .i64 0]) (own9 kz s + sumH H n) := by
  intro w' hb
  have hx := heap_alloc_new w' (.cells #[.int .i64 kz, q1, q2, .string s, q4, .slice (some ⟨g2, 0, none⟩) n c2, q6, .int .i64 0] 28)
  have c7 : (w'.alloc (.cells #[.int .i64 kz, q1, q2, .string s, q4, .slice (some ⟨g2, 0, none⟩) n c2, q6, .int .i64 0] 28)).cell? ⟨w'.heap.size, 7, none⟩ = some (.int .i64 0) := by rw [cell_of_row _ _ 7 _ 28 _ hx]; rfl
  have c0 : (w'.alloc (.cells #[.int .i64 kz, q1, q2, .string s, q4, .slice (some ⟨g2, 0, none⟩) n c2, q6, .int .i64 0] 28)).cell? ⟨w'.heap.size, 0, none⟩ = some (.int .i64 kz) := by rw [cell_of_row _ _ 0 _ 28 _ hx]; rfl
  have c3 : (w'.alloc (.cells #[.int .i64 kz, q1, q2, .string s, q4, .slice (some ⟨g2, 0, none⟩) n c2, q6, .int .i64 0] 28)).cell? ⟨w'.heap.size, 3, none⟩ = some (.string s) := by rw [cell_of_row _ _ 3 _ 28 _ hx]; rfl
  have c5 : (w'.alloc (.cells #[.int .i64 kz, q1, q2, .string s, q4, .slice (some ⟨g2, 0, none⟩) n c2, q6, .int .i64 0] 28)).cell? ⟨w'.heap.size, 5, none⟩ = some (.slice (some ⟨g2, 0, none⟩) n c2) := by rw [cell_of_row _ _ 5 _ 28 _ hx]; rfl
  have HB : Hid (Below w'.heap.size w' (w'.alloc (.cells #[.int .i64 kz, q1, q2, .string s, q4, .slice (some ⟨g2, 0, none⟩) n c2, q6, .int .i64 0] 28))) := Lib.hid ((Below.refl _ _).alloc (Nat.le_refl _) _)
  have hm : ((own9 kz s : Nat) : Int) = 1 := by unfold own9; rw [if_neg hkz]; rfl
  have hz : (w'.alloc (.cells #[.int .i64 kz, q1, q2, .string s, q4, .slice (some ⟨g2, 0, none⟩) n c2, q6, .int .i64 0] 28)).heap.size = w'.heap.size + 1 := by simp
  have hKK : Hid (∀ j, j < n → KidW (w'.alloc (.cells #[.int .i64 kz, q1, q2, .string s, q4, .slice (some ⟨g2, 0, none⟩) n c2, q6, .int .i64 0] 28)) g2 j (H j)) := Lib.hid fun j hj => (hK j hj).on hg (hb.trans (HB.out.mono hb.size))
  have hgz : g2 < w'.heap.size := Nat.lt_of_lt_of_le hg hb.size
  have HGZ := Lib.hid hgz
  have HZ := Lib.hid hz
  have h4 : (kz == 2) = false := by simpa using hkz
  generalize own9 kz s = m0 at *
  have HM := Lib.hid hm
  have HT := Lib.hid ht
  clear hx hb hK hg hgz hz hm ht
  go_enter Tryd.func9, Tryd.ntmps9
  go_upto_region 7 with (fail)
  clear c0 c3 c5 c7
  try clear h4
  generalize (w'.alloc (.cells #[.int .i64 kz, q1, q2, .string s, q4, .slice (some ⟨g2, 0, none⟩) n c2, q6, .int .i64 0] 28)) = w1 at *
  go_loopw [3, 22] (fun s3 s22 wr => ∃ j : Nat, j ≤ n ∧ s3 = .int .i64 ((m0 + sumH H j : Nat) : Int) ∧ s22 = .int .i64 (j : Int) ∧ Hid (Below w1.heap.size w1 wr)) (fun _ s22 _ => n - (intOf s22).toNat)
  case atStart => exact ⟨0, by omega, by rw [show ((m0 + sumH H 0 : Nat) : Int) = (m0 : Int) from rfl, HM.out], rfl, Lib.hid (Below.refl _ _)⟩
  case round =>
    obtain ⟨j, hj, rfl, rfl, HBR⟩ := hrel
    by_cases hjn : j < n
    · have hlt : (j : Int) < n := by omega
      obtain ⟨kd, ki, kb, kt, na, nn, nc, ka, kn, kc, fp, hv, ⟨a0, a1, a2, a3, a4, a5, a6, a7⟩, hW⟩ := (hKK.out j hjn).on (by rw [HZ.out]; have := HGZ.out; omega) HBR.out
      have HW := Lib.hid hW
      have hsum := sumH_le H (j + 1) n hjn
      have hs1 : sumH H (j + 1) = sumH H j + H j := rfl
      have hbd : ((m0 + sumH H j : Nat) : Int) + (H j : Int) ≤ 1073741824 := by have := HT.out; omega
      have hwr : IntKind.i64.wrap (((m0 + sumH H j : Nat) : Int) + (H j : Int)) = ((m0 + sumH H j : Nat) : Int) + (H j : Int) := by rw [IntKind.wrap_i64]; omega
      have hwj : IntKind.i64.wrap ((j : Int) + 1) = (j : Int) + 1 := by rw [IntKind.wrap_i64]; omega
      have hnx : ((m0 + sumH H j : Nat) : Int) + (H j : Int) = ((m0 + sumH H (j + 1) : Nat) : Int) := by rw [hs1]; omega
      have HNX := Lib.hid hnx
      clear hW hsum hs1 hnx
      generalize ((m0 + sumH H j : Nat) : Int) = acc at *
      have hY := heap_alloc_new wr (.cells #[.int .i64 kd, .int .i64 ki, .int .u64 kb, .string kt, .slice na nn nc, .slice ka kn kc, .pointer fp, .int .i64 hv] 28)
      have b0 : (wr.alloc (.cells #[.int .i64 kd, .int .i64 ki, .int .u64 kb, .string kt, .slice na nn nc, .slice ka kn kc, .pointer fp, .int .i64 hv] 28)).cell? ⟨wr.heap.size, 0, none⟩ = some (.int .i64 kd) := by rw [cell_of_row _ _ 0 _ 28 _ hY]; rfl
      have b1 : (wr.alloc (.cells #[.int .i64 kd, .int .i64 ki, .int .u64 kb, .string kt, .slice na nn nc, .slice ka kn kc, .pointer fp, .int .i64 hv] 28)).cell? ⟨wr.heap.size, 1, none⟩ = some (.int .i64 ki) := by rw [cell_of_row _ _ 1 _ 28 _ hY]; rfl
      have b2 : (wr.alloc (.cells #[.int .i64 kd, .int .i64 ki, .int .u64 kb, .string kt, .slice na nn nc, .slice ka kn kc, .pointer fp, .int .i64 hv] 28)).cell? ⟨wr.heap.size, 2, none⟩ = some (.int .u64 kb) := by rw [cell_of_row _ _ 2 _ 28 _ hY]; rfl
      have b3 : (wr.alloc (.cells #[.int .i64 kd, .int .i64 ki, .int .u64 kb, .string kt, .slice na nn nc, .slice ka kn kc, .pointer fp, .int .i64 hv] 28)).cell? ⟨wr.heap.size, 3, none⟩ = some (.string kt) := by rw [cell_of_row _ _ 3 _ 28 _ hY]; rfl
      have b4 : (wr.alloc (.cells #[.int .i64 kd, .int .i64 ki, .int .u64 kb, .string kt, .slice na nn nc, .slice ka kn kc, .pointer fp, .int .i64 hv] 28)).cell? ⟨wr.heap.size, 4, none⟩ = some (.slice na nn nc) := by rw [cell_of_row _ _ 4 _ 28 _ hY]; rfl
      have b5 : (wr.alloc (.cells #[.int .i64 kd, .int .i64 ki, .int .u64 kb, .string kt, .slice na nn nc, .slice ka kn kc, .pointer fp, .int .i64 hv] 28)).cell? ⟨wr.heap.size, 5, none⟩ = some (.slice ka kn kc) := by rw [cell_of_row _ _ 5 _ 28 _ hY]; rfl
      have b6 : (wr.alloc (.cells #[.int .i64 kd, .int .i64 ki, .int .u64 kb, .string kt, .slice na nn nc, .slice ka kn kc, .pointer fp, .int .i64 hv] 28)).cell? ⟨wr.heap.size, 6, none⟩ = some (.pointer fp) := by rw [cell_of_row _ _ 6 _ 28 _ hY]; rfl
      have b7 : (wr.alloc (.cells #[.int .i64 kd, .int .i64 ki, .int .u64 kb, .string kt, .slice na nn nc, .slice ka kn kc, .pointer fp, .int .i64 hv] 28)).cell? ⟨wr.heap.size, 7, none⟩ = some (.int .i64 hv) := by rw [cell_of_row _ _ 7 _ 28 _ hY]; rfl
      have hBA : Below wr.heap.size wr (wr.alloc (.cells #[.int .i64 kd, .int .i64 ki, .int .u64 kb, .string kt, .slice na nn nc, .slice ka kn kc, .pointer fp, .int .i64 hv] 28)) := (Below.refl _ _).alloc (Nat.le_refl _) _
      have HBA := Lib.hid hBA
      clear hY hBA
      go_upto_region 9 with (fail)
      clear a0 a1 a2 a3 a4 a5 a6 a7
      go_wp2_with (go_at_call 9; refine (HW.out _ HBA.out).mono ?_; rintro e w5 ⟨rfl, hb5⟩)
      go_roundw
      case rel => exact ⟨j + 1, by omega, by rw [HNX.out], rfl, Lib.hid (HBR.out.trans ((HBA.out.trans (hb5.mono HBA.out.size)).mono HBR.out.size))⟩
      case measure => simp [intOf]; omega
    · have hjn2 : ¬ (j : Int) < n := by omega
      obtain rfl : j = n := by omega
      go_wp2
      go_ret
      exact ⟨rfl, HB.out.trans (HBR.out.mono HB.out.size)⟩
end Go.Proofs.YtpefajgllapicaaDoor
