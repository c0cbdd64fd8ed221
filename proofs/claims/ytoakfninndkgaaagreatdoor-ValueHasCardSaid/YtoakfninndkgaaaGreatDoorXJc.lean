/- Walks: put, of a number of one digit, and of the example's record. -/
import Derived.Test.YtoakfninndkgaaaGreatDoorXJb
set_option linter.unusedVariables false
namespace Go.Proofs.YtoakfninndkgaaaGreatDoor.Val
open Go.RowKit
/-- a number's cells. -/
def kidC (d : Int) : List Value := [.int .i64 0, .int .i64 d, .int .u64 0, .string ⟨#[]⟩, .slice none 0 0, .slice none 0 0, .pointer none, .int .i64 0]
theorem put_1 (w : World) (base : Nat) (v : Value) (l : List Int) (h : BOwn w base v l) (hlen : l.length ≤ 9999) (hb : base ≤ w.heap.size) :
    Calls Tryz.prog 58 #[v, .agg #[.int .i64 0, .int .i64 1, .int .u64 0, .string ⟨#[]⟩, .slice none 0 0, .slice none 0 0, .pointer none, .int .i64 0]] w fun e w' => ∃ v', e = .returned v' ∧ BOwn w' base v' (l ++ [49]) ∧ w.grownBy w' v.ownBlock ∧ base ≤ w'.heap.size := by
  have H := Lib.hid (int_1 (w.alloc (.cells #[.int .i64 0, .int .i64 1, .int .u64 0, .string ⟨#[]⟩, .slice none 0 0, .slice none 0 0, .pointer none, .int .i64 0] 70)) base v l (h.alloc _) hlen (by simp; omega))
  clear h
  go_enter Tryz.func58, Tryz.ntmps58
  go_wp2_with (first
    | (go_at_call 68; ((with_reducible refine H.out.mono ?_); rintro e w' ⟨v', rfl, h1, h2, h3⟩))
    | go_in)
  go_ret
  exact ⟨v', rfl, h1, (World.grownBy_alloc _ _ _).trans h2, h3⟩
theorem put_2 (w : World) (base : Nat) (v : Value) (l : List Int) (h : BOwn w base v l) (hlen : l.length ≤ 9999) (hb : base ≤ w.heap.size) :
    Calls Tryz.prog 58 #[v, .agg #[.int .i64 0, .int .i64 2, .int .u64 0, .string ⟨#[]⟩, .slice none 0 0, .slice none 0 0, .pointer none, .int .i64 0]] w fun e w' => ∃ v', e = .returned v' ∧ BOwn w' base v' (l ++ [50]) ∧ w.grownBy w' v.ownBlock ∧ base ≤ w'.heap.size := by
  have H := Lib.hid (int_2 (w.alloc (.cells #[.int .i64 0, .int .i64 2, .int .u64 0, .string ⟨#[]⟩, .slice none 0 0, .slice none 0 0, .pointer none, .int .i64 0] 70)) base v l (h.alloc _) hlen (by simp; omega))
  clear h
  go_enter Tryz.func58, Tryz.ntmps58
  go_wp2_with (first
    | (go_at_call 68; ((with_reducible refine H.out.mono ?_); rintro e w' ⟨v', rfl, h1, h2, h3⟩))
    | go_in)
  go_ret
  exact ⟨v', rfl, h1, (World.grownBy_alloc _ _ _).trans h2, h3⟩
theorem BOwn.base {w : World} {Z X : Nat} {v : Value} {l : List Int} (h : BOwn w Z v l) (hx : X ≤ Z) : BOwn w X v l := by
  refine ⟨h.1, ?_⟩
  rcases h.2 with h' | ⟨g, cap, cur, e1, e2, e3⟩
  · exact Or.inl h'
  · exact Or.inr ⟨g, cap, cur, e1, by omega, e3⟩
/-- a record of two numbers, as it lies. -/
structure RecIn (w : World) (g1 g2 : Nat) : Prop where
  n0 : w.cell? ⟨g1, 0, none⟩ = some (.string ⟨#[97]⟩)
  n1 : w.cell? ⟨g1, 1, none⟩ = some (.string ⟨#[98]⟩)
  k0 : ∀ j u, (kidC 2)[j]? = some u → w.cell? ⟨g2, j, none⟩ = some u
  k1 : ∀ j u, (kidC 1)[j]? = some u → w.cell? ⟨g2, 8 + j, none⟩ = some u
  l1 : g1 < w.heap.size
  l2 : g2 < w.heap.size
theorem RecIn.below {w w' : World} {Z g1 g2 : Nat} (h : RecIn w g1 g2) (hb : Below Z w w') (h1 : g1 < Z) (h2 : g2 < Z) : RecIn w' g1 g2 where
  n0 := by rw [← h.n0]; exact hb.cell (p := ⟨g1, 0, none⟩) h1
  n1 := by rw [← h.n1]; exact hb.cell (p := ⟨g1, 1, none⟩) h1
  k0 := fun j u hu => by rw [← h.k0 j u hu]; exact hb.cell (p := ⟨g2, j, none⟩) h2
  k1 := fun j u hu => by rw [← h.k1 j u hu]; exact hb.cell (p := ⟨g2, 8 + j, none⟩) h2
  l1 := Nat.lt_of_lt_of_le h.l1 hb.size
  l2 := Nat.lt_of_lt_of_le h.l2 hb.size
def txt : Nat → List Int
  | 0 => [123]
  | 1 => [123, 97, 32, 61, 32, 50]
  | _ => [123, 97, 32, 61, 32, 50, 44, 32, 98, 32, 61, 32, 49]
set_option maxRecDepth 20000 in
set_option maxHeartbeats 2000000 in
theorem put_rec (w : World) (g1 c1 g2 c2 : Nat) (hr : RecIn w g1 g2) (h1 : 2 ≤ c1) (h2 : 2 ≤ c2) :
    Calls Tryz.prog 58 #[.slice none 0 0, .agg #[.int .i64 4, .int .i64 0, .int .u64 0, .string ⟨#[]⟩, .slice (some ⟨g1, 0, none⟩) 2 c1, .slice (some ⟨g2, 0, none⟩) 2 c2, .pointer none, .int .i64 3]] w fun e w' => ∃ v', e = .returned v' ∧ BOwn w' w.heap.size v' [123, 97, 32, 61, 32, 50, 44, 32, 98, 32, 61, 32, 49, 125] ∧ Below w.heap.size w w' := by
  have hc1 : (2 : Int) ≤ c1 := by omega
  have hc2 : (2 : Int) ≤ c2 := by omega
  go_enter Tryz.func58, Tryz.ntmps58
  go_upto_region 11 with (fail)
  have hb0 : Below w.heap.size w (w.alloc (.cells #[.int .i64 4, .int .i64 0, .int .u64 0, .string ⟨#[]⟩, .slice (some ⟨g1, 0, none⟩) 2 c1, .slice (some ⟨g2, 0, none⟩) 2 c2, .pointer none, .int .i64 3] 70)) := (Below.refl _ _).alloc (Nat.le_refl _) _
  have hx := heap_alloc_new w (.cells #[.int .i64 4, .int .i64 0, .int .u64 0, .string ⟨#[]⟩, .slice (some ⟨g1, 0, none⟩) 2 c1, .slice (some ⟨g2, 0, none⟩) 2 c2, .pointer none, .int .i64 3] 70)
  have hr0 := hr.below hb0 hr.l1 hr.l2
  have hXl : w.heap.size < (w.alloc (.cells #[.int .i64 4, .int .i64 0, .int .u64 0, .string ⟨#[]⟩, .slice (some ⟨g1, 0, none⟩) 2 c1, .slice (some ⟨g2, 0, none⟩) 2 c2, .pointer none, .int .i64 3] 70)).heap.size := by simp
  clear hr
  generalize w.alloc (.cells #[.int .i64 4, .int .i64 0, .int .u64 0, .string ⟨#[]⟩, .slice (some ⟨g1, 0, none⟩) 2 c1, .slice (some ⟨g2, 0, none⟩) 2 c2, .pointer none, .int .i64 3] 70) = w0 at *
  generalize hXe : w.heap.size = X at *
  have HXe := Lib.hid hXe
  clear hXe
  have HX := Lib.hid hx
  have HR := Lib.hid hr0
  obtain ⟨Z, hZ⟩ : ∃ Z, Z = w0.heap.size := ⟨_, rfl⟩
  have HXC : Hid (∀ w', Below Z w0 w' → w'.cell? ⟨X, 4, none⟩ = some (.slice (some ⟨g1, 0, none⟩) 2 c1) ∧ w'.cell? ⟨X, 5, none⟩ = some (.slice (some ⟨g2, 0, none⟩) 2 c2)) := Lib.hid fun w' hb => by
    have := (hb.block X (by omega)).trans hx
    exact ⟨by rw [cell_of_row w' X 4 _ 70 _ this]; rfl, by rw [cell_of_row w' X 5 _ 70 _ this]; rfl⟩
  have HRR : Hid (∀ w', Below Z w0 w' → RecIn w' g1 g2) := Lib.hid fun w' hb => hr0.below hb (by rw [hZ]; exact hr0.l1) (by rw [hZ]; exact hr0.l2)
  have hO0 := (BOwn.nil (w0.alloc (.cells #[.int .u8 123] 5)) Z)
  have hB0 : (w0.alloc (.cells #[.int .u8 123] 5)).heap[w0.heap.size]? = some (.cells #[.int .u8 123] 5 (0, 0)) := heap_alloc_new _ _
  have hz0 : Z ≤ (w0.alloc (.cells #[.int .u8 123] 5)).heap.size := by simp; omega
  have HO0 := Lib.hid hO0
  have HB0 := Lib.hid hB0
  have HZ0 := Lib.hid hz0
  clear hO0 hB0 hz0 hx hr0 h1 h2
  go_upto_region 12 with (at_builtin; refine wpList_bbyte rfl _ _ rfl Z (.slice none 0 0) [] rfl HO0.out _ _ 123 rfl HB0.out (Nat.zero_le _) HZ0.out ?_; intro v1 w1 hown1 hbel1 hsz1 hgr1)
  have hb1 : Below Z w0 w1 := ((Below.refl Z w0).alloc (by omega) _).trans hbel1
  have HO1 := Lib.hid hown1
  obtain ⟨x4, x5⟩ := HXC.out w1 hb1
  clear hbel1 hown1 hgr1
  go_upto_region 13 with (fail)
  have HB1 := Lib.hid hb1
  clear x4 x5 hb1 HO0 HB0 HZ0 HX HR
  go_loopw [0, 54] (fun s0 i wr => ∃ (k : Nat), k ≤ 2 ∧ i = .int .i64 (k : Int) ∧ Hid (BOwn wr Z s0 (txt k)) ∧ Hid (Below Z w0 wr)) (fun _ i _ => 2 - (intOf i).toNat)
  case atStart => exact ⟨0, by omega, rfl, HO1, HB1⟩
  case round =>
    clear HO1 HB1
    obtain ⟨k, hk, rfl, HO, HB⟩ := hrel
    -- ROUNDS
    rcases (show k = 0 ∨ k = 1 ∨ k = 2 by omega) with rfl | rfl | rfl
    · skip
      have hbe := HB.out
      have hrr := HRR.out wr hbe
      have d0 := hrr.k0 (0) _ rfl
      have d1 := hrr.k0 1 _ rfl
      have d2 := hrr.k0 2 _ rfl
      have d3 := hrr.k0 3 _ rfl
      have d4 := hrr.k0 4 _ rfl
      have d5 := hrr.k0 5 _ rfl
      have d6 := hrr.k0 6 _ rfl
      have d7 := hrr.k0 7 _ rfl
      go_upto_region 15 with (fail)
      have hY := heap_alloc_new wr (.cells #[.int .i64 0, .int .i64 2, .int .u64 0, .string ⟨#[]⟩, .slice none 0 0, .slice none 0 0, .pointer none, .int .i64 0] 70)
      have hb5 : Below Z w0 (wr.alloc (.cells #[.int .i64 0, .int .i64 2, .int .u64 0, .string ⟨#[]⟩, .slice none 0 0, .slice none 0 0, .pointer none, .int .i64 0] 70)) := hbe.alloc (by have := hbe.size; omega) _
      have hO5 := HO.out.alloc (.cells #[.int .i64 0, .int .i64 2, .int .u64 0, .string ⟨#[]⟩, .slice none 0 0, .slice none 0 0, .pointer none, .int .i64 0] 70)
      clear d0 d1 d2 d3 d4 d5 d6 d7 hrr hbe
      generalize wr.alloc (.cells #[.int .i64 0, .int .i64 2, .int .u64 0, .string ⟨#[]⟩, .slice none 0 0, .slice none 0 0, .pointer none, .int .i64 0] 70) = w5 at *
      generalize wr.heap.size = Y at *
      have HY := Lib.hid hY
      have HB5 := Lib.hid hb5
      have HO5 := Lib.hid hO5
      clear hY hb5 hO5
      obtain ⟨w6, v6, hw6⟩ : ∃ w6 v6, w6 = w5 ∧ v6 = u0 := ⟨_, _, rfl, rfl⟩
      obtain ⟨rfl, rfl⟩ := hw6
      have HO6 := HO5
      have HY6 := HY
      have HB6 := HB5
      go_upto_region 17 with (fail)
      have hz6 : Z ≤ w6.drew.heap.size := by have := HB6.out.size; show Z ≤ w6.heap.size; omega
      have HZ6 := Lib.hid hz6
      have HB6d : Hid (Below Z w0 w6.drew) := Lib.hid HB6.out.drew
      have F : ∀ w', Below Z w0 w' → w'.heap[Y]? = some (.cells #[.int .i64 0, .int .i64 2, .int .u64 0, .string ⟨#[]⟩, .slice none 0 0, .slice none 0 0, .pointer none, .int .i64 0] 70) → (w'.cell? ⟨X, 4, none⟩ = some (.slice (some ⟨g1, 0, none⟩) 2 c1) ∧ w'.cell? ⟨g1, 0, none⟩ = some (.string ⟨#[97]⟩) ∧ w'.cell? ⟨Y, 0, none⟩ = some (.int .i64 0) ∧ w'.cell? ⟨Y, 1, none⟩ = some (.int .i64 2) ∧ w'.cell? ⟨Y, 2, none⟩ = some (.int .u64 0) ∧ w'.cell? ⟨Y, 3, none⟩ = some (.string ⟨#[]⟩) ∧ w'.cell? ⟨Y, 4, none⟩ = some (.slice none 0 0) ∧ w'.cell? ⟨Y, 5, none⟩ = some (.slice none 0 0) ∧ w'.cell? ⟨Y, 6, none⟩ = some (.pointer none) ∧ w'.cell? ⟨Y, 7, none⟩ = some (.int .i64 0)) := fun w' hb hy =>
        ⟨(HXC.out w' hb).1, (HRR.out w' hb).n0, by rw [cell_of_row w' Y 0 _ 70 _ hy]; rfl, by rw [cell_of_row w' Y 1 _ 70 _ hy]; rfl, by rw [cell_of_row w' Y 2 _ 70 _ hy]; rfl, by rw [cell_of_row w' Y 3 _ 70 _ hy]; rfl, by rw [cell_of_row w' Y 4 _ 70 _ hy]; rfl, by rw [cell_of_row w' Y 5 _ 70 _ hy]; rfl, by rw [cell_of_row w' Y 6 _ 70 _ hy]; rfl, by rw [cell_of_row w' Y 7 _ 70 _ hy]; rfl⟩
      have HF := Lib.hid F
      clear F hz6
      have q0 := HF.out w6.drew HB6d.out HY6.out
      obtain ⟨r0, r1, r2, r3, r4, r5, r6, r7, r8, r9⟩ := HF.out w6 HB6.out HY6.out
      go_region_held3 (fun w' => w'.cell? ⟨X, 4, none⟩ = some (.slice (some ⟨g1, 0, none⟩) 2 c1) ∧ w'.cell? ⟨g1, 0, none⟩ = some (.string ⟨#[97]⟩) ∧ w'.cell? ⟨Y, 0, none⟩ = some (.int .i64 0) ∧ w'.cell? ⟨Y, 1, none⟩ = some (.int .i64 2) ∧ w'.cell? ⟨Y, 2, none⟩ = some (.int .u64 0) ∧ w'.cell? ⟨Y, 3, none⟩ = some (.string ⟨#[]⟩) ∧ w'.cell? ⟨Y, 4, none⟩ = some (.slice none 0 0) ∧ w'.cell? ⟨Y, 5, none⟩ = some (.slice none 0 0) ∧ w'.cell? ⟨Y, 6, none⟩ = some (.pointer none) ∧ w'.cell? ⟨Y, 7, none⟩ = some (.int .i64 0)) (first | exact q0 | exact q7 | exact q8 | exact q9)
        (first
          | (refine step_bstr rfl _ _ rfl Z v6 _ rfl HO6.out.drew ⟨#[97]⟩ [97] rfl (by kernel_rfl) (by decide +kernel) HZ6.out ?_; intro v7 w7 hO7 hb7 hz7 hg7; have hB7 : Below Z w0 w7 := HB6d.out.trans hb7; have hY7 : w7.heap[Y]? = some (.cells #[.int .i64 0, .int .i64 2, .int .u64 0, .string ⟨#[]⟩, .slice none 0 0, .slice none 0 0, .pointer none, .int .i64 0] 70) := (hg7.block Y (Array.getElem?_eq_some_iff.1 HY6.out).1 (fun e => HO6.out.apart HY6.out e.symm)).trans HY6.out; have HO7 := Lib.hid hO7; have HB7 := Lib.hid hB7; have HY7 := Lib.hid hY7; have HZ7 := Lib.hid hz7; have q7 := HF.out w7 hB7 hY7; obtain ⟨s0, s1, s2, s3, s4, s5, s6, s7, s8, s9⟩ := HF.out w7 hB7 hY7; clear hO7 hb7 hg7 hB7 hY7 hz7)
          | (refine step_bstr rfl _ _ rfl Z v7 _ rfl HO7.out ⟨#[32, 61, 32]⟩ [32, 61, 32] rfl (by kernel_rfl) (by decide +kernel) HZ7.out ?_; intro v8 w8 hO8 hb8 hz8 hg8; have hB8 : Below Z w0 w8 := HB7.out.trans hb8; have hY8 : w8.heap[Y]? = some (.cells #[.int .i64 0, .int .i64 2, .int .u64 0, .string ⟨#[]⟩, .slice none 0 0, .slice none 0 0, .pointer none, .int .i64 0] 70) := (hg8.block Y (Array.getElem?_eq_some_iff.1 HY7.out).1 (fun e => HO7.out.apart HY7.out e.symm)).trans HY7.out; have HP8 := Lib.hid (put_2 w8 Z v8 _ hO8 (by decide +kernel) hz8); have HO8 := Lib.hid hO8; have HY8 := Lib.hid hY8; have HZ8 := Lib.hid hz8; have HB8 := Lib.hid hB8; have q8 := HF.out w8 hB8 hY8; obtain ⟨t0, t1, t2, t3, t4, t5, t6, t7, t8, t9⟩ := HF.out w8 hB8 hY8; clear hO8 hb8 hg8 hB8 hY8 hz8)
          | (go_at_call 58; refine HP8.out.mono ?_; rintro e w9 ⟨v9, rfl, hO9, hg9, hz9⟩; have hB9 : Below Z w0 w9 := HB8.out.grown hg9 HZ8.out (ownsRow_ge HO8.out); have hY9 : w9.heap[Y]? = some (.cells #[.int .i64 0, .int .i64 2, .int .u64 0, .string ⟨#[]⟩, .slice none 0 0, .slice none 0 0, .pointer none, .int .i64 0] 70) := (hg9.block Y (Array.getElem?_eq_some_iff.1 HY8.out).1 (fun e => HO8.out.apart HY8.out e.symm)).trans HY8.out; have HB9 := Lib.hid hB9; have HO9 := Lib.hid hO9; have q9 := HF.out w9 hB9 hY9; obtain ⟨y0, y1, y2, y3, y4, y5, y6, y7, y8, y9⟩ := HF.out w9 hB9 hY9; clear hO9 hg9 hz9 hB9 hY9)
          | fail)
      all_goals
        go_wp2
        go_round
        case rel => exact ⟨1, by omega, rfl, HO9, HB9⟩
        case measure => simp [intOf]
    · skip
      have hbe := HB.out
      have hrr := HRR.out wr hbe
      have d0 := hrr.k1 (0) _ rfl
      have d1 := hrr.k1 1 _ rfl
      have d2 := hrr.k1 2 _ rfl
      have d3 := hrr.k1 3 _ rfl
      have d4 := hrr.k1 4 _ rfl
      have d5 := hrr.k1 5 _ rfl
      have d6 := hrr.k1 6 _ rfl
      have d7 := hrr.k1 7 _ rfl
      go_upto_region 15 with (fail)
      have hY := heap_alloc_new wr (.cells #[.int .i64 0, .int .i64 1, .int .u64 0, .string ⟨#[]⟩, .slice none 0 0, .slice none 0 0, .pointer none, .int .i64 0] 70)
      have hb5 : Below Z w0 (wr.alloc (.cells #[.int .i64 0, .int .i64 1, .int .u64 0, .string ⟨#[]⟩, .slice none 0 0, .slice none 0 0, .pointer none, .int .i64 0] 70)) := hbe.alloc (by have := hbe.size; omega) _
      have hO5 := HO.out.alloc (.cells #[.int .i64 0, .int .i64 1, .int .u64 0, .string ⟨#[]⟩, .slice none 0 0, .slice none 0 0, .pointer none, .int .i64 0] 70)
      clear d0 d1 d2 d3 d4 d5 d6 d7 hrr hbe
      generalize wr.alloc (.cells #[.int .i64 0, .int .i64 1, .int .u64 0, .string ⟨#[]⟩, .slice none 0 0, .slice none 0 0, .pointer none, .int .i64 0] 70) = w5 at *
      generalize wr.heap.size = Y at *
      have HY := Lib.hid hY
      have HB5 := Lib.hid hb5
      have HO5 := Lib.hid hO5
      clear hY hb5 hO5
      have hz5 : Z ≤ w5.heap.size := by have := HB5.out.size; omega
      have HZ5 := Lib.hid hz5
      clear hz5
      go_upto_region 17 with (at_builtin; refine wpList_bstr rfl _ _ rfl Z u0 _ rfl HO5.out ⟨#[44, 32]⟩ [44, 32] rfl (by kernel_rfl) (by decide +kernel) HZ5.out ?_; intro v6 w6 hO6 hb6 hz6 hg6)
      have hY6 : w6.heap[Y]? = some (.cells #[.int .i64 0, .int .i64 1, .int .u64 0, .string ⟨#[]⟩, .slice none 0 0, .slice none 0 0, .pointer none, .int .i64 0] 70) := (hg6.block Y (Array.getElem?_eq_some_iff.1 HY.out).1 (fun e => HO5.out.apart HY.out e.symm)).trans HY.out
      have hB6 : Below Z w0 w6 := HB5.out.trans hb6
      have HO6 := Lib.hid hO6
      have HY6 := Lib.hid hY6
      have HB6 := Lib.hid hB6
      clear hO6 hb6 hz6 hg6 hY6 hB6
      have hz6 : Z ≤ w6.drew.heap.size := by have := HB6.out.size; show Z ≤ w6.heap.size; omega
      have HZ6 := Lib.hid hz6
      have HB6d : Hid (Below Z w0 w6.drew) := Lib.hid HB6.out.drew
      have F : ∀ w', Below Z w0 w' → w'.heap[Y]? = some (.cells #[.int .i64 0, .int .i64 1, .int .u64 0, .string ⟨#[]⟩, .slice none 0 0, .slice none 0 0, .pointer none, .int .i64 0] 70) → (w'.cell? ⟨X, 4, none⟩ = some (.slice (some ⟨g1, 0, none⟩) 2 c1) ∧ w'.cell? ⟨g1, 1, none⟩ = some (.string ⟨#[98]⟩) ∧ w'.cell? ⟨Y, 0, none⟩ = some (.int .i64 0) ∧ w'.cell? ⟨Y, 1, none⟩ = some (.int .i64 1) ∧ w'.cell? ⟨Y, 2, none⟩ = some (.int .u64 0) ∧ w'.cell? ⟨Y, 3, none⟩ = some (.string ⟨#[]⟩) ∧ w'.cell? ⟨Y, 4, none⟩ = some (.slice none 0 0) ∧ w'.cell? ⟨Y, 5, none⟩ = some (.slice none 0 0) ∧ w'.cell? ⟨Y, 6, none⟩ = some (.pointer none) ∧ w'.cell? ⟨Y, 7, none⟩ = some (.int .i64 0)) := fun w' hb hy =>
        ⟨(HXC.out w' hb).1, (HRR.out w' hb).n1, by rw [cell_of_row w' Y 0 _ 70 _ hy]; rfl, by rw [cell_of_row w' Y 1 _ 70 _ hy]; rfl, by rw [cell_of_row w' Y 2 _ 70 _ hy]; rfl, by rw [cell_of_row w' Y 3 _ 70 _ hy]; rfl, by rw [cell_of_row w' Y 4 _ 70 _ hy]; rfl, by rw [cell_of_row w' Y 5 _ 70 _ hy]; rfl, by rw [cell_of_row w' Y 6 _ 70 _ hy]; rfl, by rw [cell_of_row w' Y 7 _ 70 _ hy]; rfl⟩
      have HF := Lib.hid F
      clear F hz6
      have q0 := HF.out w6.drew HB6d.out HY6.out
      obtain ⟨r0, r1, r2, r3, r4, r5, r6, r7, r8, r9⟩ := HF.out w6 HB6.out HY6.out
      go_region_held3 (fun w' => w'.cell? ⟨X, 4, none⟩ = some (.slice (some ⟨g1, 0, none⟩) 2 c1) ∧ w'.cell? ⟨g1, 1, none⟩ = some (.string ⟨#[98]⟩) ∧ w'.cell? ⟨Y, 0, none⟩ = some (.int .i64 0) ∧ w'.cell? ⟨Y, 1, none⟩ = some (.int .i64 1) ∧ w'.cell? ⟨Y, 2, none⟩ = some (.int .u64 0) ∧ w'.cell? ⟨Y, 3, none⟩ = some (.string ⟨#[]⟩) ∧ w'.cell? ⟨Y, 4, none⟩ = some (.slice none 0 0) ∧ w'.cell? ⟨Y, 5, none⟩ = some (.slice none 0 0) ∧ w'.cell? ⟨Y, 6, none⟩ = some (.pointer none) ∧ w'.cell? ⟨Y, 7, none⟩ = some (.int .i64 0)) (first | exact q0 | exact q7 | exact q8 | exact q9)
        (first
          | (refine step_bstr rfl _ _ rfl Z v6 _ rfl HO6.out.drew ⟨#[98]⟩ [98] rfl (by kernel_rfl) (by decide +kernel) HZ6.out ?_; intro v7 w7 hO7 hb7 hz7 hg7; have hB7 : Below Z w0 w7 := HB6d.out.trans hb7; have hY7 : w7.heap[Y]? = some (.cells #[.int .i64 0, .int .i64 1, .int .u64 0, .string ⟨#[]⟩, .slice none 0 0, .slice none 0 0, .pointer none, .int .i64 0] 70) := (hg7.block Y (Array.getElem?_eq_some_iff.1 HY6.out).1 (fun e => HO6.out.apart HY6.out e.symm)).trans HY6.out; have HO7 := Lib.hid hO7; have HB7 := Lib.hid hB7; have HY7 := Lib.hid hY7; have HZ7 := Lib.hid hz7; have q7 := HF.out w7 hB7 hY7; obtain ⟨s0, s1, s2, s3, s4, s5, s6, s7, s8, s9⟩ := HF.out w7 hB7 hY7; clear hO7 hb7 hg7 hB7 hY7 hz7)
          | (refine step_bstr rfl _ _ rfl Z v7 _ rfl HO7.out ⟨#[32, 61, 32]⟩ [32, 61, 32] rfl (by kernel_rfl) (by decide +kernel) HZ7.out ?_; intro v8 w8 hO8 hb8 hz8 hg8; have hB8 : Below Z w0 w8 := HB7.out.trans hb8; have hY8 : w8.heap[Y]? = some (.cells #[.int .i64 0, .int .i64 1, .int .u64 0, .string ⟨#[]⟩, .slice none 0 0, .slice none 0 0, .pointer none, .int .i64 0] 70) := (hg8.block Y (Array.getElem?_eq_some_iff.1 HY7.out).1 (fun e => HO7.out.apart HY7.out e.symm)).trans HY7.out; have HP8 := Lib.hid (put_1 w8 Z v8 _ hO8 (by decide +kernel) hz8); have HO8 := Lib.hid hO8; have HY8 := Lib.hid hY8; have HZ8 := Lib.hid hz8; have HB8 := Lib.hid hB8; have q8 := HF.out w8 hB8 hY8; obtain ⟨t0, t1, t2, t3, t4, t5, t6, t7, t8, t9⟩ := HF.out w8 hB8 hY8; clear hO8 hb8 hg8 hB8 hY8 hz8)
          | (go_at_call 58; refine HP8.out.mono ?_; rintro e w9 ⟨v9, rfl, hO9, hg9, hz9⟩; have hB9 : Below Z w0 w9 := HB8.out.grown hg9 HZ8.out (ownsRow_ge HO8.out); have hY9 : w9.heap[Y]? = some (.cells #[.int .i64 0, .int .i64 1, .int .u64 0, .string ⟨#[]⟩, .slice none 0 0, .slice none 0 0, .pointer none, .int .i64 0] 70) := (hg9.block Y (Array.getElem?_eq_some_iff.1 HY8.out).1 (fun e => HO8.out.apart HY8.out e.symm)).trans HY8.out; have HB9 := Lib.hid hB9; have HO9 := Lib.hid hO9; have q9 := HF.out w9 hB9 hY9; obtain ⟨y0, y1, y2, y3, y4, y5, y6, y7, y8, y9⟩ := HF.out w9 hB9 hY9; clear hO9 hg9 hz9 hB9 hY9)
          | fail)
      all_goals
        go_wp2
        go_round
        case rel => exact ⟨2, by omega, rfl, HO9, HB9⟩
        case measure => simp [intOf]
    · have hz : Z ≤ (wr.alloc (.cells #[.int .u8 125] 5)).heap.size := by have := HB.out.size; simp; omega
      have HZ := Lib.hid hz
      have HO2 := Lib.hid (HO.out.alloc (.cells #[.int .u8 125] 5))
      have HN := Lib.hid (heap_alloc_new wr (.cells #[.int .u8 125] 5))
      have hB2 : Below Z w0 (wr.alloc (.cells #[.int .u8 125] 5)) := HB.out.alloc (by have := HB.out.size; omega) _
      have HB2 := Lib.hid hB2
      clear hz hB2
      go_wp2_with (at_builtin; refine wpList_bbyte rfl _ _ rfl Z u0 _ rfl HO2.out _ _ 125 rfl HN.out (by decide +kernel) HZ.out ?_; intro v9 w9 hO9 hb9 hz9 hg9)
      go_ret
      have hXZ : w.heap.size ≤ Z := by rw [HXe.out]; omega
      exact ⟨v9, rfl, hO9.base hXZ, by rw [HXe.out]; exact hb0.trans ((HB2.out.trans hb9).mono (by rw [← HXe.out]; exact hXZ))⟩
end Go.Proofs.YtoakfninndkgaaaGreatDoor.Val
