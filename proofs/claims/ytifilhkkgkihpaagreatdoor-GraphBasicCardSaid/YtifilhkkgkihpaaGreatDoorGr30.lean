/- Walks: graph.Basic; GraphBasic. -/
import Derived.Test.YtifilhkkgkihpaaGreatDoorGr28
set_option linter.unusedSimpArgs false
set_option linter.unusedVariables false
set_option linter.unusedSimpArgs false
set_option linter.unusedVariables false
namespace Go.Proofs.YtifilhkkgkihpaaGreatDoor
open Go.RowKit
/-- the graph of a kind without kids. -/
def bsc (k : Int) : List Hd := [⟨k, none, 0, 0, [], none, 0, 0, [], false⟩]
def BasicPost (w : World) (k : Int) (e : Ending) (w' : World) : Prop := ∃ g : Nat, e = .returned (.agg #[.slice (some ⟨g, 0, none⟩) 1 1, .int .i64 0]) ∧ HeadsIn w' (some ⟨g, 0, none⟩) 1 (bsc k) ∧ w.heap.size ≤ g ∧ Below w.heap.size w w'
set_option maxRecDepth 20000 in
set_option maxHeartbeats 4000000 in
theorem gb_ok (w : World) (k : Int) (h0 : 0 ≤ k) (h6 : k ≤ 6) : Calls Tryz.prog 37 #[.int .i64 k] w (BasicPost w k) := by
  have h1 : ¬ k < 0 := by omega
  have h2 : ¬ 6 < k := by omega
  have HX1 : Hid ((w.alloc (.cells #[.slice none 0 0, .int .i64 0] 36)).heap[w.heap.size]? = some (.cells #[.slice none 0 0, .int .i64 0] 36 (0, 0))) := Lib.hid (heap_alloc_new w _)
  have HB1 : Hid (Below w.heap.size w (w.alloc (.cells #[.slice none 0 0, .int .i64 0] 36))) := Lib.hid ((Below.refl _ _).alloc (Nat.le_refl _) _)
  go_enter Tryz.func37, Tryz.ntmps37
  go_upto_region 1 with (fail)
  generalize (w.alloc (.cells #[.slice none 0 0, .int .i64 0] 36)) = w1 at *
  have HL1 : Hid (w.heap.size < w1.heap.size) := Lib.hid (Array.getElem?_eq_some_iff.1 HX1.out).1
  have HX2 : Hid ((w1.alloc (.cells #[.int .i64 k, .slice none 0 0, .slice none 0 0, .bool false] 33)).heap[w.heap.size]? = some (.cells #[.slice none 0 0, .int .i64 0] 36 (0, 0))) := Lib.hid ((Below.heap_alloc _ _ _ HL1.out).trans HX1.out)
  have HX3 : Hid ((w1.alloc (.cells #[.int .i64 k, .slice none 0 0, .slice none 0 0, .bool false] 33)).heap[w1.heap.size]? = some (.cells #[.int .i64 k, .slice none 0 0, .slice none 0 0, .bool false] 33 (0, 0))) := Lib.hid (heap_alloc_new w1 _)
  go_wp2_with (refine wpList_store_row rfl 36 _ _ rfl w.heap.size _ rfl rfl 36 _ HX2.out (by kernel_rfl) rfl (by simp [Value.oneCell']) ?_)
  (try simp only [Exit.inBlock, Exit.then])
  have hne : w1.heap.size ≠ w.heap.size := by have := HL1.out; omega
  have hk : ∀ j, ((w1.alloc (.cells #[.int .i64 k, .slice none 0 0, .slice none 0 0, .bool false] 33)).setRow w.heap.size #[.slice (some ⟨w1.heap.size, 0, none⟩) 1 1, .int .i64 0]).cell? ⟨w1.heap.size, j, none⟩ = (#[.int .i64 k, .slice none 0 0, .slice none 0 0, .bool false] : Array Value)[j]? := fun j => by
    rw [World.cell?_of_block (w := (w1.alloc (.cells #[.int .i64 k, .slice none 0 0, .slice none 0 0, .bool false] 33))) (a := ⟨w1.heap.size, j, none⟩) (setRow_other _ _ _ _ hne), cell_of_row _ _ j _ 33 _ HX3.out]
  exact bodyPost_ret (v := .agg #[.slice (some ⟨w1.heap.size, 0, none⟩) 1 1, .int .i64 0]) (results_cell_row (P := Tryz.prog) rfl _ _ w.heap.size 36 _ (0, 0) _ rfl (setRow_heap _ _ _ _ _ _ HX2.out) Tryz.underlying36 rfl (by kernel_rfl)) rfl
    ⟨w1.heap.size, rfl, ⟨rfl, .inr ⟨w1.heap.size, 0, rfl, by rw [setRow_size]; simp, fun i x hi => by
      match i, hi with
      | 0, hi => cases hi; exact ⟨hk 0, hk 1, hk 2, hk 3, ⟨⟨rfl, .inl rfl⟩, ⟨rfl, .inl rfl⟩, Nat.zero_le _, Nat.zero_le _, fun s h => by cases h⟩⟩
      | i + 1, hi => simp [bsc] at hi⟩⟩, HB1.out.size, below_row (HB1.out.alloc HB1.out.size _) (Nat.le_refl _)⟩
set_option maxRecDepth 20000 in
set_option maxHeartbeats 4000000 in
theorem gb_bad (w : World) (k : Int) (h : k < 0 ∨ 6 < k) : Calls Tryz.prog 37 #[.int .i64 k] w fun e w' => e = .returned (.agg #[.slice none 0 0, .int .i64 0]) ∧ Below w.heap.size w w' := by
  have HX1 : Hid ((w.alloc (.cells #[.slice none 0 0, .int .i64 0] 36)).heap[w.heap.size]? = some (.cells #[.slice none 0 0, .int .i64 0] 36 (0, 0))) := Lib.hid (heap_alloc_new w _)
  have HB1 : Hid (Below w.heap.size w (w.alloc (.cells #[.slice none 0 0, .int .i64 0] 36))) := Lib.hid ((Below.refl _ _).alloc (Nat.le_refl _) _)
  have h' : k < 0 ∨ (¬ k < 0 ∧ 6 < k) := by omega
  rcases h' with h1 | ⟨h1, h2⟩
  all_goals
    go_enter Tryz.func37, Tryz.ntmps37
    go_upto_region 1 with (fail)
    generalize (w.alloc (.cells #[.slice none 0 0, .int .i64 0] 36)) = w1 at *
    go_wp2_with (refine wpList_store_row rfl 36 _ _ rfl w.heap.size _ rfl rfl 36 _ HX1.out (by kernel_rfl) rfl (by simp [Value.oneCell']) ?_)
    (try simp only [Exit.inBlock, Exit.then])
    exact bodyPost_ret (v := .agg #[.slice none 0 0, .int .i64 0]) (results_cell_row (P := Tryz.prog) rfl _ _ w.heap.size 36 _ (0, 0) _ rfl (setRow_heap _ _ _ _ _ _ HX1.out) Tryz.underlying36 rfl (by kernel_rfl)) rfl ⟨rfl, below_row HB1.out (Nat.le_refl _)⟩
theorem bsc_gok {w w' : World} {k : Nat} (hk : k ≤ 6) {g : Nat} (h : HeadsIn w' (some ⟨g, 0, none⟩) 1 (bsc (k : Int))) : GOk w' (some ⟨g, 0, none⟩) 1 0 (bsc (k : Int)) where
  heads := h
  few := rfl
  rlt := by decide
  len := by decide
  ok := by rcases (by omega : k = 0 ∨ k = 1 ∨ k = 2 ∨ k = 3 ∨ k = 4 ∨ k = 5 ∨ k = 6) with rfl | rfl | rfl | rfl | rfl | rfl | rfl <;> rfl
  nil x hx _ := by obtain rfl : x = _ := (by simpa [bsc] using hx); rfl
theorem bsc_bis {k : Nat} {HS : List Hd} (h : HS.map vh = [((k : Int), [], [], false)]) : Bis (bsc (k : Int)) HS 0 0 := by
  obtain ⟨x, hx0, hv0⟩ := map1 h
  subst hx0
  simp only [vh, Prod.mk.injEq] at hv0
  obtain ⟨h1, h2, h3, h4⟩ := hv0
  refine ⟨fun i j => i = 0 ∧ j = 0, ⟨fun i j u v hu hv hr => ?_, fun i j u v hu hv hr n a b ha hb => ?_⟩, rfl, rfl⟩
  · obtain ⟨rfl, rfl⟩ := hr
    cases hu
    cases hv
    exact ⟨h1.symm, h4.symm, h2.symm, by rw [h3]⟩
  · obtain ⟨rfl, rfl⟩ := hr
    cases hu
    simp at ha
theorem bis_comp {A B C : List Hd} (hB : OkHeads B) {i j k : Nat} (hj : j < B.length) (h : Bis A B i j) (h' : Bis B C j k) : Bis A C i k := by
  obtain ⟨R, hR, h1⟩ := h
  obtain ⟨R', hR', h1'⟩ := h'
  refine ⟨fun a b => ∃ c, c < B.length ∧ R a c ∧ R' c b, ⟨fun i k x y hx hy e => ?_, fun i k x y hx hy e n a b ha hb => ?_⟩, j, hj, h1, h1'⟩
  · obtain ⟨c, hc, e1, e2⟩ := e
    obtain ⟨z, hz⟩ : ∃ z, B[c]? = some z := ⟨_, List.getElem?_eq_getElem hc⟩
    obtain ⟨p1, p2, p3, p4⟩ := hR.pl i c x z hx hz e1
    obtain ⟨q1, q2, q3, q4⟩ := hR'.pl c k z y hz hy e2
    exact ⟨p1.trans q1, p2.trans q2, p3.trans q3, p4.trans q4⟩
  · obtain ⟨c, hc, e1, e2⟩ := e
    obtain ⟨z, hz⟩ : ∃ z, B[c]? = some z := ⟨_, List.getElem?_eq_getElem hc⟩
    have p4 := (hR.pl i c x z hx hz e1).2.2.2
    obtain ⟨d, hd⟩ : ∃ d, z.KS[n]? = some d := ⟨_, List.getElem?_eq_getElem (by rw [← p4]; exact (List.getElem?_eq_some_iff.1 ha).1)⟩
    have hr := ok_kids hB hz d (List.mem_of_getElem? hd)
    exact ⟨d.toNat, by omega, hR.kid i c x z hx hz e1 n a d ha hd, hR'.kid c k z y hz hy e2 n d b hd hb⟩
set_option maxRecDepth 20000 in
set_option maxHeartbeats 4000000 in
theorem gbasic_bad (w : World) (k : Int) (h : k < 0 ∨ 6 < k) : Calls Tryz.prog 5 #[.int .i64 k] w fun e w' => e = .returned (.bool true) ∧ Below w.heap.size w w' := by
  have KB : Hid (∀ W', Calls Tryz.prog 37 #[.int .i64 k] W' fun e w' => e = .returned (.agg #[.slice none 0 0, .int .i64 0]) ∧ Below W'.heap.size W' w') := Lib.hid (fun W' => gb_bad W' k h)
  have KC : Hid (∀ W', Calls Tryz.prog 38 #[.agg #[.slice none 0 0, .int .i64 0]] W' (ErrPost W' (graphB 0 []))) := Lib.hid (fun W' => check_any W' none 0 0 0 [] ⟨rfl, .inl rfl⟩ (by decide))
  have h' : k < 0 ∨ (¬ k < 0 ∧ 6 < k) := by omega
  rcases h' with h1 | ⟨h1, h2⟩
  all_goals
    go_enter Tryz.func5, Tryz.ntmps5
    go_upto_region 3 with (go_at_call 31; (with_reducible refine (lives8 _).mono ?_); rintro e w2 ⟨rfl, hb2⟩; have HB2 := Lib.hid hb2; clear hb2)
    go_upto_region 4 with (go_at_call 37; (with_reducible refine (KB.out _).mono ?_); rintro e w3 ⟨rfl, hb3⟩; have HB3 := Lib.hid hb3; clear hb3)
    have HX4 : Hid ((w3.alloc (.cells #[.slice none 0 0, .int .i64 0] 36)).heap[w3.heap.size]? = some (.cells #[.slice none 0 0, .int .i64 0] 36 (0, 0))) := Lib.hid (heap_alloc_new w3 _)
    have HB4 : Hid (Below w3.heap.size w3 (w3.alloc (.cells #[.slice none 0 0, .int .i64 0] 36))) := Lib.hid ((Below.refl _ _).alloc (Nat.le_refl _) _)
    generalize (w3.alloc (.cells #[.slice none 0 0, .int .i64 0] 36)) = w4 at *
    have a0 : w4.cell? ⟨w3.heap.size, 0, none⟩ = some (.slice none 0 0) := (by rw [cell_of_row _ _ 0 _ 36 _ HX4.out]; rfl)
    have a1 : w4.cell? ⟨w3.heap.size, 1, none⟩ = some (.int .i64 0) := (by rw [cell_of_row _ _ 1 _ 36 _ HX4.out]; rfl)
    go_wp2_with (go_at_call 38; (with_reducible refine (KC.out _).mono ?_); rintro e w5 ⟨rfl, hb5⟩; have HB5 := Lib.hid hb5; clear hb5)
    go_ret
    exact ⟨rfl, HB2.out.trans ((HB3.out.trans ((HB4.out.trans (HB5.out.mono HB4.out.size)).mono HB3.out.size)).mono HB2.out.size)⟩
set_option maxRecDepth 20000 in
set_option maxHeartbeats 8000000 in
theorem gbasic_0 (w : World) : Calls Tryz.prog 5 #[.int .i64 0] w fun e w' => e = .returned (.bool true) ∧ Below w.heap.size w w' := by
  have KB : Hid (∀ W', Calls Tryz.prog 37 #[.int .i64 0] W' (BasicPost W' ((0 : Nat) : Int))) := Lib.hid (fun W' => gb_ok W' 0 (by decide) (by decide))
  have KT : Hid (∀ W', Calls Tryz.prog 39 #[.string ⟨#[105, 110, 116]⟩] W' (TypedPost W' [(((0 : Nat) : Int), [], [], false)])) := Lib.hid (fun W' => typedT_any W' t_int _ t_int_text)
  go_enter Tryz.func5, Tryz.ntmps5
  go_upto_region 3 with (go_at_call 31; (with_reducible refine (lives8 _).mono ?_); rintro e w2 ⟨rfl, hb2⟩; have HB2 := Lib.hid hb2; clear hb2)
  go_upto_region 4 with (go_at_call 37; (with_reducible refine (KB.out _).mono ?_); rintro e w3 ⟨g, rfl, hh3, hg3, hb3⟩; have HB3 := Lib.hid hb3; have HH3 := Lib.hid hh3; clear hb3 hh3 hg3)
  have HX4 : Hid ((w3.alloc (.cells #[.slice (some ⟨g, 0, none⟩) 1 1, .int .i64 0] 36)).heap[w3.heap.size]? = some (.cells #[.slice (some ⟨g, 0, none⟩) 1 1, .int .i64 0] 36 (0, 0))) := Lib.hid (heap_alloc_new w3 _)
  have HB4 : Hid (Below w3.heap.size w3 (w3.alloc (.cells #[.slice (some ⟨g, 0, none⟩) 1 1, .int .i64 0] 36))) := Lib.hid ((Below.refl _ _).alloc (Nat.le_refl _) _)
  generalize (w3.alloc (.cells #[.slice (some ⟨g, 0, none⟩) 1 1, .int .i64 0] 36)) = w4 at *
  have HGO : Hid (GOk w4 (some ⟨g, 0, none⟩) 1 0 (bsc ((0 : Nat) : Int))) := Lib.hid (bsc_gok (w := w3) (by decide) (HH3.out.on HB4.out))
  have KC : Hid (∀ W', Below w4.heap.size w4 W' → Calls Tryz.prog 38 #[.agg #[.slice (some ⟨g, 0, none⟩) 1 1, .int .i64 0]] W' fun e w' => e = .returned (.int .i64 0) ∧ Below W'.heap.size W' w') := Lib.hid (fun W' hb => by
    have := check_any W' (some ⟨g, 0, none⟩) 1 1 0 (bsc ((0 : Nat) : Int)) (HGO.out.heads.on hb) (by decide)
    rw [show graphB 0 (bsc ((0 : Nat) : Int)) = true from HGO.out.ok] at this
    exact this)
  have HLX : Hid (w3.heap.size < w4.heap.size) := Lib.hid (Array.getElem?_eq_some_iff.1 HX4.out).1
  have a0 : w4.cell? ⟨w3.heap.size, 0, none⟩ = some (.slice (some ⟨g, 0, none⟩) 1 1) := (by rw [cell_of_row _ _ 0 _ 36 _ HX4.out]; rfl)
  have a1 : w4.cell? ⟨w3.heap.size, 1, none⟩ = some (.int .i64 0) := (by rw [cell_of_row _ _ 1 _ 36 _ HX4.out]; rfl)
  have hd4 : Below w4.heap.size w4 w4.drew := (Below.refl _ _).drew
  go_upto_region 6 with (fail)
  go_region_law
    (first
      | (go_simp; go_at_call 38; (with_reducible refine (KC.out _ hd4).mono ?_); rintro e w5 ⟨rfl, hb5⟩; have HB5 : Hid (Below w4.heap.size w4 w5) := Lib.hid (hd4.trans hb5); have b0 : w5.cell? ⟨w3.heap.size, 0, none⟩ = some (.slice (some ⟨g, 0, none⟩) 1 1) := keepB HB5.out HLX.out a0; have b1 : w5.cell? ⟨w3.heap.size, 1, none⟩ = some (.int .i64 0) := keepB HB5.out HLX.out a1; have h5b := HB5.out.alloc HB5.out.size (.cells #[.string ⟨#[105, 110, 116]⟩, .string ⟨#[98, 111, 111, 108]⟩, .string ⟨#[115, 116, 114]⟩, .string ⟨#[102, 108, 111, 97, 116]⟩, .string ⟨#[100, 121, 110]⟩, .string ⟨#[97, 110, 121]⟩, .string ⟨#[110, 111, 110, 101]⟩] 9); have c0 : (w5.alloc (.cells #[.string ⟨#[105, 110, 116]⟩, .string ⟨#[98, 111, 111, 108]⟩, .string ⟨#[115, 116, 114]⟩, .string ⟨#[102, 108, 111, 97, 116]⟩, .string ⟨#[100, 121, 110]⟩, .string ⟨#[97, 110, 121]⟩, .string ⟨#[110, 111, 110, 101]⟩] 9)).cell? ⟨w3.heap.size, 0, none⟩ = some (.slice (some ⟨g, 0, none⟩) 1 1) := keepB h5b HLX.out a0; have c1 : (w5.alloc (.cells #[.string ⟨#[105, 110, 116]⟩, .string ⟨#[98, 111, 111, 108]⟩, .string ⟨#[115, 116, 114]⟩, .string ⟨#[102, 108, 111, 97, 116]⟩, .string ⟨#[100, 121, 110]⟩, .string ⟨#[97, 110, 121]⟩, .string ⟨#[110, 111, 110, 101]⟩] 9)).cell? ⟨w3.heap.size, 1, none⟩ = some (.int .i64 0) := keepB h5b HLX.out a1; clear hb5 h5b)
      | (go_simp; go_at_call 39; (with_reducible refine (KT.out _).mono ?_); rintro e w7 ⟨HS, OS, gt, ct, rfl, hv, hok, hfv, hn, hgr, hb7⟩; have HB7 := Lib.hid hb7; have HV := Lib.hid hv; have HOK := Lib.hid hok; have HNF := Lib.hid hn; have HGT := Lib.hid (typed_gok hok hfv hn (by rw [vh_len hv]; decide) (by rw [vh_len hv]; decide) hgr); have h5a := HB5.out.alloc HB5.out.size (.cells #[.string ⟨#[105, 110, 116]⟩, .string ⟨#[98, 111, 111, 108]⟩, .string ⟨#[115, 116, 114]⟩, .string ⟨#[102, 108, 111, 97, 116]⟩, .string ⟨#[100, 121, 110]⟩, .string ⟨#[97, 110, 121]⟩, .string ⟨#[110, 111, 110, 101]⟩] 9); have HB9 : Hid (Below w4.heap.size w4 w7) := Lib.hid (h5a.trans (hb7.mono h5a.size)); have d0 : w7.cell? ⟨w3.heap.size, 0, none⟩ = some (.slice (some ⟨g, 0, none⟩) 1 1) := keepB HB9.out HLX.out a0; have d1 : w7.cell? ⟨w3.heap.size, 1, none⟩ = some (.int .i64 0) := keepB HB9.out HLX.out a1; have HBI : Hid (Bis (bsc ((0 : Nat) : Int)) OS 0 0) := Lib.hid (bis_comp hok (by rw [vh_len hv]; decide) (bsc_bis hv) (bis_flip (hn.bis hok (by rw [vh_len hv]; decide)))); have KS : Hid (Calls Tryz.prog 36 #[.agg #[.slice (some ⟨g, 0, none⟩) 1 1, .int .i64 0], .agg #[.slice (some ⟨gt, 0, none⟩) OS.length ct, .int .i64 0]] w7 (SamePost w7 (bsc ((0 : Nat) : Int)) OS 0 0)) := Lib.hid (gsame_ok w7 (some ⟨g, 0, none⟩) 1 1 0 _ (HGO.out.on HB9.out) (some ⟨gt, 0, none⟩) OS.length ct 0 OS HGT.out); clear hv hok hfv hn hgr hb7 h5a)
      | (go_simp; go_at_call 36; (with_reducible refine KS.out.mono ?_); rintro e w8 ⟨b, rfl, hb8, hb9⟩; obtain rfl : b = true := hb8.2 HBI.out; have HB8 := Lib.hid hb9; clear hb8 hb9)
      | fail)
  all_goals
    go_wp2
    go_ret
    exact ⟨rfl, HB2.out.trans ((HB3.out.trans ((HB4.out.trans ((HB9.out.trans (HB8.out.mono HB9.out.size)).mono HB4.out.size)).mono HB3.out.size)).mono HB2.out.size)⟩
set_option maxRecDepth 20000 in
set_option maxHeartbeats 8000000 in
theorem gbasic_1 (w : World) : Calls Tryz.prog 5 #[.int .i64 1] w fun e w' => e = .returned (.bool true) ∧ Below w.heap.size w w' := by
  have KB : Hid (∀ W', Calls Tryz.prog 37 #[.int .i64 1] W' (BasicPost W' ((1 : Nat) : Int))) := Lib.hid (fun W' => gb_ok W' 1 (by decide) (by decide))
  have KT : Hid (∀ W', Calls Tryz.prog 39 #[.string ⟨#[98, 111, 111, 108]⟩] W' (TypedPost W' [(((1 : Nat) : Int), [], [], false)])) := Lib.hid (fun W' => typedT_any W' t_bool _ t_bool_text)
  go_enter Tryz.func5, Tryz.ntmps5
  go_upto_region 3 with (go_at_call 31; (with_reducible refine (lives8 _).mono ?_); rintro e w2 ⟨rfl, hb2⟩; have HB2 := Lib.hid hb2; clear hb2)
  go_upto_region 4 with (go_at_call 37; (with_reducible refine (KB.out _).mono ?_); rintro e w3 ⟨g, rfl, hh3, hg3, hb3⟩; have HB3 := Lib.hid hb3; have HH3 := Lib.hid hh3; clear hb3 hh3 hg3)
  have HX4 : Hid ((w3.alloc (.cells #[.slice (some ⟨g, 0, none⟩) 1 1, .int .i64 0] 36)).heap[w3.heap.size]? = some (.cells #[.slice (some ⟨g, 0, none⟩) 1 1, .int .i64 0] 36 (0, 0))) := Lib.hid (heap_alloc_new w3 _)
  have HB4 : Hid (Below w3.heap.size w3 (w3.alloc (.cells #[.slice (some ⟨g, 0, none⟩) 1 1, .int .i64 0] 36))) := Lib.hid ((Below.refl _ _).alloc (Nat.le_refl _) _)
  generalize (w3.alloc (.cells #[.slice (some ⟨g, 0, none⟩) 1 1, .int .i64 0] 36)) = w4 at *
  have HGO : Hid (GOk w4 (some ⟨g, 0, none⟩) 1 0 (bsc ((1 : Nat) : Int))) := Lib.hid (bsc_gok (w := w3) (by decide) (HH3.out.on HB4.out))
  have KC : Hid (∀ W', Below w4.heap.size w4 W' → Calls Tryz.prog 38 #[.agg #[.slice (some ⟨g, 0, none⟩) 1 1, .int .i64 0]] W' fun e w' => e = .returned (.int .i64 0) ∧ Below W'.heap.size W' w') := Lib.hid (fun W' hb => by
    have := check_any W' (some ⟨g, 0, none⟩) 1 1 0 (bsc ((1 : Nat) : Int)) (HGO.out.heads.on hb) (by decide)
    rw [show graphB 0 (bsc ((1 : Nat) : Int)) = true from HGO.out.ok] at this
    exact this)
  have HLX : Hid (w3.heap.size < w4.heap.size) := Lib.hid (Array.getElem?_eq_some_iff.1 HX4.out).1
  have a0 : w4.cell? ⟨w3.heap.size, 0, none⟩ = some (.slice (some ⟨g, 0, none⟩) 1 1) := (by rw [cell_of_row _ _ 0 _ 36 _ HX4.out]; rfl)
  have a1 : w4.cell? ⟨w3.heap.size, 1, none⟩ = some (.int .i64 0) := (by rw [cell_of_row _ _ 1 _ 36 _ HX4.out]; rfl)
  have hd4 : Below w4.heap.size w4 w4.drew := (Below.refl _ _).drew
  go_upto_region 6 with (fail)
  go_region_law
    (first
      | (go_simp; go_at_call 38; (with_reducible refine (KC.out _ hd4).mono ?_); rintro e w5 ⟨rfl, hb5⟩; have HB5 : Hid (Below w4.heap.size w4 w5) := Lib.hid (hd4.trans hb5); have b0 : w5.cell? ⟨w3.heap.size, 0, none⟩ = some (.slice (some ⟨g, 0, none⟩) 1 1) := keepB HB5.out HLX.out a0; have b1 : w5.cell? ⟨w3.heap.size, 1, none⟩ = some (.int .i64 0) := keepB HB5.out HLX.out a1; have h5b := HB5.out.alloc HB5.out.size (.cells #[.string ⟨#[105, 110, 116]⟩, .string ⟨#[98, 111, 111, 108]⟩, .string ⟨#[115, 116, 114]⟩, .string ⟨#[102, 108, 111, 97, 116]⟩, .string ⟨#[100, 121, 110]⟩, .string ⟨#[97, 110, 121]⟩, .string ⟨#[110, 111, 110, 101]⟩] 9); have c0 : (w5.alloc (.cells #[.string ⟨#[105, 110, 116]⟩, .string ⟨#[98, 111, 111, 108]⟩, .string ⟨#[115, 116, 114]⟩, .string ⟨#[102, 108, 111, 97, 116]⟩, .string ⟨#[100, 121, 110]⟩, .string ⟨#[97, 110, 121]⟩, .string ⟨#[110, 111, 110, 101]⟩] 9)).cell? ⟨w3.heap.size, 0, none⟩ = some (.slice (some ⟨g, 0, none⟩) 1 1) := keepB h5b HLX.out a0; have c1 : (w5.alloc (.cells #[.string ⟨#[105, 110, 116]⟩, .string ⟨#[98, 111, 111, 108]⟩, .string ⟨#[115, 116, 114]⟩, .string ⟨#[102, 108, 111, 97, 116]⟩, .string ⟨#[100, 121, 110]⟩, .string ⟨#[97, 110, 121]⟩, .string ⟨#[110, 111, 110, 101]⟩] 9)).cell? ⟨w3.heap.size, 1, none⟩ = some (.int .i64 0) := keepB h5b HLX.out a1; clear hb5 h5b)
      | (go_simp; go_at_call 39; (with_reducible refine (KT.out _).mono ?_); rintro e w7 ⟨HS, OS, gt, ct, rfl, hv, hok, hfv, hn, hgr, hb7⟩; have HB7 := Lib.hid hb7; have HV := Lib.hid hv; have HOK := Lib.hid hok; have HNF := Lib.hid hn; have HGT := Lib.hid (typed_gok hok hfv hn (by rw [vh_len hv]; decide) (by rw [vh_len hv]; decide) hgr); have h5a := HB5.out.alloc HB5.out.size (.cells #[.string ⟨#[105, 110, 116]⟩, .string ⟨#[98, 111, 111, 108]⟩, .string ⟨#[115, 116, 114]⟩, .string ⟨#[102, 108, 111, 97, 116]⟩, .string ⟨#[100, 121, 110]⟩, .string ⟨#[97, 110, 121]⟩, .string ⟨#[110, 111, 110, 101]⟩] 9); have HB9 : Hid (Below w4.heap.size w4 w7) := Lib.hid (h5a.trans (hb7.mono h5a.size)); have d0 : w7.cell? ⟨w3.heap.size, 0, none⟩ = some (.slice (some ⟨g, 0, none⟩) 1 1) := keepB HB9.out HLX.out a0; have d1 : w7.cell? ⟨w3.heap.size, 1, none⟩ = some (.int .i64 0) := keepB HB9.out HLX.out a1; have HBI : Hid (Bis (bsc ((1 : Nat) : Int)) OS 0 0) := Lib.hid (bis_comp hok (by rw [vh_len hv]; decide) (bsc_bis hv) (bis_flip (hn.bis hok (by rw [vh_len hv]; decide)))); have KS : Hid (Calls Tryz.prog 36 #[.agg #[.slice (some ⟨g, 0, none⟩) 1 1, .int .i64 0], .agg #[.slice (some ⟨gt, 0, none⟩) OS.length ct, .int .i64 0]] w7 (SamePost w7 (bsc ((1 : Nat) : Int)) OS 0 0)) := Lib.hid (gsame_ok w7 (some ⟨g, 0, none⟩) 1 1 0 _ (HGO.out.on HB9.out) (some ⟨gt, 0, none⟩) OS.length ct 0 OS HGT.out); clear hv hok hfv hn hgr hb7 h5a)
      | (go_simp; go_at_call 36; (with_reducible refine KS.out.mono ?_); rintro e w8 ⟨b, rfl, hb8, hb9⟩; obtain rfl : b = true := hb8.2 HBI.out; have HB8 := Lib.hid hb9; clear hb8 hb9)
      | fail)
  all_goals
    go_wp2
    go_ret
    exact ⟨rfl, HB2.out.trans ((HB3.out.trans ((HB4.out.trans ((HB9.out.trans (HB8.out.mono HB9.out.size)).mono HB4.out.size)).mono HB3.out.size)).mono HB2.out.size)⟩
set_option maxRecDepth 20000 in
set_option maxHeartbeats 8000000 in
theorem gbasic_2 (w : World) : Calls Tryz.prog 5 #[.int .i64 2] w fun e w' => e = .returned (.bool true) ∧ Below w.heap.size w w' := by
  have KB : Hid (∀ W', Calls Tryz.prog 37 #[.int .i64 2] W' (BasicPost W' ((2 : Nat) : Int))) := Lib.hid (fun W' => gb_ok W' 2 (by decide) (by decide))
  have KT : Hid (∀ W', Calls Tryz.prog 39 #[.string ⟨#[115, 116, 114]⟩] W' (TypedPost W' [(((2 : Nat) : Int), [], [], false)])) := Lib.hid (fun W' => typedT_any W' t_str _ t_str_text)
  go_enter Tryz.func5, Tryz.ntmps5
  go_upto_region 3 with (go_at_call 31; (with_reducible refine (lives8 _).mono ?_); rintro e w2 ⟨rfl, hb2⟩; have HB2 := Lib.hid hb2; clear hb2)
  go_upto_region 4 with (go_at_call 37; (with_reducible refine (KB.out _).mono ?_); rintro e w3 ⟨g, rfl, hh3, hg3, hb3⟩; have HB3 := Lib.hid hb3; have HH3 := Lib.hid hh3; clear hb3 hh3 hg3)
  have HX4 : Hid ((w3.alloc (.cells #[.slice (some ⟨g, 0, none⟩) 1 1, .int .i64 0] 36)).heap[w3.heap.size]? = some (.cells #[.slice (some ⟨g, 0, none⟩) 1 1, .int .i64 0] 36 (0, 0))) := Lib.hid (heap_alloc_new w3 _)
  have HB4 : Hid (Below w3.heap.size w3 (w3.alloc (.cells #[.slice (some ⟨g, 0, none⟩) 1 1, .int .i64 0] 36))) := Lib.hid ((Below.refl _ _).alloc (Nat.le_refl _) _)
  generalize (w3.alloc (.cells #[.slice (some ⟨g, 0, none⟩) 1 1, .int .i64 0] 36)) = w4 at *
  have HGO : Hid (GOk w4 (some ⟨g, 0, none⟩) 1 0 (bsc ((2 : Nat) : Int))) := Lib.hid (bsc_gok (w := w3) (by decide) (HH3.out.on HB4.out))
  have KC : Hid (∀ W', Below w4.heap.size w4 W' → Calls Tryz.prog 38 #[.agg #[.slice (some ⟨g, 0, none⟩) 1 1, .int .i64 0]] W' fun e w' => e = .returned (.int .i64 0) ∧ Below W'.heap.size W' w') := Lib.hid (fun W' hb => by
    have := check_any W' (some ⟨g, 0, none⟩) 1 1 0 (bsc ((2 : Nat) : Int)) (HGO.out.heads.on hb) (by decide)
    rw [show graphB 0 (bsc ((2 : Nat) : Int)) = true from HGO.out.ok] at this
    exact this)
  have HLX : Hid (w3.heap.size < w4.heap.size) := Lib.hid (Array.getElem?_eq_some_iff.1 HX4.out).1
  have a0 : w4.cell? ⟨w3.heap.size, 0, none⟩ = some (.slice (some ⟨g, 0, none⟩) 1 1) := (by rw [cell_of_row _ _ 0 _ 36 _ HX4.out]; rfl)
  have a1 : w4.cell? ⟨w3.heap.size, 1, none⟩ = some (.int .i64 0) := (by rw [cell_of_row _ _ 1 _ 36 _ HX4.out]; rfl)
  have hd4 : Below w4.heap.size w4 w4.drew := (Below.refl _ _).drew
  go_upto_region 6 with (fail)
  go_region_law
    (first
      | (go_simp; go_at_call 38; (with_reducible refine (KC.out _ hd4).mono ?_); rintro e w5 ⟨rfl, hb5⟩; have HB5 : Hid (Below w4.heap.size w4 w5) := Lib.hid (hd4.trans hb5); have b0 : w5.cell? ⟨w3.heap.size, 0, none⟩ = some (.slice (some ⟨g, 0, none⟩) 1 1) := keepB HB5.out HLX.out a0; have b1 : w5.cell? ⟨w3.heap.size, 1, none⟩ = some (.int .i64 0) := keepB HB5.out HLX.out a1; have h5b := HB5.out.alloc HB5.out.size (.cells #[.string ⟨#[105, 110, 116]⟩, .string ⟨#[98, 111, 111, 108]⟩, .string ⟨#[115, 116, 114]⟩, .string ⟨#[102, 108, 111, 97, 116]⟩, .string ⟨#[100, 121, 110]⟩, .string ⟨#[97, 110, 121]⟩, .string ⟨#[110, 111, 110, 101]⟩] 9); have c0 : (w5.alloc (.cells #[.string ⟨#[105, 110, 116]⟩, .string ⟨#[98, 111, 111, 108]⟩, .string ⟨#[115, 116, 114]⟩, .string ⟨#[102, 108, 111, 97, 116]⟩, .string ⟨#[100, 121, 110]⟩, .string ⟨#[97, 110, 121]⟩, .string ⟨#[110, 111, 110, 101]⟩] 9)).cell? ⟨w3.heap.size, 0, none⟩ = some (.slice (some ⟨g, 0, none⟩) 1 1) := keepB h5b HLX.out a0; have c1 : (w5.alloc (.cells #[.string ⟨#[105, 110, 116]⟩, .string ⟨#[98, 111, 111, 108]⟩, .string ⟨#[115, 116, 114]⟩, .string ⟨#[102, 108, 111, 97, 116]⟩, .string ⟨#[100, 121, 110]⟩, .string ⟨#[97, 110, 121]⟩, .string ⟨#[110, 111, 110, 101]⟩] 9)).cell? ⟨w3.heap.size, 1, none⟩ = some (.int .i64 0) := keepB h5b HLX.out a1; clear hb5 h5b)
      | (go_simp; go_at_call 39; (with_reducible refine (KT.out _).mono ?_); rintro e w7 ⟨HS, OS, gt, ct, rfl, hv, hok, hfv, hn, hgr, hb7⟩; have HB7 := Lib.hid hb7; have HV := Lib.hid hv; have HOK := Lib.hid hok; have HNF := Lib.hid hn; have HGT := Lib.hid (typed_gok hok hfv hn (by rw [vh_len hv]; decide) (by rw [vh_len hv]; decide) hgr); have h5a := HB5.out.alloc HB5.out.size (.cells #[.string ⟨#[105, 110, 116]⟩, .string ⟨#[98, 111, 111, 108]⟩, .string ⟨#[115, 116, 114]⟩, .string ⟨#[102, 108, 111, 97, 116]⟩, .string ⟨#[100, 121, 110]⟩, .string ⟨#[97, 110, 121]⟩, .string ⟨#[110, 111, 110, 101]⟩] 9); have HB9 : Hid (Below w4.heap.size w4 w7) := Lib.hid (h5a.trans (hb7.mono h5a.size)); have d0 : w7.cell? ⟨w3.heap.size, 0, none⟩ = some (.slice (some ⟨g, 0, none⟩) 1 1) := keepB HB9.out HLX.out a0; have d1 : w7.cell? ⟨w3.heap.size, 1, none⟩ = some (.int .i64 0) := keepB HB9.out HLX.out a1; have HBI : Hid (Bis (bsc ((2 : Nat) : Int)) OS 0 0) := Lib.hid (bis_comp hok (by rw [vh_len hv]; decide) (bsc_bis hv) (bis_flip (hn.bis hok (by rw [vh_len hv]; decide)))); have KS : Hid (Calls Tryz.prog 36 #[.agg #[.slice (some ⟨g, 0, none⟩) 1 1, .int .i64 0], .agg #[.slice (some ⟨gt, 0, none⟩) OS.length ct, .int .i64 0]] w7 (SamePost w7 (bsc ((2 : Nat) : Int)) OS 0 0)) := Lib.hid (gsame_ok w7 (some ⟨g, 0, none⟩) 1 1 0 _ (HGO.out.on HB9.out) (some ⟨gt, 0, none⟩) OS.length ct 0 OS HGT.out); clear hv hok hfv hn hgr hb7 h5a)
      | (go_simp; go_at_call 36; (with_reducible refine KS.out.mono ?_); rintro e w8 ⟨b, rfl, hb8, hb9⟩; obtain rfl : b = true := hb8.2 HBI.out; have HB8 := Lib.hid hb9; clear hb8 hb9)
      | fail)
  all_goals
    go_wp2
    go_ret
    exact ⟨rfl, HB2.out.trans ((HB3.out.trans ((HB4.out.trans ((HB9.out.trans (HB8.out.mono HB9.out.size)).mono HB4.out.size)).mono HB3.out.size)).mono HB2.out.size)⟩
set_option maxRecDepth 20000 in
set_option maxHeartbeats 8000000 in
theorem gbasic_3 (w : World) : Calls Tryz.prog 5 #[.int .i64 3] w fun e w' => e = .returned (.bool true) ∧ Below w.heap.size w w' := by
  have KB : Hid (∀ W', Calls Tryz.prog 37 #[.int .i64 3] W' (BasicPost W' ((3 : Nat) : Int))) := Lib.hid (fun W' => gb_ok W' 3 (by decide) (by decide))
  have KT : Hid (∀ W', Calls Tryz.prog 39 #[.string ⟨#[102, 108, 111, 97, 116]⟩] W' (TypedPost W' [(((3 : Nat) : Int), [], [], false)])) := Lib.hid (fun W' => typedT_any W' t_float _ t_float_text)
  go_enter Tryz.func5, Tryz.ntmps5
  go_upto_region 3 with (go_at_call 31; (with_reducible refine (lives8 _).mono ?_); rintro e w2 ⟨rfl, hb2⟩; have HB2 := Lib.hid hb2; clear hb2)
  go_upto_region 4 with (go_at_call 37; (with_reducible refine (KB.out _).mono ?_); rintro e w3 ⟨g, rfl, hh3, hg3, hb3⟩; have HB3 := Lib.hid hb3; have HH3 := Lib.hid hh3; clear hb3 hh3 hg3)
  have HX4 : Hid ((w3.alloc (.cells #[.slice (some ⟨g, 0, none⟩) 1 1, .int .i64 0] 36)).heap[w3.heap.size]? = some (.cells #[.slice (some ⟨g, 0, none⟩) 1 1, .int .i64 0] 36 (0, 0))) := Lib.hid (heap_alloc_new w3 _)
  have HB4 : Hid (Below w3.heap.size w3 (w3.alloc (.cells #[.slice (some ⟨g, 0, none⟩) 1 1, .int .i64 0] 36))) := Lib.hid ((Below.refl _ _).alloc (Nat.le_refl _) _)
  generalize (w3.alloc (.cells #[.slice (some ⟨g, 0, none⟩) 1 1, .int .i64 0] 36)) = w4 at *
  have HGO : Hid (GOk w4 (some ⟨g, 0, none⟩) 1 0 (bsc ((3 : Nat) : Int))) := Lib.hid (bsc_gok (w := w3) (by decide) (HH3.out.on HB4.out))
  have KC : Hid (∀ W', Below w4.heap.size w4 W' → Calls Tryz.prog 38 #[.agg #[.slice (some ⟨g, 0, none⟩) 1 1, .int .i64 0]] W' fun e w' => e = .returned (.int .i64 0) ∧ Below W'.heap.size W' w') := Lib.hid (fun W' hb => by
    have := check_any W' (some ⟨g, 0, none⟩) 1 1 0 (bsc ((3 : Nat) : Int)) (HGO.out.heads.on hb) (by decide)
    rw [show graphB 0 (bsc ((3 : Nat) : Int)) = true from HGO.out.ok] at this
    exact this)
  have HLX : Hid (w3.heap.size < w4.heap.size) := Lib.hid (Array.getElem?_eq_some_iff.1 HX4.out).1
  have a0 : w4.cell? ⟨w3.heap.size, 0, none⟩ = some (.slice (some ⟨g, 0, none⟩) 1 1) := (by rw [cell_of_row _ _ 0 _ 36 _ HX4.out]; rfl)
  have a1 : w4.cell? ⟨w3.heap.size, 1, none⟩ = some (.int .i64 0) := (by rw [cell_of_row _ _ 1 _ 36 _ HX4.out]; rfl)
  have hd4 : Below w4.heap.size w4 w4.drew := (Below.refl _ _).drew
  go_upto_region 6 with (fail)
  go_region_law
    (first
      | (go_simp; go_at_call 38; (with_reducible refine (KC.out _ hd4).mono ?_); rintro e w5 ⟨rfl, hb5⟩; have HB5 : Hid (Below w4.heap.size w4 w5) := Lib.hid (hd4.trans hb5); have b0 : w5.cell? ⟨w3.heap.size, 0, none⟩ = some (.slice (some ⟨g, 0, none⟩) 1 1) := keepB HB5.out HLX.out a0; have b1 : w5.cell? ⟨w3.heap.size, 1, none⟩ = some (.int .i64 0) := keepB HB5.out HLX.out a1; have h5b := HB5.out.alloc HB5.out.size (.cells #[.string ⟨#[105, 110, 116]⟩, .string ⟨#[98, 111, 111, 108]⟩, .string ⟨#[115, 116, 114]⟩, .string ⟨#[102, 108, 111, 97, 116]⟩, .string ⟨#[100, 121, 110]⟩, .string ⟨#[97, 110, 121]⟩, .string ⟨#[110, 111, 110, 101]⟩] 9); have c0 : (w5.alloc (.cells #[.string ⟨#[105, 110, 116]⟩, .string ⟨#[98, 111, 111, 108]⟩, .string ⟨#[115, 116, 114]⟩, .string ⟨#[102, 108, 111, 97, 116]⟩, .string ⟨#[100, 121, 110]⟩, .string ⟨#[97, 110, 121]⟩, .string ⟨#[110, 111, 110, 101]⟩] 9)).cell? ⟨w3.heap.size, 0, none⟩ = some (.slice (some ⟨g, 0, none⟩) 1 1) := keepB h5b HLX.out a0; have c1 : (w5.alloc (.cells #[.string ⟨#[105, 110, 116]⟩, .string ⟨#[98, 111, 111, 108]⟩, .string ⟨#[115, 116, 114]⟩, .string ⟨#[102, 108, 111, 97, 116]⟩, .string ⟨#[100, 121, 110]⟩, .string ⟨#[97, 110, 121]⟩, .string ⟨#[110, 111, 110, 101]⟩] 9)).cell? ⟨w3.heap.size, 1, none⟩ = some (.int .i64 0) := keepB h5b HLX.out a1; clear hb5 h5b)
      | (go_simp; go_at_call 39; (with_reducible refine (KT.out _).mono ?_); rintro e w7 ⟨HS, OS, gt, ct, rfl, hv, hok, hfv, hn, hgr, hb7⟩; have HB7 := Lib.hid hb7; have HV := Lib.hid hv; have HOK := Lib.hid hok; have HNF := Lib.hid hn; have HGT := Lib.hid (typed_gok hok hfv hn (by rw [vh_len hv]; decide) (by rw [vh_len hv]; decide) hgr); have h5a := HB5.out.alloc HB5.out.size (.cells #[.string ⟨#[105, 110, 116]⟩, .string ⟨#[98, 111, 111, 108]⟩, .string ⟨#[115, 116, 114]⟩, .string ⟨#[102, 108, 111, 97, 116]⟩, .string ⟨#[100, 121, 110]⟩, .string ⟨#[97, 110, 121]⟩, .string ⟨#[110, 111, 110, 101]⟩] 9); have HB9 : Hid (Below w4.heap.size w4 w7) := Lib.hid (h5a.trans (hb7.mono h5a.size)); have d0 : w7.cell? ⟨w3.heap.size, 0, none⟩ = some (.slice (some ⟨g, 0, none⟩) 1 1) := keepB HB9.out HLX.out a0; have d1 : w7.cell? ⟨w3.heap.size, 1, none⟩ = some (.int .i64 0) := keepB HB9.out HLX.out a1; have HBI : Hid (Bis (bsc ((3 : Nat) : Int)) OS 0 0) := Lib.hid (bis_comp hok (by rw [vh_len hv]; decide) (bsc_bis hv) (bis_flip (hn.bis hok (by rw [vh_len hv]; decide)))); have KS : Hid (Calls Tryz.prog 36 #[.agg #[.slice (some ⟨g, 0, none⟩) 1 1, .int .i64 0], .agg #[.slice (some ⟨gt, 0, none⟩) OS.length ct, .int .i64 0]] w7 (SamePost w7 (bsc ((3 : Nat) : Int)) OS 0 0)) := Lib.hid (gsame_ok w7 (some ⟨g, 0, none⟩) 1 1 0 _ (HGO.out.on HB9.out) (some ⟨gt, 0, none⟩) OS.length ct 0 OS HGT.out); clear hv hok hfv hn hgr hb7 h5a)
      | (go_simp; go_at_call 36; (with_reducible refine KS.out.mono ?_); rintro e w8 ⟨b, rfl, hb8, hb9⟩; obtain rfl : b = true := hb8.2 HBI.out; have HB8 := Lib.hid hb9; clear hb8 hb9)
      | fail)
  all_goals
    go_wp2
    go_ret
    exact ⟨rfl, HB2.out.trans ((HB3.out.trans ((HB4.out.trans ((HB9.out.trans (HB8.out.mono HB9.out.size)).mono HB4.out.size)).mono HB3.out.size)).mono HB2.out.size)⟩
set_option maxRecDepth 20000 in
set_option maxHeartbeats 8000000 in
theorem gbasic_4 (w : World) : Calls Tryz.prog 5 #[.int .i64 4] w fun e w' => e = .returned (.bool true) ∧ Below w.heap.size w w' := by
  have KB : Hid (∀ W', Calls Tryz.prog 37 #[.int .i64 4] W' (BasicPost W' ((4 : Nat) : Int))) := Lib.hid (fun W' => gb_ok W' 4 (by decide) (by decide))
  have KT : Hid (∀ W', Calls Tryz.prog 39 #[.string ⟨#[100, 121, 110]⟩] W' (TypedPost W' [(((4 : Nat) : Int), [], [], false)])) := Lib.hid (fun W' => typedT_any W' t_dyn _ t_dyn_text)
  go_enter Tryz.func5, Tryz.ntmps5
  go_upto_region 3 with (go_at_call 31; (with_reducible refine (lives8 _).mono ?_); rintro e w2 ⟨rfl, hb2⟩; have HB2 := Lib.hid hb2; clear hb2)
  go_upto_region 4 with (go_at_call 37; (with_reducible refine (KB.out _).mono ?_); rintro e w3 ⟨g, rfl, hh3, hg3, hb3⟩; have HB3 := Lib.hid hb3; have HH3 := Lib.hid hh3; clear hb3 hh3 hg3)
  have HX4 : Hid ((w3.alloc (.cells #[.slice (some ⟨g, 0, none⟩) 1 1, .int .i64 0] 36)).heap[w3.heap.size]? = some (.cells #[.slice (some ⟨g, 0, none⟩) 1 1, .int .i64 0] 36 (0, 0))) := Lib.hid (heap_alloc_new w3 _)
  have HB4 : Hid (Below w3.heap.size w3 (w3.alloc (.cells #[.slice (some ⟨g, 0, none⟩) 1 1, .int .i64 0] 36))) := Lib.hid ((Below.refl _ _).alloc (Nat.le_refl _) _)
  generalize (w3.alloc (.cells #[.slice (some ⟨g, 0, none⟩) 1 1, .int .i64 0] 36)) = w4 at *
  have HGO : Hid (GOk w4 (some ⟨g, 0, none⟩) 1 0 (bsc ((4 : Nat) : Int))) := Lib.hid (bsc_gok (w := w3) (by decide) (HH3.out.on HB4.out))
  have KC : Hid (∀ W', Below w4.heap.size w4 W' → Calls Tryz.prog 38 #[.agg #[.slice (some ⟨g, 0, none⟩) 1 1, .int .i64 0]] W' fun e w' => e = .returned (.int .i64 0) ∧ Below W'.heap.size W' w') := Lib.hid (fun W' hb => by
    have := check_any W' (some ⟨g, 0, none⟩) 1 1 0 (bsc ((4 : Nat) : Int)) (HGO.out.heads.on hb) (by decide)
    rw [show graphB 0 (bsc ((4 : Nat) : Int)) = true from HGO.out.ok] at this
    exact this)
  have HLX : Hid (w3.heap.size < w4.heap.size) := Lib.hid (Array.getElem?_eq_some_iff.1 HX4.out).1
  have a0 : w4.cell? ⟨w3.heap.size, 0, none⟩ = some (.slice (some ⟨g, 0, none⟩) 1 1) := (by rw [cell_of_row _ _ 0 _ 36 _ HX4.out]; rfl)
  have a1 : w4.cell? ⟨w3.heap.size, 1, none⟩ = some (.int .i64 0) := (by rw [cell_of_row _ _ 1 _ 36 _ HX4.out]; rfl)
  have hd4 : Below w4.heap.size w4 w4.drew := (Below.refl _ _).drew
  go_upto_region 6 with (fail)
  go_region_law
    (first
      | (go_simp; go_at_call 38; (with_reducible refine (KC.out _ hd4).mono ?_); rintro e w5 ⟨rfl, hb5⟩; have HB5 : Hid (Below w4.heap.size w4 w5) := Lib.hid (hd4.trans hb5); have b0 : w5.cell? ⟨w3.heap.size, 0, none⟩ = some (.slice (some ⟨g, 0, none⟩) 1 1) := keepB HB5.out HLX.out a0; have b1 : w5.cell? ⟨w3.heap.size, 1, none⟩ = some (.int .i64 0) := keepB HB5.out HLX.out a1; have h5b := HB5.out.alloc HB5.out.size (.cells #[.string ⟨#[105, 110, 116]⟩, .string ⟨#[98, 111, 111, 108]⟩, .string ⟨#[115, 116, 114]⟩, .string ⟨#[102, 108, 111, 97, 116]⟩, .string ⟨#[100, 121, 110]⟩, .string ⟨#[97, 110, 121]⟩, .string ⟨#[110, 111, 110, 101]⟩] 9); have c0 : (w5.alloc (.cells #[.string ⟨#[105, 110, 116]⟩, .string ⟨#[98, 111, 111, 108]⟩, .string ⟨#[115, 116, 114]⟩, .string ⟨#[102, 108, 111, 97, 116]⟩, .string ⟨#[100, 121, 110]⟩, .string ⟨#[97, 110, 121]⟩, .string ⟨#[110, 111, 110, 101]⟩] 9)).cell? ⟨w3.heap.size, 0, none⟩ = some (.slice (some ⟨g, 0, none⟩) 1 1) := keepB h5b HLX.out a0; have c1 : (w5.alloc (.cells #[.string ⟨#[105, 110, 116]⟩, .string ⟨#[98, 111, 111, 108]⟩, .string ⟨#[115, 116, 114]⟩, .string ⟨#[102, 108, 111, 97, 116]⟩, .string ⟨#[100, 121, 110]⟩, .string ⟨#[97, 110, 121]⟩, .string ⟨#[110, 111, 110, 101]⟩] 9)).cell? ⟨w3.heap.size, 1, none⟩ = some (.int .i64 0) := keepB h5b HLX.out a1; clear hb5 h5b)
      | (go_simp; go_at_call 39; (with_reducible refine (KT.out _).mono ?_); rintro e w7 ⟨HS, OS, gt, ct, rfl, hv, hok, hfv, hn, hgr, hb7⟩; have HB7 := Lib.hid hb7; have HV := Lib.hid hv; have HOK := Lib.hid hok; have HNF := Lib.hid hn; have HGT := Lib.hid (typed_gok hok hfv hn (by rw [vh_len hv]; decide) (by rw [vh_len hv]; decide) hgr); have h5a := HB5.out.alloc HB5.out.size (.cells #[.string ⟨#[105, 110, 116]⟩, .string ⟨#[98, 111, 111, 108]⟩, .string ⟨#[115, 116, 114]⟩, .string ⟨#[102, 108, 111, 97, 116]⟩, .string ⟨#[100, 121, 110]⟩, .string ⟨#[97, 110, 121]⟩, .string ⟨#[110, 111, 110, 101]⟩] 9); have HB9 : Hid (Below w4.heap.size w4 w7) := Lib.hid (h5a.trans (hb7.mono h5a.size)); have d0 : w7.cell? ⟨w3.heap.size, 0, none⟩ = some (.slice (some ⟨g, 0, none⟩) 1 1) := keepB HB9.out HLX.out a0; have d1 : w7.cell? ⟨w3.heap.size, 1, none⟩ = some (.int .i64 0) := keepB HB9.out HLX.out a1; have HBI : Hid (Bis (bsc ((4 : Nat) : Int)) OS 0 0) := Lib.hid (bis_comp hok (by rw [vh_len hv]; decide) (bsc_bis hv) (bis_flip (hn.bis hok (by rw [vh_len hv]; decide)))); have KS : Hid (Calls Tryz.prog 36 #[.agg #[.slice (some ⟨g, 0, none⟩) 1 1, .int .i64 0], .agg #[.slice (some ⟨gt, 0, none⟩) OS.length ct, .int .i64 0]] w7 (SamePost w7 (bsc ((4 : Nat) : Int)) OS 0 0)) := Lib.hid (gsame_ok w7 (some ⟨g, 0, none⟩) 1 1 0 _ (HGO.out.on HB9.out) (some ⟨gt, 0, none⟩) OS.length ct 0 OS HGT.out); clear hv hok hfv hn hgr hb7 h5a)
      | (go_simp; go_at_call 36; (with_reducible refine KS.out.mono ?_); rintro e w8 ⟨b, rfl, hb8, hb9⟩; obtain rfl : b = true := hb8.2 HBI.out; have HB8 := Lib.hid hb9; clear hb8 hb9)
      | fail)
  all_goals
    go_wp2
    go_ret
    exact ⟨rfl, HB2.out.trans ((HB3.out.trans ((HB4.out.trans ((HB9.out.trans (HB8.out.mono HB9.out.size)).mono HB4.out.size)).mono HB3.out.size)).mono HB2.out.size)⟩
set_option maxRecDepth 20000 in
set_option maxHeartbeats 8000000 in
theorem gbasic_5 (w : World) : Calls Tryz.prog 5 #[.int .i64 5] w fun e w' => e = .returned (.bool true) ∧ Below w.heap.size w w' := by
  have KB : Hid (∀ W', Calls Tryz.prog 37 #[.int .i64 5] W' (BasicPost W' ((5 : Nat) : Int))) := Lib.hid (fun W' => gb_ok W' 5 (by decide) (by decide))
  have KT : Hid (∀ W', Calls Tryz.prog 39 #[.string ⟨#[97, 110, 121]⟩] W' (TypedPost W' [(((5 : Nat) : Int), [], [], false)])) := Lib.hid (fun W' => typedT_any W' t_any _ t_any_text)
  go_enter Tryz.func5, Tryz.ntmps5
  go_upto_region 3 with (go_at_call 31; (with_reducible refine (lives8 _).mono ?_); rintro e w2 ⟨rfl, hb2⟩; have HB2 := Lib.hid hb2; clear hb2)
  go_upto_region 4 with (go_at_call 37; (with_reducible refine (KB.out _).mono ?_); rintro e w3 ⟨g, rfl, hh3, hg3, hb3⟩; have HB3 := Lib.hid hb3; have HH3 := Lib.hid hh3; clear hb3 hh3 hg3)
  have HX4 : Hid ((w3.alloc (.cells #[.slice (some ⟨g, 0, none⟩) 1 1, .int .i64 0] 36)).heap[w3.heap.size]? = some (.cells #[.slice (some ⟨g, 0, none⟩) 1 1, .int .i64 0] 36 (0, 0))) := Lib.hid (heap_alloc_new w3 _)
  have HB4 : Hid (Below w3.heap.size w3 (w3.alloc (.cells #[.slice (some ⟨g, 0, none⟩) 1 1, .int .i64 0] 36))) := Lib.hid ((Below.refl _ _).alloc (Nat.le_refl _) _)
  generalize (w3.alloc (.cells #[.slice (some ⟨g, 0, none⟩) 1 1, .int .i64 0] 36)) = w4 at *
  have HGO : Hid (GOk w4 (some ⟨g, 0, none⟩) 1 0 (bsc ((5 : Nat) : Int))) := Lib.hid (bsc_gok (w := w3) (by decide) (HH3.out.on HB4.out))
  have KC : Hid (∀ W', Below w4.heap.size w4 W' → Calls Tryz.prog 38 #[.agg #[.slice (some ⟨g, 0, none⟩) 1 1, .int .i64 0]] W' fun e w' => e = .returned (.int .i64 0) ∧ Below W'.heap.size W' w') := Lib.hid (fun W' hb => by
    have := check_any W' (some ⟨g, 0, none⟩) 1 1 0 (bsc ((5 : Nat) : Int)) (HGO.out.heads.on hb) (by decide)
    rw [show graphB 0 (bsc ((5 : Nat) : Int)) = true from HGO.out.ok] at this
    exact this)
  have HLX : Hid (w3.heap.size < w4.heap.size) := Lib.hid (Array.getElem?_eq_some_iff.1 HX4.out).1
  have a0 : w4.cell? ⟨w3.heap.size, 0, none⟩ = some (.slice (some ⟨g, 0, none⟩) 1 1) := (by rw [cell_of_row _ _ 0 _ 36 _ HX4.out]; rfl)
  have a1 : w4.cell? ⟨w3.heap.size, 1, none⟩ = some (.int .i64 0) := (by rw [cell_of_row _ _ 1 _ 36 _ HX4.out]; rfl)
  have hd4 : Below w4.heap.size w4 w4.drew := (Below.refl _ _).drew
  go_upto_region 6 with (fail)
  go_region_law
    (first
      | (go_simp; go_at_call 38; (with_reducible refine (KC.out _ hd4).mono ?_); rintro e w5 ⟨rfl, hb5⟩; have HB5 : Hid (Below w4.heap.size w4 w5) := Lib.hid (hd4.trans hb5); have b0 : w5.cell? ⟨w3.heap.size, 0, none⟩ = some (.slice (some ⟨g, 0, none⟩) 1 1) := keepB HB5.out HLX.out a0; have b1 : w5.cell? ⟨w3.heap.size, 1, none⟩ = some (.int .i64 0) := keepB HB5.out HLX.out a1; have h5b := HB5.out.alloc HB5.out.size (.cells #[.string ⟨#[105, 110, 116]⟩, .string ⟨#[98, 111, 111, 108]⟩, .string ⟨#[115, 116, 114]⟩, .string ⟨#[102, 108, 111, 97, 116]⟩, .string ⟨#[100, 121, 110]⟩, .string ⟨#[97, 110, 121]⟩, .string ⟨#[110, 111, 110, 101]⟩] 9); have c0 : (w5.alloc (.cells #[.string ⟨#[105, 110, 116]⟩, .string ⟨#[98, 111, 111, 108]⟩, .string ⟨#[115, 116, 114]⟩, .string ⟨#[102, 108, 111, 97, 116]⟩, .string ⟨#[100, 121, 110]⟩, .string ⟨#[97, 110, 121]⟩, .string ⟨#[110, 111, 110, 101]⟩] 9)).cell? ⟨w3.heap.size, 0, none⟩ = some (.slice (some ⟨g, 0, none⟩) 1 1) := keepB h5b HLX.out a0; have c1 : (w5.alloc (.cells #[.string ⟨#[105, 110, 116]⟩, .string ⟨#[98, 111, 111, 108]⟩, .string ⟨#[115, 116, 114]⟩, .string ⟨#[102, 108, 111, 97, 116]⟩, .string ⟨#[100, 121, 110]⟩, .string ⟨#[97, 110, 121]⟩, .string ⟨#[110, 111, 110, 101]⟩] 9)).cell? ⟨w3.heap.size, 1, none⟩ = some (.int .i64 0) := keepB h5b HLX.out a1; clear hb5 h5b)
      | (go_simp; go_at_call 39; (with_reducible refine (KT.out _).mono ?_); rintro e w7 ⟨HS, OS, gt, ct, rfl, hv, hok, hfv, hn, hgr, hb7⟩; have HB7 := Lib.hid hb7; have HV := Lib.hid hv; have HOK := Lib.hid hok; have HNF := Lib.hid hn; have HGT := Lib.hid (typed_gok hok hfv hn (by rw [vh_len hv]; decide) (by rw [vh_len hv]; decide) hgr); have h5a := HB5.out.alloc HB5.out.size (.cells #[.string ⟨#[105, 110, 116]⟩, .string ⟨#[98, 111, 111, 108]⟩, .string ⟨#[115, 116, 114]⟩, .string ⟨#[102, 108, 111, 97, 116]⟩, .string ⟨#[100, 121, 110]⟩, .string ⟨#[97, 110, 121]⟩, .string ⟨#[110, 111, 110, 101]⟩] 9); have HB9 : Hid (Below w4.heap.size w4 w7) := Lib.hid (h5a.trans (hb7.mono h5a.size)); have d0 : w7.cell? ⟨w3.heap.size, 0, none⟩ = some (.slice (some ⟨g, 0, none⟩) 1 1) := keepB HB9.out HLX.out a0; have d1 : w7.cell? ⟨w3.heap.size, 1, none⟩ = some (.int .i64 0) := keepB HB9.out HLX.out a1; have HBI : Hid (Bis (bsc ((5 : Nat) : Int)) OS 0 0) := Lib.hid (bis_comp hok (by rw [vh_len hv]; decide) (bsc_bis hv) (bis_flip (hn.bis hok (by rw [vh_len hv]; decide)))); have KS : Hid (Calls Tryz.prog 36 #[.agg #[.slice (some ⟨g, 0, none⟩) 1 1, .int .i64 0], .agg #[.slice (some ⟨gt, 0, none⟩) OS.length ct, .int .i64 0]] w7 (SamePost w7 (bsc ((5 : Nat) : Int)) OS 0 0)) := Lib.hid (gsame_ok w7 (some ⟨g, 0, none⟩) 1 1 0 _ (HGO.out.on HB9.out) (some ⟨gt, 0, none⟩) OS.length ct 0 OS HGT.out); clear hv hok hfv hn hgr hb7 h5a)
      | (go_simp; go_at_call 36; (with_reducible refine KS.out.mono ?_); rintro e w8 ⟨b, rfl, hb8, hb9⟩; obtain rfl : b = true := hb8.2 HBI.out; have HB8 := Lib.hid hb9; clear hb8 hb9)
      | fail)
  all_goals
    go_wp2
    go_ret
    exact ⟨rfl, HB2.out.trans ((HB3.out.trans ((HB4.out.trans ((HB9.out.trans (HB8.out.mono HB9.out.size)).mono HB4.out.size)).mono HB3.out.size)).mono HB2.out.size)⟩
set_option maxRecDepth 20000 in
set_option maxHeartbeats 8000000 in
theorem gbasic_6 (w : World) : Calls Tryz.prog 5 #[.int .i64 6] w fun e w' => e = .returned (.bool true) ∧ Below w.heap.size w w' := by
  have KB : Hid (∀ W', Calls Tryz.prog 37 #[.int .i64 6] W' (BasicPost W' ((6 : Nat) : Int))) := Lib.hid (fun W' => gb_ok W' 6 (by decide) (by decide))
  have KT : Hid (∀ W', Calls Tryz.prog 39 #[.string ⟨#[110, 111, 110, 101]⟩] W' (TypedPost W' [(((6 : Nat) : Int), [], [], false)])) := Lib.hid (fun W' => typedT_any W' t_none _ t_none_text)
  go_enter Tryz.func5, Tryz.ntmps5
  go_upto_region 3 with (go_at_call 31; (with_reducible refine (lives8 _).mono ?_); rintro e w2 ⟨rfl, hb2⟩; have HB2 := Lib.hid hb2; clear hb2)
  go_upto_region 4 with (go_at_call 37; (with_reducible refine (KB.out _).mono ?_); rintro e w3 ⟨g, rfl, hh3, hg3, hb3⟩; have HB3 := Lib.hid hb3; have HH3 := Lib.hid hh3; clear hb3 hh3 hg3)
  have HX4 : Hid ((w3.alloc (.cells #[.slice (some ⟨g, 0, none⟩) 1 1, .int .i64 0] 36)).heap[w3.heap.size]? = some (.cells #[.slice (some ⟨g, 0, none⟩) 1 1, .int .i64 0] 36 (0, 0))) := Lib.hid (heap_alloc_new w3 _)
  have HB4 : Hid (Below w3.heap.size w3 (w3.alloc (.cells #[.slice (some ⟨g, 0, none⟩) 1 1, .int .i64 0] 36))) := Lib.hid ((Below.refl _ _).alloc (Nat.le_refl _) _)
  generalize (w3.alloc (.cells #[.slice (some ⟨g, 0, none⟩) 1 1, .int .i64 0] 36)) = w4 at *
  have HGO : Hid (GOk w4 (some ⟨g, 0, none⟩) 1 0 (bsc ((6 : Nat) : Int))) := Lib.hid (bsc_gok (w := w3) (by decide) (HH3.out.on HB4.out))
  have KC : Hid (∀ W', Below w4.heap.size w4 W' → Calls Tryz.prog 38 #[.agg #[.slice (some ⟨g, 0, none⟩) 1 1, .int .i64 0]] W' fun e w' => e = .returned (.int .i64 0) ∧ Below W'.heap.size W' w') := Lib.hid (fun W' hb => by
    have := check_any W' (some ⟨g, 0, none⟩) 1 1 0 (bsc ((6 : Nat) : Int)) (HGO.out.heads.on hb) (by decide)
    rw [show graphB 0 (bsc ((6 : Nat) : Int)) = true from HGO.out.ok] at this
    exact this)
  have HLX : Hid (w3.heap.size < w4.heap.size) := Lib.hid (Array.getElem?_eq_some_iff.1 HX4.out).1
  have a0 : w4.cell? ⟨w3.heap.size, 0, none⟩ = some (.slice (some ⟨g, 0, none⟩) 1 1) := (by rw [cell_of_row _ _ 0 _ 36 _ HX4.out]; rfl)
  have a1 : w4.cell? ⟨w3.heap.size, 1, none⟩ = some (.int .i64 0) := (by rw [cell_of_row _ _ 1 _ 36 _ HX4.out]; rfl)
  have hd4 : Below w4.heap.size w4 w4.drew := (Below.refl _ _).drew
  go_upto_region 6 with (fail)
  go_region_law
    (first
      | (go_simp; go_at_call 38; (with_reducible refine (KC.out _ hd4).mono ?_); rintro e w5 ⟨rfl, hb5⟩; have HB5 : Hid (Below w4.heap.size w4 w5) := Lib.hid (hd4.trans hb5); have b0 : w5.cell? ⟨w3.heap.size, 0, none⟩ = some (.slice (some ⟨g, 0, none⟩) 1 1) := keepB HB5.out HLX.out a0; have b1 : w5.cell? ⟨w3.heap.size, 1, none⟩ = some (.int .i64 0) := keepB HB5.out HLX.out a1; have h5b := HB5.out.alloc HB5.out.size (.cells #[.string ⟨#[105, 110, 116]⟩, .string ⟨#[98, 111, 111, 108]⟩, .string ⟨#[115, 116, 114]⟩, .string ⟨#[102, 108, 111, 97, 116]⟩, .string ⟨#[100, 121, 110]⟩, .string ⟨#[97, 110, 121]⟩, .string ⟨#[110, 111, 110, 101]⟩] 9); have c0 : (w5.alloc (.cells #[.string ⟨#[105, 110, 116]⟩, .string ⟨#[98, 111, 111, 108]⟩, .string ⟨#[115, 116, 114]⟩, .string ⟨#[102, 108, 111, 97, 116]⟩, .string ⟨#[100, 121, 110]⟩, .string ⟨#[97, 110, 121]⟩, .string ⟨#[110, 111, 110, 101]⟩] 9)).cell? ⟨w3.heap.size, 0, none⟩ = some (.slice (some ⟨g, 0, none⟩) 1 1) := keepB h5b HLX.out a0; have c1 : (w5.alloc (.cells #[.string ⟨#[105, 110, 116]⟩, .string ⟨#[98, 111, 111, 108]⟩, .string ⟨#[115, 116, 114]⟩, .string ⟨#[102, 108, 111, 97, 116]⟩, .string ⟨#[100, 121, 110]⟩, .string ⟨#[97, 110, 121]⟩, .string ⟨#[110, 111, 110, 101]⟩] 9)).cell? ⟨w3.heap.size, 1, none⟩ = some (.int .i64 0) := keepB h5b HLX.out a1; clear hb5 h5b)
      | (go_simp; go_at_call 39; (with_reducible refine (KT.out _).mono ?_); rintro e w7 ⟨HS, OS, gt, ct, rfl, hv, hok, hfv, hn, hgr, hb7⟩; have HB7 := Lib.hid hb7; have HV := Lib.hid hv; have HOK := Lib.hid hok; have HNF := Lib.hid hn; have HGT := Lib.hid (typed_gok hok hfv hn (by rw [vh_len hv]; decide) (by rw [vh_len hv]; decide) hgr); have h5a := HB5.out.alloc HB5.out.size (.cells #[.string ⟨#[105, 110, 116]⟩, .string ⟨#[98, 111, 111, 108]⟩, .string ⟨#[115, 116, 114]⟩, .string ⟨#[102, 108, 111, 97, 116]⟩, .string ⟨#[100, 121, 110]⟩, .string ⟨#[97, 110, 121]⟩, .string ⟨#[110, 111, 110, 101]⟩] 9); have HB9 : Hid (Below w4.heap.size w4 w7) := Lib.hid (h5a.trans (hb7.mono h5a.size)); have d0 : w7.cell? ⟨w3.heap.size, 0, none⟩ = some (.slice (some ⟨g, 0, none⟩) 1 1) := keepB HB9.out HLX.out a0; have d1 : w7.cell? ⟨w3.heap.size, 1, none⟩ = some (.int .i64 0) := keepB HB9.out HLX.out a1; have HBI : Hid (Bis (bsc ((6 : Nat) : Int)) OS 0 0) := Lib.hid (bis_comp hok (by rw [vh_len hv]; decide) (bsc_bis hv) (bis_flip (hn.bis hok (by rw [vh_len hv]; decide)))); have KS : Hid (Calls Tryz.prog 36 #[.agg #[.slice (some ⟨g, 0, none⟩) 1 1, .int .i64 0], .agg #[.slice (some ⟨gt, 0, none⟩) OS.length ct, .int .i64 0]] w7 (SamePost w7 (bsc ((6 : Nat) : Int)) OS 0 0)) := Lib.hid (gsame_ok w7 (some ⟨g, 0, none⟩) 1 1 0 _ (HGO.out.on HB9.out) (some ⟨gt, 0, none⟩) OS.length ct 0 OS HGT.out); clear hv hok hfv hn hgr hb7 h5a)
      | (go_simp; go_at_call 36; (with_reducible refine KS.out.mono ?_); rintro e w8 ⟨b, rfl, hb8, hb9⟩; obtain rfl : b = true := hb8.2 HBI.out; have HB8 := Lib.hid hb9; clear hb8 hb9)
      | fail)
  all_goals
    go_wp2
    go_ret
    exact ⟨rfl, HB2.out.trans ((HB3.out.trans ((HB4.out.trans ((HB9.out.trans (HB8.out.mono HB9.out.size)).mono HB4.out.size)).mono HB3.out.size)).mono HB2.out.size)⟩
theorem graphBasic_true (w : World) (k : Int) : Calls Tryz.prog 5 #[.int .i64 k] w fun e w' => e = .returned (.bool true) ∧ Below w.heap.size w w' := by
  by_cases h : k < 0 ∨ 6 < k
  · exact gbasic_bad w k h
  · rcases (by omega : k = 0 ∨ k = 1 ∨ k = 2 ∨ k = 3 ∨ k = 4 ∨ k = 5 ∨ k = 6) with rfl | rfl | rfl | rfl | rfl | rfl | rfl
    · exact gbasic_0 w
    · exact gbasic_1 w
    · exact gbasic_2 w
    · exact gbasic_3 w
    · exact gbasic_4 w
    · exact gbasic_5 w
    · exact gbasic_6 w
end Go.Proofs.YtifilhkkgkihpaaGreatDoor
