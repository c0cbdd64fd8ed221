/- Plain: which casts may be. Walks: alike's ToDyn, FromDyn; the example of chapter 10. Walks: AlikeSelf. -/
import Derived.Test.YtifilhkkgkihpaaGreatDoorAs34
import Derived.Test.YtifilhkkgkihpaaGreatDoorAs38
set_option linter.unusedSimpArgs false
set_option linter.unusedVariables false
set_option linter.unusedSimpArgs false
set_option linter.unusedVariables false
namespace Go.Proofs.YtifilhkkgkihpaaGreatDoor
open Go.RowKit
theorem Cst.leaf {α : Type} {F : α → Option (List α)} {p : α} (h : F p = some []) : Cst F p := ⟨fun q => q = p, fun q hq => ⟨[], by rw [hq]; exact h, fun r hr => by cases hr⟩, rfl⟩
theorem row_l {A B : List Hd} {i : Nat} {h : Hd} (hi : A[i]? = some h) : (rowA A B)[i]? = some h := by
  have hl := (List.getElem?_eq_some_iff.1 hi).1
  unfold rowA two
  rw [List.append_assoc, List.getElem?_append_left hl]
  exact hi
theorem row_r {A B : List Hd} {i : Nat} {h : Hd} (hi : B[i]? = some h) : (rowA A B)[A.length + i]? = some (shH A.length h) := by
  have hl := (List.getElem?_eq_some_iff.1 hi).1
  unfold rowA two
  rw [List.getElem?_append_left (by simp; omega), List.getElem?_append_right (by omega), show A.length + i - A.length = i by omega, List.getElem?_map, hi]
  rfl
theorem row_d (A B : List Hd) : (rowA A B)[A.length + B.length]? = some dynH := by
  unfold rowA two
  rw [List.getElem?_append_right (by simp)]
  simp
/-- heads of the same kind and names: a cast asks their kids, pair by pair. -/
theorem ask_same {L : List Hd} {dyn : Nat} {h k : Hd} {n n' : Int} (okh : headB h.kd h.op n h.NS h.KS = true) (okk : headB k.kd k.op n' k.NS k.KS = true) (e1 : h.kd = k.kd) (e2 : h.NS = k.NS) (e3 : h.KS.length = k.KS.length) : ∃ m, askA L dyn h k = some m ∧ ∀ q ∈ m, ∃ (p : Nat) (x y : Int), h.KS[p]? = some x ∧ k.KS[p]? = some y ∧ (q = (x.toNat, y.toNat) ∨ q = (y.toNat, x.toNat)) := by
  obtain ⟨a1, a2, a3, a4, a5, a6, a7⟩ := head_kind okh
  obtain ⟨b1, b2, b3, b4, b5, b6, b7⟩ := head_kind okk
  unfold askA
  by_cases c1 : h.kd = 6 ∨ k.kd = 5
  · rw [if_pos c1]; exact ⟨[], rfl, fun q hq => by cases hq⟩
  rw [if_neg c1, if_neg (show ¬ h.kd = 5 by omega)]
  by_cases c4 : h.kd = 4
  · rw [if_pos c4, if_neg (show ¬ k.kd = 7 by omega), if_neg (show ¬ (k.kd = 8 ∨ k.kd = 9) by omega)]
    exact ⟨[], rfl, fun q hq => by cases hq⟩
  rw [if_neg c4, if_neg (show ¬ k.kd = 4 by omega), if_neg (show ¬ h.kd ≠ k.kd by omega)]
  by_cases c7 : h.kd = 7
  · rw [if_pos c7]
    obtain ⟨a, b, ha⟩ := two_of (a5 c7).2
    obtain ⟨c, d, hc⟩ := two_of (b5 (by omega)).2
    refine ⟨_, rfl, fun q hq => ?_⟩
    rw [ha, hc] at hq ⊢
    simp only [List.mem_cons, List.not_mem_nil, or_false] at hq
    rcases hq with rfl | rfl
    · exact ⟨0, a, c, rfl, rfl, .inr rfl⟩
    · exact ⟨1, b, d, rfl, rfl, .inl rfl⟩
  rw [if_neg c7]
  have hpr : ∀ e ∈ k.NS.zip k.KS, (h.kd = 8 ∨ h.kd = 9) → ∃ p : Nat, h.KS[p]? = some (findK h.NS h.KS e.1) ∧ k.KS[p]? = some e.2 := fun e he hk => by
    obtain ⟨p, hp⟩ := List.getElem?_of_mem he
    obtain ⟨s, y⟩ := e
    rw [List.getElem?_zip_eq_some] at hp
    obtain ⟨x, hx⟩ : ∃ x, h.KS[p]? = some x := ⟨_, List.getElem?_eq_getElem (by rw [e3]; exact (List.getElem?_eq_some_iff.1 hp.2).1)⟩
    refine ⟨p, ?_, hp.2⟩
    rw [find_own a2 (by rw [e2]; exact hp.1) hx]
    exact hx
  have hge : ∀ e ∈ k.NS.zip k.KS, (h.kd = 8 ∨ h.kd = 9) → 0 ≤ findK h.NS h.KS e.1 := fun e he hk => by
    refine find_ge (a4 hk) (fun k hk => (a3 k hk).1) ?_
    rw [e2]
    exact (List.of_mem_zip (a := e.1) (b := e.2) he).1
  by_cases c8 : h.kd = 8
  · rw [if_pos c8]
    unfold recA
    have hkd : ∀ s, kidD dyn h s = findK h.NS h.KS s := fun s => by unfold kidD; rw [if_neg c4]
    rw [if_pos]
    · refine ⟨_, rfl, fun q hq => ?_⟩
      obtain ⟨e, he, rfl⟩ := List.mem_map.1 hq
      obtain ⟨p, h1, h2⟩ := hpr e he (.inl c8)
      exact ⟨p, _, _, h1, h2, .inl (by rw [hkd])⟩
    · exact List.all_eq_true.2 (fun e he => by rw [hkd]; exact decide_eq_true (hge e he (.inl c8)))
  rw [if_neg c8]
  by_cases c9 : h.kd = 9
  · rw [if_pos c9]
    unfold varA
    rw [if_pos]
    · refine ⟨_, rfl, fun q hq => ?_⟩
      obtain ⟨e, he, h1⟩ := List.mem_filterMap.1 hq
      split at h1
      · cases h1
        obtain ⟨p, h1, h2⟩ := hpr e he (.inr c9)
        exact ⟨p, _, _, h1, h2, .inl rfl⟩
      · cases h1
    · unfold anyK
      exact List.all_eq_true.2 (fun e he => by rw [decide_eq_true (hge e he (.inr c9))]; simp)
  rw [if_neg c9]
  exact ⟨[], rfl, fun q hq => by cases hq⟩
/-- a cast from each type to itself may be. -/
theorem may_self {A : List Hd} (hok : OkHeads A) {r : Nat} (hr : r < A.length) : MayA A A r r := by
  refine ⟨fun p => ∃ i, i < A.length ∧ (p = (i, A.length + i) ∨ p = (A.length + i, i)), fun p hp => ?_, ⟨r, hr, .inl rfl⟩⟩
  obtain ⟨i, hi, hp⟩ := hp
  obtain ⟨h, hh⟩ : ∃ h, A[i]? = some h := ⟨_, List.getElem?_eq_getElem hi⟩
  have h1 := row_l (B := A) hh
  have h2 := row_r (A := A) hh
  have k1 := row_ok hok hok _ (List.mem_of_getElem? h1)
  have k2 := row_ok hok hok _ (List.mem_of_getElem? h2)
  have hr := ok_kids hok hh
  have hsh : ∀ (p : Nat) (x y : Int), h.KS[p]? = some x → (shH A.length h).KS[p]? = some y → x.toNat < A.length ∧ y.toNat = A.length + x.toNat := fun p x y hx hy => by
    simp only [shH, List.getElem?_map, hx, Option.map_some, Option.some.injEq] at hy
    have := hr x (List.mem_of_getElem? hx)
    omega
  rcases hp with rfl | rfl
  · rw [stpA_at (p := (i, A.length + i)) h1 h2]
    obtain ⟨m, e1, e2⟩ := ask_same (L := rowA A A) (dyn := A.length + A.length) k1 k2 rfl rfl (by simp [shH])
    refine ⟨m, e1, fun q hq => ?_⟩
    obtain ⟨p, x, y, hx, hy, hq⟩ := e2 q hq
    obtain ⟨g1, g2⟩ := hsh p x y hx hy
    refine ⟨x.toNat, g1, ?_⟩
    rw [g2] at hq
    exact hq
  · rw [stpA_at (p := (A.length + i, i)) h2 h1]
    obtain ⟨m, e1, e2⟩ := ask_same (L := rowA A A) (dyn := A.length + A.length) k2 k1 rfl rfl (by simp [shH])
    refine ⟨m, e1, fun q hq => ?_⟩
    obtain ⟨p, x, y, hx, hy, hq⟩ := e2 q hq
    obtain ⟨g1, g2⟩ := hsh p y x hy hx
    refine ⟨y.toNat, g1, ?_⟩
    rw [g2] at hq
    exact hq.symm
theorem may_none {A : List Hd} {r : Nat} (hr : r < A.length) : MayA (bsc 6) A 0 r := by
  obtain ⟨h, hh⟩ : ∃ h, A[r]? = some h := ⟨_, List.getElem?_eq_getElem hr⟩
  have h1 : (rowA (bsc 6) A)[0]? = some ⟨6, none, 0, 0, [], none, 0, 0, [], false⟩ := row_l (A := bsc 6) rfl
  have h2 := row_r (A := bsc 6) hh
  refine Cst.leaf ?_
  rw [stpA_at (p := (0, (bsc 6).length + r)) h1 h2]
  unfold askA
  rw [if_pos (.inl rfl)]
theorem may_any {A : List Hd} {r : Nat} (hr : r < A.length) : MayA A (bsc 5) r 0 := by
  obtain ⟨h, hh⟩ : ∃ h, A[r]? = some h := ⟨_, List.getElem?_eq_getElem hr⟩
  have h1 := row_l (B := bsc 5) hh
  have h2 : (rowA A (bsc 5))[A.length + 0]? = some (shH A.length ⟨5, none, 0, 0, [], none, 0, 0, [], false⟩) := row_r (A := A) (B := bsc 5) rfl
  refine Cst.leaf ?_
  rw [stpA_at (p := (r, A.length + 0)) h1 h2]
  unfold askA
  rw [if_pos (.inr rfl)]
/-- the kinds of heads that are alike. -/
theorem Bis.root {A B : List Hd} {i j : Nat} (h : Bis A B i j) {x y : Hd} (hx : A[i]? = some x) (hy : B[j]? = some y) : x.kd = y.kd ∧ x.KS.length = y.KS.length ∧ ∀ (n : Nat) a b, x.KS[n]? = some a → y.KS[n]? = some b → Bis A B a.toNat b.toNat := by
  obtain ⟨R, hR, h1⟩ := h
  obtain ⟨p1, p2, p3, p4⟩ := hR.pl i j x y hx hy h1
  exact ⟨p1, p4, fun n a b ha hb => ⟨R, hR, hR.kid i j x y hx hy h1 n a b ha hb⟩⟩
end Go.Proofs.YtifilhkkgkihpaaGreatDoor
set_option linter.unusedSimpArgs false
set_option linter.unusedVariables false
namespace Go.Proofs.YtifilhkkgkihpaaGreatDoor
open Go.RowKit
theorem may_gok {w : World} {la : Option Addr} {ln lc ra : Nat} {A : List Hd} (hA : GOk w la ln ra A) {lb : Option Addr} {lm ld rb : Nat} {B : List Hd} (hB : GOk w lb lm rb B) : Calls Tryz.prog 52 #[.agg #[.slice la ln lc, .int .i64 (ra : Int)], .agg #[.slice lb lm ld, .int .i64 (rb : Int)]] w (MayPost w (MayA A B ra rb)) := may_ok w la ln lc A hA.heads ra lb lm ld B hB.heads rb (by have := hA.len; omega) (by have := hB.len; omega) hA.ok hB.ok
theorem MayPost.yes {w : World} {P : Prop} {e : Ending} {w' : World} (h : MayPost w P e w') (hp : P) : e = .returned (.bool true) ∧ Below w.heap.size w w' := by
  obtain ⟨b, h1, h2, h3⟩ := h
  rw [h2.2 hp] at h1
  exact ⟨h1, h3⟩
theorem MayPost.no {w : World} {P : Prop} {e : Ending} {w' : World} (h : MayPost w P e w') (hp : ¬ P) : e = .returned (.bool false) ∧ Below w.heap.size w w' := by
  obtain ⟨b, h1, h2, h3⟩ := h
  cases b with
  | true => exact absurd (h2.1 rfl) hp
  | false => exact ⟨h1, h3⟩
set_option maxRecDepth 20000 in
set_option maxHeartbeats 4000000 in
theorem todyn_ok (w : World) (la : Option Addr) (ln lc root : Nat) (HS : List Hd) (h : GOk w la ln root HS) : Calls Tryz.prog 53 #[.agg #[.slice la ln lc, .int .i64 (root : Int)]] w (MayPost w (MayA HS (bsc 4) root 0)) := by
  have KB : Hid (∀ W', Calls Tryz.prog 37 #[.int .i64 4] W' (BasicPost W' ((4 : Nat) : Int))) := Lib.hid (fun W' => gb_ok W' 4 (by decide) (by decide))
  have HX : Hid ((w.alloc (.cells #[.slice la ln lc, .int .i64 (root : Int)] 36)).heap[w.heap.size]? = some (.cells #[.slice la ln lc, .int .i64 (root : Int)] 36 (0, 0))) := Lib.hid (heap_alloc_new w _)
  have HB : Hid (Below w.heap.size w (w.alloc (.cells #[.slice la ln lc, .int .i64 (root : Int)] 36))) := Lib.hid ((Below.refl _ _).alloc (Nat.le_refl _) _)
  have hG0 := h.on HB.out
  have HG0 := Lib.hid hG0
  clear h hG0
  go_enter Tryz.func53, Tryz.ntmps53
  go_upto_region 1 with (fail)
  obtain ⟨w1, hw1⟩ : ∃ w1, w.alloc (.cells #[.slice la ln lc, .int .i64 (root : Int)] 36) = w1 := ⟨_, rfl⟩
  rw [hw1] at HX HB HG0 ⊢
  clear hw1
  have HLX : Hid (w.heap.size < w1.heap.size) := Lib.hid (Array.getElem?_eq_some_iff.1 HX.out).1
  have a0 : w1.cell? ⟨w.heap.size, 0, none⟩ = some (.slice la ln lc) := (by rw [cell_of_row _ _ 0 _ 36 _ HX.out]; rfl)
  have a1 : w1.cell? ⟨w.heap.size, 1, none⟩ = some (.int .i64 (root : Int)) := (by rw [cell_of_row _ _ 1 _ 36 _ HX.out]; rfl)
  have hd1 : Below w1.heap.size w1 w1.drew := (Below.refl _ _).drew
  go_region_law
    (first
      | (go_simp; go_at_call 37; (with_reducible refine (KB.out _).mono ?_); rintro e w3 ⟨g, rfl, hh3, hg3, hb3⟩; have HB3 : Hid (Below w1.heap.size w1 w3) := Lib.hid (hd1.trans hb3); have b0 : w3.cell? ⟨w.heap.size, 0, none⟩ = some (.slice la ln lc) := keepB HB3.out HLX.out a0; have b1 : w3.cell? ⟨w.heap.size, 1, none⟩ = some (.int .i64 (root : Int)) := keepB HB3.out HLX.out a1; have HGB := Lib.hid (bsc_gok (w := w3) (k := 4) (by decide) hh3); have hG := HG0.out; have KM : Hid (Calls Tryz.prog 52 #[.agg #[.slice la ln lc, .int .i64 (root : Int)], .agg #[.slice (some ⟨g, 0, none⟩) 1 1, .int .i64 0]] w3 (MayPost w3 (MayA HS (bsc 4) root 0))) := Lib.hid (may_gok (lc := lc) (ld := 1) (hG.on HB3.out) (HGB.out)); clear hh3 hg3 hb3 hG)
      | (go_simp; go_at_call 52; (with_reducible refine KM.out.mono ?_); rintro e w4 ⟨b, rfl, hb8, hb9⟩; have HIF := Lib.hid hb8; have HB4 := Lib.hid hb9; clear hb8 hb9)
      | fail)
  all_goals
    go_wp2
    go_ret
    exact ⟨b, rfl, HIF.out, HB.out.trans ((HB3.out.trans (HB4.out.mono HB3.out.size)).mono HB.out.size)⟩
set_option maxRecDepth 20000 in
set_option maxHeartbeats 4000000 in
theorem fromdyn_ok (w : World) (la : Option Addr) (ln lc root : Nat) (HS : List Hd) (h : GOk w la ln root HS) : Calls Tryz.prog 54 #[.agg #[.slice la ln lc, .int .i64 (root : Int)]] w (MayPost w (MayA (bsc 4) HS 0 root)) := by
  have KB : Hid (∀ W', Calls Tryz.prog 37 #[.int .i64 4] W' (BasicPost W' ((4 : Nat) : Int))) := Lib.hid (fun W' => gb_ok W' 4 (by decide) (by decide))
  have HX : Hid ((w.alloc (.cells #[.slice la ln lc, .int .i64 (root : Int)] 36)).heap[w.heap.size]? = some (.cells #[.slice la ln lc, .int .i64 (root : Int)] 36 (0, 0))) := Lib.hid (heap_alloc_new w _)
  have HB : Hid (Below w.heap.size w (w.alloc (.cells #[.slice la ln lc, .int .i64 (root : Int)] 36))) := Lib.hid ((Below.refl _ _).alloc (Nat.le_refl _) _)
  have hG0 := h.on HB.out
  have HG0 := Lib.hid hG0
  clear h hG0
  go_enter Tryz.func54, Tryz.ntmps54
  go_upto_region 1 with (fail)
  obtain ⟨w1, hw1⟩ : ∃ w1, w.alloc (.cells #[.slice la ln lc, .int .i64 (root : Int)] 36) = w1 := ⟨_, rfl⟩
  rw [hw1] at HX HB HG0 ⊢
  clear hw1
  have HLX : Hid (w.heap.size < w1.heap.size) := Lib.hid (Array.getElem?_eq_some_iff.1 HX.out).1
  have a0 : w1.cell? ⟨w.heap.size, 0, none⟩ = some (.slice la ln lc) := (by rw [cell_of_row _ _ 0 _ 36 _ HX.out]; rfl)
  have a1 : w1.cell? ⟨w.heap.size, 1, none⟩ = some (.int .i64 (root : Int)) := (by rw [cell_of_row _ _ 1 _ 36 _ HX.out]; rfl)
  have hd1 : Below w1.heap.size w1 w1.drew := (Below.refl _ _).drew
  go_region_law
    (first
      | (go_simp; go_at_call 37; (with_reducible refine (KB.out _).mono ?_); rintro e w3 ⟨g, rfl, hh3, hg3, hb3⟩; have HB3 : Hid (Below w1.heap.size w1 w3) := Lib.hid (hd1.trans hb3); have b0 : w3.cell? ⟨w.heap.size, 0, none⟩ = some (.slice la ln lc) := keepB HB3.out HLX.out a0; have b1 : w3.cell? ⟨w.heap.size, 1, none⟩ = some (.int .i64 (root : Int)) := keepB HB3.out HLX.out a1; have HGB := Lib.hid (bsc_gok (w := w3) (k := 4) (by decide) hh3); have hG := HG0.out; have KM : Hid (Calls Tryz.prog 52 #[.agg #[.slice (some ⟨g, 0, none⟩) 1 1, .int .i64 0], .agg #[.slice la ln lc, .int .i64 (root : Int)]] w3 (MayPost w3 (MayA (bsc 4) HS 0 root))) := Lib.hid (may_gok (lc := 1) (ld := lc) (HGB.out) (hG.on HB3.out)); clear hh3 hg3 hb3 hG)
      | (go_simp; go_at_call 52; (with_reducible refine KM.out.mono ?_); rintro e w4 ⟨b, rfl, hb8, hb9⟩; have HIF := Lib.hid hb8; have HB4 := Lib.hid hb9; clear hb8 hb9)
      | fail)
  all_goals
    go_wp2
    go_ret
    exact ⟨b, rfl, HIF.out, HB.out.trans ((HB3.out.trans (HB4.out.mono HB3.out.size)).mono HB.out.size)⟩
/-- the kind of a typed graph's root. -/
theorem typed_root {HS OS : List Hd} {hs : List Vh} {v : Vh} (hv : HS.map vh = v :: hs) (hok : OkHeads HS) (hn : NormF HS 0 OS) : Bis OS HS 0 0 ∧ ∃ x, OS[0]? = some x ∧ x.kd = v.1 ∧ ∃ y, HS[0]? = some y ∧ vh y = v := by
  have h0 : 0 < HS.length := by rw [vh_len hv]; simp
  have hb := hn.bis hok h0
  obtain ⟨y, hy⟩ : ∃ y, HS[0]? = some y := ⟨_, List.getElem?_eq_getElem h0⟩
  have hl : 0 < OS.length := by
    obtain ⟨cl, ord, a1, a2, a3, a4⟩ := hn
    have := (List.getElem?_eq_some_iff.1 a3.first).1
    omega
  obtain ⟨x, hx⟩ : ∃ x, OS[0]? = some x := ⟨_, List.getElem?_eq_getElem hl⟩
  have hvy : vh y = v := by
    have h1 := congrArg (fun l => l[0]?) hv
    simp only [List.getElem?_map, hy, Option.map_some, List.getElem?_cons_zero, Option.some.injEq] at h1
    exact h1
  exact ⟨hb, x, hx, by rw [(hb.root hx hy).1, ← hvy]; rfl, y, hy, hvy⟩
theorem stp_none {A B : List Hd} {i j : Nat} {h k : Hd} (hi : A[i]? = some h) (hj : B[j]? = some k) (he : askA (rowA A B) (A.length + B.length) h (shH A.length k) = none) : ¬ MayA A B i j := by
  refine Cst.not ?_
  rw [stpA_at (p := (i, A.length + j)) (row_l hi) (row_r hj)]
  exact he
theorem ex_any {HS OS : List Hd} (hv : HS.map vh = [(((5 : Nat) : Int), [], [], false)]) (hok : OkHeads HS) (hn : NormF HS 0 OS) : ¬ MayA OS (bsc 4) 0 0 := by
  obtain ⟨_, x, hx, hk, _⟩ := typed_root hv hok hn
  refine stp_none (k := ⟨4, none, 0, 0, [], none, 0, 0, [], false⟩) hx rfl ?_
  unfold askA
  rw [if_neg (by rw [hk]; simp [shH]), if_pos (by rw [hk]; rfl)]
theorem ex_int_str {HS OS HS' OS' : List Hd} (hv : HS.map vh = [(((0 : Nat) : Int), [], [], false)]) (hok : OkHeads HS) (hn : NormF HS 0 OS) (hv' : HS'.map vh = [(((2 : Nat) : Int), [], [], false)]) (hok' : OkHeads HS') (hn' : NormF HS' 0 OS') : ¬ MayA OS OS' 0 0 := by
  obtain ⟨_, x, hx, hk, _⟩ := typed_root hv hok hn
  obtain ⟨_, y, hy, hk', _⟩ := typed_root hv' hok' hn'
  refine stp_none hx hy ?_
  have e : (shH OS.length y).kd = 2 := by rw [show (shH OS.length y).kd = y.kd from rfl, hk']; rfl
  have e0 : x.kd = 0 := by rw [hk]; rfl
  unfold askA
  rw [if_neg (by rw [e, e0]; decide), if_neg (by rw [e0]; decide), if_neg (by rw [e0]; decide), if_neg (by rw [e]; decide), if_pos (by rw [e, e0]; decide)]
theorem ex_int_dyn {HS OS : List Hd} (hv : HS.map vh = [(7, [], [1, 2], false), (((0 : Nat) : Int), [], [], false), (((4 : Nat) : Int), [], [], false)]) (hok : OkHeads HS) (hn : NormF HS 0 OS) (hoO : OkHeads OS) : MayA (bsc 4) OS 0 0 := by
  obtain ⟨hb, x, hx, hk, y, hy, hvy⟩ := typed_root hv hok hn
  obtain ⟨h1, h2, h3⟩ := hb.root hx hy
  simp only [vh, Prod.mk.injEq] at hvy
  obtain ⟨v1, v2, v3, v4⟩ := hvy
  have hl : x.KS.length = 2 := by rw [h2, v3]; rfl
  obtain ⟨a, b, hab⟩ := two_of hl
  have ra := ok_kids hoO hx a (by rw [hab]; simp)
  have rb := ok_kids hoO hx b (by rw [hab]; simp)
  obtain ⟨xa, hxa⟩ : ∃ xa, OS[a.toNat]? = some xa := ⟨_, List.getElem?_eq_getElem (by omega)⟩
  obtain ⟨xb, hxb⟩ : ∃ xb, OS[b.toNat]? = some xb := ⟨_, List.getElem?_eq_getElem (by omega)⟩
  have hat : ∀ (i : Nat) u, HS[i]? = some u → ([(7, [], [1, 2], false), (((0 : Nat) : Int), [], [], false), (((4 : Nat) : Int), [], [], false)] : List Vh)[i]? = some (vh u) := fun i u hu => by rw [← hv, List.getElem?_map, hu]; rfl
  have hl3 := vh_len hv
  obtain ⟨ya, hya⟩ : ∃ ya, HS[1]? = some ya := ⟨_, List.getElem?_eq_getElem (by rw [hl3]; decide)⟩
  obtain ⟨yb, hyb⟩ : ∃ yb, HS[2]? = some yb := ⟨_, List.getElem?_eq_getElem (by rw [hl3]; decide)⟩
  have ka : xa.kd = 0 := by
    have h4 := ((h3 0 a 1 (by rw [hab]; rfl) (by rw [v3]; rfl)).root hxa hya).1
    have h5 := hat 1 ya hya
    simp only [List.getElem?_cons_succ, List.getElem?_cons_zero, Option.some.injEq] at h5
    rw [h4]
    exact (congrArg (fun v : Vh => v.1) h5).symm
  have kb : xb.kd = 4 := by
    have h4 := ((h3 1 b 2 (by rw [hab]; rfl) (by rw [v3]; rfl)).root hxb hyb).1
    have h5 := hat 2 yb hyb
    simp only [List.getElem?_cons_succ, List.getElem?_cons_zero, Option.some.injEq] at h5
    rw [h4]
    exact (congrArg (fun v : Vh => v.1) h5).symm
  have hd := row_d (bsc 4) OS
  have r0 : (rowA (bsc 4) OS)[0]? = some ⟨4, none, 0, 0, [], none, 0, 0, [], false⟩ := row_l (A := bsc 4) rfl
  have r1 := row_r (A := bsc 4) hx
  have r2 := row_r (A := bsc 4) hxa
  have r3 := row_r (A := bsc 4) hxb
  refine ⟨fun p => p = (0, (bsc 4).length + 0) ∨ p = ((bsc 4).length + a.toNat, (bsc 4).length + OS.length) ∨ p = ((bsc 4).length + OS.length, (bsc 4).length + b.toNat), fun p hp => ?_, .inl rfl⟩
  rcases hp with rfl | rfl | rfl
  · rw [stpA_at (p := (0, (bsc 4).length + 0)) r0 r1]
    have e7 : (shH (bsc 4).length x).kd = 7 := hk
    unfold askA
    rw [if_neg (by rw [e7]; decide), if_neg (by decide), if_pos rfl, if_pos e7]
    refine ⟨_, rfl, fun q hq => ?_⟩
    have eK : (shH (bsc 4).length x).KS = [a + ((bsc 4).length : Int), b + ((bsc 4).length : Int)] := by simp [shH, hab]
    rw [eK] at hq
    simp only [List.mem_cons, List.not_mem_nil, or_false] at hq
    rcases hq with rfl | rfl
    · exact .inr (.inl (Prod.ext (by simp [bsc]; omega) rfl))
    · exact .inr (.inr (Prod.ext rfl (by simp [bsc]; omega)))
  · rw [stpA_at (p := ((bsc 4).length + a.toNat, (bsc 4).length + OS.length)) r2 hd]
    have e0 : (shH (bsc 4).length xa).kd = 0 := ka
    unfold askA
    rw [if_neg (by rw [e0]; decide), if_neg (by rw [e0]; decide), if_neg (by rw [e0]; decide), if_pos (show dynH.kd = 4 from rfl), if_neg (by rw [e0]; decide), if_neg (by rw [e0]; decide), if_neg (by rw [e0]; decide)]
    exact ⟨[], rfl, fun q hq => by cases hq⟩
  · rw [stpA_at (p := ((bsc 4).length + OS.length, (bsc 4).length + b.toNat)) hd r3]
    have e4 : (shH (bsc 4).length xb).kd = 4 := kb
    unfold askA
    rw [if_neg (by rw [e4]; decide), if_neg (by decide), if_pos (show dynH.kd = 4 from rfl), if_neg (by rw [e4]; decide), if_neg (by rw [e4]; decide)]
    exact ⟨[], rfl, fun q hq => by cases hq⟩
set_option maxRecDepth 20000 in
set_option maxHeartbeats 8000000 in
theorem lives10 (w : World) : Calls Tryz.prog 51 #[] w fun e w' => e = .returned (.bool true) ∧ Below w.heap.size w w' := by
  have T1 : Hid (Calls Tryz.prog 39 #[.string ⟨#[105, 110, 116, 32, 45, 62, 32, 100, 121, 110]⟩] w (TypedPost w [(7, [], [1, 2], false), (((0 : Nat) : Int), [], [], false), (((4 : Nat) : Int), [], [], false)])) := Lib.hid (typedT_any w t_int_dyn _ t_int_dyn_text)
  have T2 : Hid (∀ W, Calls Tryz.prog 39 #[.string ⟨#[97, 110, 121]⟩] W (TypedPost W [(((5 : Nat) : Int), [], [], false)])) := Lib.hid (fun W => typedT_any W t_any _ t_any_text)
  have T3 : Hid (∀ W, Calls Tryz.prog 39 #[.string ⟨#[105, 110, 116]⟩] W (TypedPost W [(((0 : Nat) : Int), [], [], false)])) := Lib.hid (fun W => typedT_any W t_int _ t_int_text)
  have T4 : Hid (∀ W, Calls Tryz.prog 39 #[.string ⟨#[115, 116, 114]⟩] W (TypedPost W [(((2 : Nat) : Int), [], [], false)])) := Lib.hid (fun W => typedT_any W t_str _ t_str_text)
  go_enter Tryz.func51, Tryz.ntmps51
  go_wp2_with (first
    | (go_at_call 39; (with_reducible refine T1.out.mono ?_); rintro e w1 ⟨HS, OS, g, c, rfl, hv, hok, hfv, hn, hgr, hb⟩; have HB1 := Lib.hid hb; have hgo := typed_gok hok hfv hn (by rw [vh_len hv]; decide) (by rw [vh_len hv]; decide) hgr; have K1 : Hid (Calls Tryz.prog 54 #[.agg #[.slice (some ⟨g, 0, none⟩) OS.length c, .int .i64 0]] w1 fun e w' => e = .returned (.bool true) ∧ Below w1.heap.size w1 w') := Lib.hid ((fromdyn_ok w1 (some ⟨g, 0, none⟩) OS.length c 0 OS hgo).mono (fun e w' h => h.yes (ex_int_dyn hv hok hn hgo.oks))); clear hv hok hfv hn hgr hb hgo)
    | (go_at_call 54; (with_reducible refine K1.out.mono ?_); rintro e w2 ⟨rfl, hb2⟩; have HB2 := Lib.hid hb2; clear hb2)
    | (go_at_call 39; (with_reducible refine (T2.out _).mono ?_); rintro e w3 ⟨HS3, OS3, g3, c3, rfl, hv, hok, hfv, hn, hgr, hb⟩; have HB3 := Lib.hid hb; have hgo := typed_gok hok hfv hn (by rw [vh_len hv]; decide) (by rw [vh_len hv]; decide) hgr; have K3 : Hid (Calls Tryz.prog 53 #[.agg #[.slice (some ⟨g3, 0, none⟩) OS3.length c3, .int .i64 0]] w3 fun e w' => e = .returned (.bool false) ∧ Below w3.heap.size w3 w') := Lib.hid ((todyn_ok w3 (some ⟨g3, 0, none⟩) OS3.length c3 0 OS3 hgo).mono (fun e w' h => h.no (ex_any hv hok hn))); clear hv hok hfv hn hgr hb hgo)
    | (go_at_call 53; (with_reducible refine K3.out.mono ?_); rintro e w4 ⟨rfl, hb4⟩; have HB4 := Lib.hid hb4; clear hb4)
    | (go_at_call 39; (with_reducible refine (T3.out _).mono ?_); rintro e w5 ⟨HS5, OS5, g5, c5, rfl, hv, hok, hfv, hn, hgr, hb⟩; have HB5 := Lib.hid hb; have HGO5 := Lib.hid (typed_gok hok hfv hn (by rw [vh_len hv]; decide) (by rw [vh_len hv]; decide) hgr); have HV5 := Lib.hid hv; have HOK5 := Lib.hid hok; have HN5 := Lib.hid hn; clear hv hok hfv hn hgr hb)
    | (go_at_call 39; (with_reducible refine (T4.out _).mono ?_); rintro e w6 ⟨HS6, OS6, g6, c6, rfl, hv, hok, hfv, hn, hgr, hb⟩; have HB6 := Lib.hid hb; have hgo := typed_gok hok hfv hn (by rw [vh_len hv]; decide) (by rw [vh_len hv]; decide) hgr; have K6 : Hid (Calls Tryz.prog 52 #[.agg #[.slice (some ⟨g5, 0, none⟩) OS5.length c5, .int .i64 0], .agg #[.slice (some ⟨g6, 0, none⟩) OS6.length c6, .int .i64 0]] w6 fun e w' => e = .returned (.bool false) ∧ Below w6.heap.size w6 w') := Lib.hid ((may_gok (HGO5.out.on HB6.out) hgo).mono (fun e w' h => h.no (ex_int_str HV5.out HOK5.out HN5.out hv hok hn))); clear hv hok hfv hn hgr hb hgo)
    | (go_at_call 52; (with_reducible refine K6.out.mono ?_); rintro e w7 ⟨rfl, hb7⟩; have HB7 := Lib.hid hb7; clear hb7))
  go_ret
  exact ⟨rfl, HB1.out.trans ((HB2.out.trans ((HB3.out.trans ((HB4.out.trans ((HB5.out.trans ((HB6.out.trans (HB7.out.mono HB6.out.size)).mono HB5.out.size)).mono HB4.out.size)).mono HB3.out.size)).mono HB2.out.size)).mono HB1.out.size)⟩
end Go.Proofs.YtifilhkkgkihpaaGreatDoor
set_option linter.unusedSimpArgs false
set_option linter.unusedVariables false
namespace Go.Proofs.YtifilhkkgkihpaaGreatDoor
open Go.RowKit
set_option maxRecDepth 20000 in
set_option maxHeartbeats 8000000 in
theorem self_few (w : World) (la : Option Addr) (ln lc : Nat) (ra : Int) (A : List Hd) (hA : GRaw w la ln A) (hf : fewB A = false) : Calls Tryz.prog 15 #[.agg #[.slice la ln lc, .int .i64 ra]] w fun e w' => e = .returned (.bool true) ∧ Below w.heap.size w w' := by
  have HT1 : Hid (Below w.heap.size w (w.alloc (.cells #[.slice la ln lc, .int .i64 ra] 36))) := Lib.hid ((Below.refl _ _).alloc (Nat.le_refl _) _)
  have HX1 : Hid ((w.alloc (.cells #[.slice la ln lc, .int .i64 ra] 36)).heap[w.heap.size]? = some (.cells #[.slice la ln lc, .int .i64 ra] 36 (0, 0))) := Lib.hid (heap_alloc_new w _)
  have KL : Hid (∀ W', Calls Tryz.prog 51 #[] W' fun e w' => e = .returned (.bool true) ∧ Below W'.heap.size W' w') := Lib.hid (fun W' => lives10 W')
  have KFA := Lib.hid (few_c (lc := lc) (ra := ra) hA hf)
  clear hA hf
  go_enter Tryz.func15, Tryz.ntmps15
  go_upto_region 1 with (fail)
  obtain ⟨w1, hw1⟩ : ∃ w1, w.alloc (.cells #[.slice la ln lc, .int .i64 ra] 36) = w1 := ⟨_, rfl⟩
  rw [hw1] at HX1 HT1 ⊢
  clear hw1
  have HLa : Hid (w.heap.size < w1.heap.size) := Lib.hid (Array.getElem?_eq_some_iff.1 HX1.out).1
  have a0 : w1.cell? ⟨w.heap.size, 0, none⟩ = some (.slice la ln lc) := (by rw [cell_of_row _ _ 0 _ 36 _ HX1.out]; rfl)
  have a1 : w1.cell? ⟨w.heap.size, 1, none⟩ = some (.int .i64 ra) := (by rw [cell_of_row _ _ 1 _ 36 _ HX1.out]; rfl)
  go_upto_region 2 with (first | (go_at_call 51; (with_reducible refine (KL.out _).mono ?_); rintro e w2 ⟨rfl, hb9⟩; have HB2 : Hid (Below w1.heap.size w1 w2) := Lib.hid (hb9); have a02 : w2.cell? ⟨w.heap.size, 0, none⟩ = some (.slice la ln lc) := keepB HB2.out HLa.out a0; have a12 : w2.cell? ⟨w.heap.size, 1, none⟩ = some (.int .i64 ra) := keepB HB2.out HLa.out a1; clear hb9) | (go_at_call 32; (with_reducible refine (KFA.out _ (HT1.out.trans (HB2.out.mono HT1.out.size))).mono ?_); rintro e w3 ⟨rfl, hb9⟩; have HB3 : Hid (Below w1.heap.size w1 w3) := Lib.hid (HB2.out.trans (hb9.mono HB2.out.size)); have a03 : w3.cell? ⟨w.heap.size, 0, none⟩ = some (.slice la ln lc) := keepB HB3.out HLa.out a0; have a13 : w3.cell? ⟨w.heap.size, 1, none⟩ = some (.int .i64 ra) := keepB HB3.out HLa.out a1; clear hb9))
  go_wp2_with (go_at_call 51; (with_reducible refine (KL.out _).mono ?_); rintro e wz ⟨rfl, hz9⟩)
  go_ret
  exact ⟨rfl, HT1.out.trans ((HB3.out.trans (hz9.mono HB3.out.size)).mono HT1.out.size)⟩
set_option maxRecDepth 20000 in
set_option maxHeartbeats 8000000 in
theorem self_right (w : World) (la : Option Addr) (ln lc : Nat) (ra : Int) (A : List Hd) (hA : GRaw w la ln A) (hf : fewB A = true) (hg : graphB ra A = false) : Calls Tryz.prog 15 #[.agg #[.slice la ln lc, .int .i64 ra]] w fun e w' => e = .returned (.bool true) ∧ Below w.heap.size w w' := by
  have HT1 : Hid (Below w.heap.size w (w.alloc (.cells #[.slice la ln lc, .int .i64 ra] 36))) := Lib.hid ((Below.refl _ _).alloc (Nat.le_refl _) _)
  have HX1 : Hid ((w.alloc (.cells #[.slice la ln lc, .int .i64 ra] 36)).heap[w.heap.size]? = some (.cells #[.slice la ln lc, .int .i64 ra] 36 (0, 0))) := Lib.hid (heap_alloc_new w _)
  have KL : Hid (∀ W', Calls Tryz.prog 51 #[] W' fun e w' => e = .returned (.bool true) ∧ Below W'.heap.size W' w') := Lib.hid (fun W' => lives10 W')
  have KFA := Lib.hid (few_c (lc := lc) (ra := ra) hA hf)
  have KRA := Lib.hid (right_c (lc := lc) hA hf hg)
  clear hA hf hg
  go_enter Tryz.func15, Tryz.ntmps15
  go_upto_region 1 with (fail)
  obtain ⟨w1, hw1⟩ : ∃ w1, w.alloc (.cells #[.slice la ln lc, .int .i64 ra] 36) = w1 := ⟨_, rfl⟩
  rw [hw1] at HX1 HT1 ⊢
  clear hw1
  have HLa : Hid (w.heap.size < w1.heap.size) := Lib.hid (Array.getElem?_eq_some_iff.1 HX1.out).1
  have a0 : w1.cell? ⟨w.heap.size, 0, none⟩ = some (.slice la ln lc) := (by rw [cell_of_row _ _ 0 _ 36 _ HX1.out]; rfl)
  have a1 : w1.cell? ⟨w.heap.size, 1, none⟩ = some (.int .i64 ra) := (by rw [cell_of_row _ _ 1 _ 36 _ HX1.out]; rfl)
  go_upto_region 2 with (first | (go_at_call 51; (with_reducible refine (KL.out _).mono ?_); rintro e w2 ⟨rfl, hb9⟩; have HB2 : Hid (Below w1.heap.size w1 w2) := Lib.hid (hb9); have a02 : w2.cell? ⟨w.heap.size, 0, none⟩ = some (.slice la ln lc) := keepB HB2.out HLa.out a0; have a12 : w2.cell? ⟨w.heap.size, 1, none⟩ = some (.int .i64 ra) := keepB HB2.out HLa.out a1; clear hb9) | (go_at_call 32; (with_reducible refine (KFA.out _ (HT1.out.trans (HB2.out.mono HT1.out.size))).mono ?_); rintro e w3 ⟨rfl, hb9⟩; have HB3 : Hid (Below w1.heap.size w1 w3) := Lib.hid (HB2.out.trans (hb9.mono HB2.out.size)); have a03 : w3.cell? ⟨w.heap.size, 0, none⟩ = some (.slice la ln lc) := keepB HB3.out HLa.out a0; have a13 : w3.cell? ⟨w.heap.size, 1, none⟩ = some (.int .i64 ra) := keepB HB3.out HLa.out a1; clear hb9) | (go_at_call 33; (with_reducible refine (KRA.out _ (HT1.out.trans (HB3.out.mono HT1.out.size))).mono ?_); rintro e w4 ⟨rfl, hb9⟩; have HB4 : Hid (Below w1.heap.size w1 w4) := Lib.hid (HB3.out.trans (hb9.mono HB3.out.size)); have a04 : w4.cell? ⟨w.heap.size, 0, none⟩ = some (.slice la ln lc) := keepB HB4.out HLa.out a0; have a14 : w4.cell? ⟨w.heap.size, 1, none⟩ = some (.int .i64 ra) := keepB HB4.out HLa.out a1; clear hb9))
  go_wp2_with (go_at_call 51; (with_reducible refine (KL.out _).mono ?_); rintro e wz ⟨rfl, hz9⟩)
  go_ret
  exact ⟨rfl, HT1.out.trans ((HB4.out.trans (hz9.mono HB4.out.size)).mono HT1.out.size)⟩
set_option maxRecDepth 20000 in
set_option maxHeartbeats 8000000 in
theorem self_all (w : World) (la : Option Addr) (ln lc root : Nat) (A : List Hd) (hA : GRaw w la ln A) (hf : fewB A = true) (hg : graphB (root : Int) A = true) : Calls Tryz.prog 15 #[.agg #[.slice la ln lc, .int .i64 (root : Int)]] w fun e w' => e = .returned (.bool true) ∧ Below w.heap.size w w' := by
  have HT1 : Hid (Below w.heap.size w (w.alloc (.cells #[.slice la ln lc, .int .i64 (root : Int)] 36))) := Lib.hid ((Below.refl _ _).alloc (Nat.le_refl _) _)
  have HX1 : Hid ((w.alloc (.cells #[.slice la ln lc, .int .i64 (root : Int)] 36)).heap[w.heap.size]? = some (.cells #[.slice la ln lc, .int .i64 (root : Int)] 36 (0, 0))) := Lib.hid (heap_alloc_new w _)
  have KL : Hid (∀ W', Calls Tryz.prog 51 #[] W' fun e w' => e = .returned (.bool true) ∧ Below W'.heap.size W' w') := Lib.hid (fun W' => lives10 W')
  have KFA := Lib.hid (few_c (lc := lc) (ra := (root : Int)) hA hf)
  have KRA := Lib.hid (right_c (lc := lc) hA hf hg)
  have hG := hA.gok hf hg
  have HGO : Hid (GOk w la ln root A) := Lib.hid hG
  have KB6 : Hid (∀ W', Calls Tryz.prog 37 #[.int .i64 6] W' (BasicPost W' ((6 : Nat) : Int))) := Lib.hid (fun W' => gb_ok W' 6 (by decide) (by decide))
  have KB5 : Hid (∀ W', Calls Tryz.prog 37 #[.int .i64 5] W' (BasicPost W' ((5 : Nat) : Int))) := Lib.hid (fun W' => gb_ok W' 5 (by decide) (by decide))
  have K1 : Hid (∀ W', Below w.heap.size w W' → Calls Tryz.prog 52 #[.agg #[.slice la ln lc, .int .i64 (root : Int)], .agg #[.slice la ln lc, .int .i64 (root : Int)]] W' fun e w' => e = .returned (.bool true) ∧ Below W'.heap.size W' w') := Lib.hid (fun W' hb => (may_gok (lc := lc) (ld := lc) (HGO.out.on hb) (HGO.out.on hb)).mono (fun e w' h => h.yes (may_self HGO.out.oks HGO.out.lens.1)))
  clear hA hf hg hG
  go_enter Tryz.func15, Tryz.ntmps15
  go_upto_region 1 with (fail)
  obtain ⟨w1, hw1⟩ : ∃ w1, w.alloc (.cells #[.slice la ln lc, .int .i64 (root : Int)] 36) = w1 := ⟨_, rfl⟩
  rw [hw1] at HX1 HT1 ⊢
  clear hw1
  have HLa : Hid (w.heap.size < w1.heap.size) := Lib.hid (Array.getElem?_eq_some_iff.1 HX1.out).1
  have a0 : w1.cell? ⟨w.heap.size, 0, none⟩ = some (.slice la ln lc) := (by rw [cell_of_row _ _ 0 _ 36 _ HX1.out]; rfl)
  have a1 : w1.cell? ⟨w.heap.size, 1, none⟩ = some (.int .i64 (root : Int)) := (by rw [cell_of_row _ _ 1 _ 36 _ HX1.out]; rfl)
  go_upto_region 3 with (first | (go_at_call 51; (with_reducible refine (KL.out _).mono ?_); rintro e w2 ⟨rfl, hb9⟩; have HB2 : Hid (Below w1.heap.size w1 w2) := Lib.hid (hb9); have a02 : w2.cell? ⟨w.heap.size, 0, none⟩ = some (.slice la ln lc) := keepB HB2.out HLa.out a0; have a12 : w2.cell? ⟨w.heap.size, 1, none⟩ = some (.int .i64 (root : Int)) := keepB HB2.out HLa.out a1; clear hb9) | (go_at_call 32; (with_reducible refine (KFA.out _ (HT1.out.trans (HB2.out.mono HT1.out.size))).mono ?_); rintro e w3 ⟨rfl, hb9⟩; have HB3 : Hid (Below w1.heap.size w1 w3) := Lib.hid (HB2.out.trans (hb9.mono HB2.out.size)); have a03 : w3.cell? ⟨w.heap.size, 0, none⟩ = some (.slice la ln lc) := keepB HB3.out HLa.out a0; have a13 : w3.cell? ⟨w.heap.size, 1, none⟩ = some (.int .i64 (root : Int)) := keepB HB3.out HLa.out a1; clear hb9) | (go_at_call 33; (with_reducible refine (KRA.out _ (HT1.out.trans (HB3.out.mono HT1.out.size))).mono ?_); rintro e w4 ⟨rfl, hb9⟩; have HB4 : Hid (Below w1.heap.size w1 w4) := Lib.hid (HB3.out.trans (hb9.mono HB3.out.size)); have a04 : w4.cell? ⟨w.heap.size, 0, none⟩ = some (.slice la ln lc) := keepB HB4.out HLa.out a0; have a14 : w4.cell? ⟨w.heap.size, 1, none⟩ = some (.int .i64 (root : Int)) := keepB HB4.out HLa.out a1; clear hb9))
  clear a0 a1 a02 a12 a03 a13
  obtain ⟨wa, rfl⟩ : ∃ wa : World, wa = w4 := ⟨_, rfl⟩
  have HW4 : Hid (Below w.heap.size w wa) := Lib.hid (HT1.out.trans (HB4.out.mono HT1.out.size))
  have hd4 : Below wa.heap.size wa wa.drew := (Below.refl _ _).drew
  have HLc : Hid (w.heap.size < wa.heap.size) := Lib.hid (Nat.lt_of_lt_of_le HLa.out HB4.out.size)
  have hw4 : Below w.heap.size w wa.drew := HW4.out.drew
  go_region_law
    (first
      | (go_simp; go_at_call 52; (with_reducible refine (K1.out _ hw4).mono ?_); rintro e w5 ⟨rfl, hb5⟩; have HC5 : Hid (Below wa.heap.size wa w5) := Lib.hid (hd4.trans hb5); have b0 : w5.cell? ⟨w.heap.size, 0, none⟩ = some (.slice la ln lc) := keepB HC5.out HLc.out a04; have b1 : w5.cell? ⟨w.heap.size, 1, none⟩ = some (.int .i64 (root : Int)) := keepB HC5.out HLc.out a14; clear hb5)
      | (go_simp; go_at_call 37; (with_reducible refine (KB6.out _).mono ?_); rintro e w6 ⟨g, rfl, hh6, hg6, hb6⟩; have HC6 : Hid (Below wa.heap.size wa w6) := Lib.hid (HC5.out.trans (hb6.mono HC5.out.size)); have c0 : w6.cell? ⟨w.heap.size, 0, none⟩ = some (.slice la ln lc) := keepB HC6.out HLc.out a04; have c1 : w6.cell? ⟨w.heap.size, 1, none⟩ = some (.int .i64 (root : Int)) := keepB HC6.out HLc.out a14; have K2 : Hid (Calls Tryz.prog 52 #[.agg #[.slice (some ⟨g, 0, none⟩) 1 1, .int .i64 0], .agg #[.slice la ln lc, .int .i64 (root : Int)]] w6 fun e w' => e = .returned (.bool true) ∧ Below w6.heap.size w6 w') := Lib.hid ((may_gok (lc := 1) (ld := lc) (bsc_gok (w := w6) (k := 6) (by decide) hh6) (HGO.out.on (HW4.out.trans (HC6.out.mono HW4.out.size)))).mono (fun e w' h => h.yes (may_none HGO.out.lens.1))); clear hh6 hg6 hb6)
      | (go_simp; go_at_call 52; (with_reducible refine K2.out.mono ?_); rintro e w7 ⟨rfl, hb7⟩; have HC7 : Hid (Below wa.heap.size wa w7) := Lib.hid (HC6.out.trans (hb7.mono HC6.out.size)); have d0 : w7.cell? ⟨w.heap.size, 0, none⟩ = some (.slice la ln lc) := keepB HC7.out HLc.out a04; have d1 : w7.cell? ⟨w.heap.size, 1, none⟩ = some (.int .i64 (root : Int)) := keepB HC7.out HLc.out a14; clear hb7)
      | (go_simp; go_at_call 37; (with_reducible refine (KB5.out _).mono ?_); rintro e w8 ⟨g8, rfl, hh8, hg8, hb8⟩; have HC8 : Hid (Below wa.heap.size wa w8) := Lib.hid (HC7.out.trans (hb8.mono HC7.out.size)); have e0 : w8.cell? ⟨w.heap.size, 0, none⟩ = some (.slice la ln lc) := keepB HC8.out HLc.out a04; have e1 : w8.cell? ⟨w.heap.size, 1, none⟩ = some (.int .i64 (root : Int)) := keepB HC8.out HLc.out a14; have K3 : Hid (Calls Tryz.prog 52 #[.agg #[.slice la ln lc, .int .i64 (root : Int)], .agg #[.slice (some ⟨g8, 0, none⟩) 1 1, .int .i64 0]] w8 fun e w' => e = .returned (.bool true) ∧ Below w8.heap.size w8 w') := Lib.hid ((may_gok (lc := lc) (ld := 1) (HGO.out.on (HW4.out.trans (HC8.out.mono HW4.out.size))) (bsc_gok (w := w8) (k := 5) (by decide) hh8)).mono (fun e w' h => h.yes (may_any HGO.out.lens.1))); clear hh8 hg8 hb8)
      | (go_simp; go_at_call 52; (with_reducible refine K3.out.mono ?_); rintro e w9 ⟨rfl, hb9⟩; have HC9 : Hid (Below wa.heap.size wa w9) := Lib.hid (HC8.out.trans (hb9.mono HC8.out.size)); clear hb9)
      | fail)
  all_goals
    go_wp2
    go_ret
    exact ⟨rfl, HW4.out.trans (HC9.out.mono HW4.out.size)⟩
theorem alikeSelf_true (w : World) (la : Option Addr) (ln lc : Nat) (ra : Int) (A : List Hd) (hA : GRaw w la ln A) : Calls Tryz.prog 15 #[.agg #[.slice la ln lc, .int .i64 ra]] w fun e w' => e = .returned (.bool true) ∧ Below w.heap.size w w' := by
  cases hf : fewB A with
  | false => exact self_few w la ln lc ra A hA hf
  | true =>
    cases hg : graphB ra A with
    | false => exact self_right w la ln lc ra A hA hf hg
    | true =>
      obtain ⟨_, h0, _⟩ := OkHeads.of_graph hg
      obtain ⟨root, rfl⟩ : ∃ root : Nat, ra = (root : Int) := ⟨ra.toNat, by omega⟩
      exact self_all w la ln lc root A hA hf hg
end Go.Proofs.YtifilhkkgkihpaaGreatDoor
