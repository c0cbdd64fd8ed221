/- Walks and plain facts. -/
import Derived.Test.YtifilhkkgkihpaaGreatDoorBm10
import Derived.Test.YtifilhkkgkihpaaGreatDoorBm12
import Derived.Test.YtifilhkkgkihpaaGreatDoorBm01
import Derived.Test.YtifilhkkgkihpaaGreatDoorBm04
import Derived.Test.YtifilhkkgkihpaaGreatDoorBm02
set_option linter.unusedSimpArgs false
set_option linter.unusedVariables false
namespace Go.Proofs.YtifilhkkgkihpaaGreatDoor
open Go.RowKit
theorem may_gok {w : World} {la : Option Addr} {ln lc ra : Nat} {A : List Hd} (hA : GOk w la ln ra A) {lb : Option Addr} {lm ld rb : Nat} {B : List Hd} (hB : GOk w lb lm rb B) : Calls Tryz.prog 52 #[.agg #[.slice la ln lc, .int .i64 (ra : Int)], .agg #[.slice lb lm ld, .int .i64 (rb : Int)]] w (MayPost w (MayA A B ra rb)) := may_ok w la ln lc A hA.heads ra lb lm ld B hB.heads rb (by have := hA.len; omega) (by have := hB.len; omega) hA.ok hB.ok
theorem MayPost.yes {w : World} {P : Prop} {e : Ending} {w' : World} (h : MayPost w P e w') (hp : P) : e = .returned (.bool true) ∧ Below w.heap.size w w' := by
  obtain ⟨b, h1, h2, h3⟩ := h
  rw [h2.2 hp] at h1
  exact ⟨h1, h3⟩
theorem MayPost.no {w : World} {P : Prop} {e : Ending} {w' : World} (h : MayPost w P e w') (hp : ¬ P) : e = .returned (.bool false) ∧ Below w.heap.size w w' := by
  obtain ⟨b, h1, h2, h3⟩ := h
  cases b with
  | true => exact absurd (h2.1 rfl) hp
  | false => exact ⟨h1, h3⟩
set_option maxRecDepth 20000 in
set_option maxHeartbeats 4000000 in
theorem todyn_ok (w : World) (la : Option Addr) (ln lc root : Nat) (HS : List Hd) (h : GOk w la ln root HS) : Calls Tryz.prog 53 #[.agg #[.slice la ln lc, .int .i64 (root : Int)]] w (MayPost w (MayA HS (bsc 4) root 0)) := by
  have KB : Hid (∀ W', Calls Tryz.prog 37 #[.int .i64 4] W' (BasicPost W' ((4 : Nat) : Int))) := Lib.hid (fun W' => gb_ok W' 4 (by decide) (by decide))
  have HX : Hid ((w.alloc (.cells #[.slice la ln lc, .int .i64 (root : Int)] 36)).heap[w.heap.size]? = some (.cells #[.slice la ln lc, .int .i64 (root : Int)] 36 (0, 0))) := Lib.hid (heap_alloc_new w _)
  have HB : Hid (Below w.heap.size w (w.alloc (.cells #[.slice la ln lc, .int .i64 (root : Int)] 36))) := Lib.hid ((Below.refl _ _).alloc (Nat.le_refl _) _)
  have hG0 := h.on HB.out
  have HG0 := Lib.hid hG0
  clear h hG0
  go_enter Tryz.func53, Tryz.ntmps53
  go_upto_region 1 with (fail)
  obtain ⟨w1, hw1⟩ : ∃ w1, w.alloc (.cells #[.slice la ln lc, .int .i64 (root : Int)] 36) = w1 := ⟨_, rfl⟩
  rw [hw1] at HX HB HG0 ⊢
  clear hw1
  have HLX : Hid (w.heap.size < w1.heap.size) := Lib.hid (Array.getElem?_eq_some_iff.1 HX.out).1
  have a0 : w1.cell? ⟨w.heap.size, 0, none⟩ = some (.slice la ln lc) := (by rw [cell_of_row _ _ 0 _ 36 _ HX.out]; rfl)
  have a1 : w1.cell? ⟨w.heap.size, 1, none⟩ = some (.int .i64 (root : Int)) := (by rw [cell_of_row _ _ 1 _ 36 _ HX.out]; rfl)
  have hd1 : Below w1.heap.size w1 w1.drew := (Below.refl _ _).drew
  go_region_law
    (first
      | (go_simp; go_at_call 37; (with_reducible refine (KB.out _).mono ?_); rintro e w3 ⟨g, rfl, hh3, hg3, hb3⟩; have HB3 : Hid (Below w1.heap.size w1 w3) := Lib.hid (hd1.trans hb3); have b0 : w3.cell? ⟨w.heap.size, 0, none⟩ = some (.slice la ln lc) := keepB HB3.out HLX.out a0; have b1 : w3.cell? ⟨w.heap.size, 1, none⟩ = some (.int .i64 (root : Int)) := keepB HB3.out HLX.out a1; have HGB := Lib.hid (bsc_gok (w := w3) (k := 4) (by decide) hh3); have hG := HG0.out; have KM : Hid (Calls Tryz.prog 52 #[.agg #[.slice la ln lc, .int .i64 (root : Int)], .agg #[.slice (some ⟨g, 0, none⟩) 1 1, .int .i64 0]] w3 (MayPost w3 (MayA HS (bsc 4) root 0))) := Lib.hid (may_gok (lc := lc) (ld := 1) (hG.on HB3.out) (HGB.out)); clear hh3 hg3 hb3 hG)
      | (go_simp; go_at_call 52; (with_reducible refine KM.out.mono ?_); rintro e w4 ⟨b, rfl, hb8, hb9⟩; have HIF := Lib.hid hb8; have HB4 := Lib.hid hb9; clear hb8 hb9)
      | fail)
  all_goals
    go_wp2
    go_ret
    exact ⟨b, rfl, HIF.out, HB.out.trans ((HB3.out.trans (HB4.out.mono HB3.out.size)).mono HB.out.size)⟩
set_option maxRecDepth 20000 in
set_option maxHeartbeats 4000000 in
theorem fromdyn_ok (w : World) (la : Option Addr) (ln lc root : Nat) (HS : List Hd) (h : GOk w la ln root HS) : Calls Tryz.prog 54 #[.agg #[.slice la ln lc, .int .i64 (root : Int)]] w (MayPost w (MayA (bsc 4) HS 0 root)) := by
  have KB : Hid (∀ W', Calls Tryz.prog 37 #[.int .i64 4] W' (BasicPost W' ((4 : Nat) : Int))) := Lib.hid (fun W' => gb_ok W' 4 (by decide) (by decide))
  have HX : Hid ((w.alloc (.cells #[.slice la ln lc, .int .i64 (root : Int)] 36)).heap[w.heap.size]? = some (.cells #[.slice la ln lc, .int .i64 (root : Int)] 36 (0, 0))) := Lib.hid (heap_alloc_new w _)
  have HB : Hid (Below w.heap.size w (w.alloc (.cells #[.slice la ln lc, .int .i64 (root : Int)] 36))) := Lib.hid ((Below.refl _ _).alloc (Nat.le_refl _) _)
  have hG0 := h.on HB.out
  have HG0 := Lib.hid hG0
  clear h hG0
  go_enter Tryz.func54, Tryz.ntmps54
  go_upto_region 1 with (fail)
  obtain ⟨w1, hw1⟩ : ∃ w1, w.alloc (.cells #[.slice la ln lc, .int .i64 (root : Int)] 36) = w1 := ⟨_, rfl⟩
  rw [hw1] at HX HB HG0 ⊢
  clear hw1
  have HLX : Hid (w.heap.size < w1.heap.size) := Lib.hid (Array.getElem?_eq_some_iff.1 HX.out).1
  have a0 : w1.cell? ⟨w.heap.size, 0, none⟩ = some (.slice la ln lc) := (by rw [cell_of_row _ _ 0 _ 36 _ HX.out]; rfl)
  have a1 : w1.cell? ⟨w.heap.size, 1, none⟩ = some (.int .i64 (root : Int)) := (by rw [cell_of_row _ _ 1 _ 36 _ HX.out]; rfl)
  have hd1 : Below w1.heap.size w1 w1.drew := (Below.refl _ _).drew
  go_region_law
    (first
      | (go_simp; go_at_call 37; (with_reducible refine (KB.out _).mono ?_); rintro e w3 ⟨g, rfl, hh3, hg3, hb3⟩; have HB3 : Hid (Below w1.heap.size w1 w3) := Lib.hid (hd1.trans hb3); have b0 : w3.cell? ⟨w.heap.size, 0, none⟩ = some (.slice la ln lc) := keepB HB3.out HLX.out a0; have b1 : w3.cell? ⟨w.heap.size, 1, none⟩ = some (.int .i64 (root : Int)) := keepB HB3.out HLX.out a1; have HGB := Lib.hid (bsc_gok (w := w3) (k := 4) (by decide) hh3); have hG := HG0.out; have KM : Hid (Calls Tryz.prog 52 #[.agg #[.slice (some ⟨g, 0, none⟩) 1 1, .int .i64 0], .agg #[.slice la ln lc, .int .i64 (root : Int)]] w3 (MayPost w3 (MayA (bsc 4) HS 0 root))) := Lib.hid (may_gok (lc := 1) (ld := lc) (HGB.out) (hG.on HB3.out)); clear hh3 hg3 hb3 hG)
      | (go_simp; go_at_call 52; (with_reducible refine KM.out.mono ?_); rintro e w4 ⟨b, rfl, hb8, hb9⟩; have HIF := Lib.hid hb8; have HB4 := Lib.hid hb9; clear hb8 hb9)
      | fail)
  all_goals
    go_wp2
    go_ret
    exact ⟨b, rfl, HIF.out, HB.out.trans ((HB3.out.trans (HB4.out.mono HB3.out.size)).mono HB.out.size)⟩
/-- the kind of a typed graph's root. -/
theorem typed_root {HS OS : List Hd} {hs : List Vh} {v : Vh} (hv : HS.map vh = v :: hs) (hok : OkHeads HS) (hn : NormF HS 0 OS) : Bis OS HS 0 0 ∧ ∃ x, OS[0]? = some x ∧ x.kd = v.1 ∧ ∃ y, HS[0]? = some y ∧ vh y = v := by
  have h0 : 0 < HS.length := by rw [vh_len hv]; simp
  have hb := hn.bis hok h0
  obtain ⟨y, hy⟩ : ∃ y, HS[0]? = some y := ⟨_, List.getElem?_eq_getElem h0⟩
  have hl : 0 < OS.length := by
    obtain ⟨cl, ord, a1, a2, a3, a4⟩ := hn
    have := (List.getElem?_eq_some_iff.1 a3.first).1
    omega
  obtain ⟨x, hx⟩ : ∃ x, OS[0]? = some x := ⟨_, List.getElem?_eq_getElem hl⟩
  have hvy : vh y = v := by
    have h1 := congrArg (fun l => l[0]?) hv
    simp only [List.getElem?_map, hy, Option.map_some, List.getElem?_cons_zero, Option.some.injEq] at h1
    exact h1
  exact ⟨hb, x, hx, by rw [(hb.root hx hy).1, ← hvy]; rfl, y, hy, hvy⟩
theorem stp_none {A B : List Hd} {i j : Nat} {h k : Hd} (hi : A[i]? = some h) (hj : B[j]? = some k) (he : askA (rowA A B) (A.length + B.length) h (shH A.length k) = none) : ¬ MayA A B i j := by
  refine Cst.not ?_
  rw [stpA_at (p := (i, A.length + j)) (row_l hi) (row_r hj)]
  exact he
theorem ex_any {HS OS : List Hd} (hv : HS.map vh = [(((5 : Nat) : Int), [], [], false)]) (hok : OkHeads HS) (hn : NormF HS 0 OS) : ¬ MayA OS (bsc 4) 0 0 := by
  obtain ⟨_, x, hx, hk, _⟩ := typed_root hv hok hn
  refine stp_none (k := ⟨4, none, 0, 0, [], none, 0, 0, [], false⟩) hx rfl ?_
  unfold askA
  rw [if_neg (by rw [hk]; simp [shH]), if_pos (by rw [hk]; rfl)]
theorem ex_int_str {HS OS HS' OS' : List Hd} (hv : HS.map vh = [(((0 : Nat) : Int), [], [], false)]) (hok : OkHeads HS) (hn : NormF HS 0 OS) (hv' : HS'.map vh = [(((2 : Nat) : Int), [], [], false)]) (hok' : OkHeads HS') (hn' : NormF HS' 0 OS') : ¬ MayA OS OS' 0 0 := by
  obtain ⟨_, x, hx, hk, _⟩ := typed_root hv hok hn
  obtain ⟨_, y, hy, hk', _⟩ := typed_root hv' hok' hn'
  refine stp_none hx hy ?_
  have e : (shH OS.length y).kd = 2 := by rw [show (shH OS.length y).kd = y.kd from rfl, hk']; rfl
  have e0 : x.kd = 0 := by rw [hk]; rfl
  unfold askA
  rw [if_neg (by rw [e, e0]; decide), if_neg (by rw [e0]; decide), if_neg (by rw [e0]; decide), if_neg (by rw [e]; decide), if_pos (by rw [e, e0]; decide)]
theorem ex_int_dyn {HS OS : List Hd} (hv : HS.map vh = [(7, [], [1, 2], false), (((0 : Nat) : Int), [], [], false), (((4 : Nat) : Int), [], [], false)]) (hok : OkHeads HS) (hn : NormF HS 0 OS) (hoO : OkHeads OS) : MayA (bsc 4) OS 0 0 := by
  obtain ⟨hb, x, hx, hk, y, hy, hvy⟩ := typed_root hv hok hn
  obtain ⟨h1, h2, h3⟩ := hb.root hx hy
  simp only [vh, Prod.mk.injEq] at hvy
  obtain ⟨v1, v2, v3, v4⟩ := hvy
  have hl : x.KS.length = 2 := by rw [h2, v3]; rfl
  obtain ⟨a, b, hab⟩ := two_of hl
  have ra := ok_kids hoO hx a (by rw [hab]; simp)
  have rb := ok_kids hoO hx b (by rw [hab]; simp)
  obtain ⟨xa, hxa⟩ : ∃ xa, OS[a.toNat]? = some xa := ⟨_, List.getElem?_eq_getElem (by omega)⟩
  obtain ⟨xb, hxb⟩ : ∃ xb, OS[b.toNat]? = some xb := ⟨_, List.getElem?_eq_getElem (by omega)⟩
  have hat : ∀ (i : Nat) u, HS[i]? = some u → ([(7, [], [1, 2], false), (((0 : Nat) : Int), [], [], false), (((4 : Nat) : Int), [], [], false)] : List Vh)[i]? = some (vh u) := fun i u hu => by rw [← hv, List.getElem?_map, hu]; rfl
  have hl3 := vh_len hv
  obtain ⟨ya, hya⟩ : ∃ ya, HS[1]? = some ya := ⟨_, List.getElem?_eq_getElem (by rw [hl3]; decide)⟩
  obtain ⟨yb, hyb⟩ : ∃ yb, HS[2]? = some yb := ⟨_, List.getElem?_eq_getElem (by rw [hl3]; decide)⟩
  have ka : xa.kd = 0 := by
    have h4 := ((h3 0 a 1 (by rw [hab]; rfl) (by rw [v3]; rfl)).root hxa hya).1
    have h5 := hat 1 ya hya
    simp only [List.getElem?_cons_succ, List.getElem?_cons_zero, Option.some.injEq] at h5
    rw [h4]
    exact (congrArg (fun v : Vh => v.1) h5).symm
  have kb : xb.kd = 4 := by
    have h4 := ((h3 1 b 2 (by rw [hab]; rfl) (by rw [v3]; rfl)).root hxb hyb).1
    have h5 := hat 2 yb hyb
    simp only [List.getElem?_cons_succ, List.getElem?_cons_zero, Option.some.injEq] at h5
    rw [h4]
    exact (congrArg (fun v : Vh => v.1) h5).symm
  have hd := row_d (bsc 4) OS
  have r0 : (rowA (bsc 4) OS)[0]? = some ⟨4, none, 0, 0, [], none, 0, 0, [], false⟩ := row_l (A := bsc 4) rfl
  have r1 := row_r (A := bsc 4) hx
  have r2 := row_r (A := bsc 4) hxa
  have r3 := row_r (A := bsc 4) hxb
  refine ⟨fun p => p = (0, (bsc 4).length + 0) ∨ p = ((bsc 4).length + a.toNat, (bsc 4).length + OS.length) ∨ p = ((bsc 4).length + OS.length, (bsc 4).length + b.toNat), fun p hp => ?_, .inl rfl⟩
  rcases hp with rfl | rfl | rfl
  · rw [stpA_at (p := (0, (bsc 4).length + 0)) r0 r1]
    have e7 : (shH (bsc 4).length x).kd = 7 := hk
    unfold askA
    rw [if_neg (by rw [e7]; decide), if_neg (by decide), if_pos rfl, if_pos e7]
    refine ⟨_, rfl, fun q hq => ?_⟩
    have eK : (shH (bsc 4).length x).KS = [a + ((bsc 4).length : Int), b + ((bsc 4).length : Int)] := by simp [shH, hab]
    rw [eK] at hq
    simp only [List.mem_cons, List.not_mem_nil, or_false] at hq
    rcases hq with rfl | rfl
    · exact .inr (.inl (Prod.ext (by simp [bsc]; omega) rfl))
    · exact .inr (.inr (Prod.ext rfl (by simp [bsc]; omega)))
  · rw [stpA_at (p := ((bsc 4).length + a.toNat, (bsc 4).length + OS.length)) r2 hd]
    have e0 : (shH (bsc 4).length xa).kd = 0 := ka
    unfold askA
    rw [if_neg (by rw [e0]; decide), if_neg (by rw [e0]; decide), if_neg (by rw [e0]; decide), if_pos (show dynH.kd = 4 from rfl), if_neg (by rw [e0]; decide), if_neg (by rw [e0]; decide), if_neg (by rw [e0]; decide)]
    exact ⟨[], rfl, fun q hq => by cases hq⟩
  · rw [stpA_at (p := ((bsc 4).length + OS.length, (bsc 4).length + b.toNat)) hd r3]
    have e4 : (shH (bsc 4).length xb).kd = 4 := kb
    unfold askA
    rw [if_neg (by rw [e4]; decide), if_neg (by decide), if_pos (show dynH.kd = 4 from rfl), if_neg (by rw [e4]; decide), if_neg (by rw [e4]; decide)]
    exact ⟨[], rfl, fun q hq => by cases hq⟩
set_option maxRecDepth 20000 in
set_option maxHeartbeats 8000000 in
theorem lives10 (w : World) : Calls Tryz.prog 51 #[] w fun e w' => e = .returned (.bool true) ∧ Below w.heap.size w w' := by
  have T1 : Hid (Calls Tryz.prog 39 #[.string ⟨#[105, 110, 116, 32, 45, 62, 32, 100, 121, 110]⟩] w (TypedPost w [(7, [], [1, 2], false), (((0 : Nat) : Int), [], [], false), (((4 : Nat) : Int), [], [], false)])) := Lib.hid (typedT_any w t_int_dyn _ t_int_dyn_text)
  have T2 : Hid (∀ W, Calls Tryz.prog 39 #[.string ⟨#[97, 110, 121]⟩] W (TypedPost W [(((5 : Nat) : Int), [], [], false)])) := Lib.hid (fun W => typedT_any W t_any _ t_any_text)
  have T3 : Hid (∀ W, Calls Tryz.prog 39 #[.string ⟨#[105, 110, 116]⟩] W (TypedPost W [(((0 : Nat) : Int), [], [], false)])) := Lib.hid (fun W => typedT_any W t_int _ t_int_text)
  have T4 : Hid (∀ W, Calls Tryz.prog 39 #[.string ⟨#[115, 116, 114]⟩] W (TypedPost W [(((2 : Nat) : Int), [], [], false)])) := Lib.hid (fun W => typedT_any W t_str _ t_str_text)
  go_enter Tryz.func51, Tryz.ntmps51
  go_wp2_with (first
    | (go_at_call 39; (with_reducible refine T1.out.mono ?_); rintro e w1 ⟨HS, OS, g, c, rfl, hv, hok, hfv, hn, hgr, hb⟩; have HB1 := Lib.hid hb; have hgo := typed_gok hok hfv hn (by rw [vh_len hv]; decide) (by rw [vh_len hv]; decide) hgr; have K1 : Hid (Calls Tryz.prog 54 #[.agg #[.slice (some ⟨g, 0, none⟩) OS.length c, .int .i64 0]] w1 fun e w' => e = .returned (.bool true) ∧ Below w1.heap.size w1 w') := Lib.hid ((fromdyn_ok w1 (some ⟨g, 0, none⟩) OS.length c 0 OS hgo).mono (fun e w' h => h.yes (ex_int_dyn hv hok hn hgo.oks))); clear hv hok hfv hn hgr hb hgo)
    | (go_at_call 54; (with_reducible refine K1.out.mono ?_); rintro e w2 ⟨rfl, hb2⟩; have HB2 := Lib.hid hb2; clear hb2)
    | (go_at_call 39; (with_reducible refine (T2.out _).mono ?_); rintro e w3 ⟨HS3, OS3, g3, c3, rfl, hv, hok, hfv, hn, hgr, hb⟩; have HB3 := Lib.hid hb; have hgo := typed_gok hok hfv hn (by rw [vh_len hv]; decide) (by rw [vh_len hv]; decide) hgr; have K3 : Hid (Calls Tryz.prog 53 #[.agg #[.slice (some ⟨g3, 0, none⟩) OS3.length c3, .int .i64 0]] w3 fun e w' => e = .returned (.bool false) ∧ Below w3.heap.size w3 w') := Lib.hid ((todyn_ok w3 (some ⟨g3, 0, none⟩) OS3.length c3 0 OS3 hgo).mono (fun e w' h => h.no (ex_any hv hok hn))); clear hv hok hfv hn hgr hb hgo)
    | (go_at_call 53; (with_reducible refine K3.out.mono ?_); rintro e w4 ⟨rfl, hb4⟩; have HB4 := Lib.hid hb4; clear hb4)
    | (go_at_call 39; (with_reducible refine (T3.out _).mono ?_); rintro e w5 ⟨HS5, OS5, g5, c5, rfl, hv, hok, hfv, hn, hgr, hb⟩; have HB5 := Lib.hid hb; have HGO5 := Lib.hid (typed_gok hok hfv hn (by rw [vh_len hv]; decide) (by rw [vh_len hv]; decide) hgr); have HV5 := Lib.hid hv; have HOK5 := Lib.hid hok; have HN5 := Lib.hid hn; clear hv hok hfv hn hgr hb)
    | (go_at_call 39; (with_reducible refine (T4.out _).mono ?_); rintro e w6 ⟨HS6, OS6, g6, c6, rfl, hv, hok, hfv, hn, hgr, hb⟩; have HB6 := Lib.hid hb; have hgo := typed_gok hok hfv hn (by rw [vh_len hv]; decide) (by rw [vh_len hv]; decide) hgr; have K6 : Hid (Calls Tryz.prog 52 #[.agg #[.slice (some ⟨g5, 0, none⟩) OS5.length c5, .int .i64 0], .agg #[.slice (some ⟨g6, 0, none⟩) OS6.length c6, .int .i64 0]] w6 fun e w' => e = .returned (.bool false) ∧ Below w6.heap.size w6 w') := Lib.hid ((may_gok (HGO5.out.on HB6.out) hgo).mono (fun e w' h => h.no (ex_int_str HV5.out HOK5.out HN5.out hv hok hn))); clear hv hok hfv hn hgr hb hgo)
    | (go_at_call 52; (with_reducible refine K6.out.mono ?_); rintro e w7 ⟨rfl, hb7⟩; have HB7 := Lib.hid hb7; clear hb7))
  go_ret
  exact ⟨rfl, HB1.out.trans ((HB2.out.trans ((HB3.out.trans ((HB4.out.trans ((HB5.out.trans ((HB6.out.trans (HB7.out.mono HB6.out.size)).mono HB5.out.size)).mono HB4.out.size)).mono HB3.out.size)).mono HB2.out.size)).mono HB1.out.size)⟩
end Go.Proofs.YtifilhkkgkihpaaGreatDoor
