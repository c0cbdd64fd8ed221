/- Walks and plain facts. -/
import Derived.Test.YtifilhkkgkihpaaGreatDoorBm08
import Derived.Test.YtifilhkkgkihpaaGreatDoorBm10
import Derived.Deep.RegionHeld3
import Derived.Deep.LoopGhost
import Derived.Test.YtifilhkkgkihpaaGreatDoorBm01
import Derived.Test.YtifilhkkgkihpaaGreatDoorBm04
import Derived.Test.YtifilhkkgkihpaaGreatDoorBm02
set_option linter.unusedSimpArgs false
set_option linter.unusedVariables false
namespace Go.Proofs.YtifilhkkgkihpaaGreatDoor
open Go.RowKit
theorem HeadsIn.kept {w w' : World} {la : Option Addr} {ln : Nat} {HS : List Hd} (h : HeadsIn w la ln HS) (hs : w.heap.size ≤ w'.heap.size) (hb : ∀ b, b < w.heap.size → w'.heap[b]? = w.heap[b]?) : HeadsIn w' la ln HS := by
  refine ⟨h.1, ?_⟩
  rcases h.2 with h0 | ⟨g, o, e, hg, hc⟩
  · exact Or.inl h0
  · refine Or.inr ⟨g, o, e, Nat.lt_of_lt_of_le hg hs, fun i x hx => ?_⟩
    have r := hc i x hx
    have hk : ∀ o v, w.cell? ⟨g, o, none⟩ = some v → w'.cell? ⟨g, o, none⟩ = some v := fun o v e => (World.cell?_of_block (w := w) (a := ⟨g, o, none⟩) (hb g hg)).trans e
    exact ⟨hk _ _ r.c0, hk _ _ r.c1, hk _ _ r.c2, hk _ _ r.c3, hd_kept r.ok (fun ad e hl => hb _ hl) hs⟩
theorem flat_pcB (L : List PrB) (x : PrB) (t : Nat) : ((L ++ [x]).flatMap pcB)[L.length * 3 + t]? = (pcB x)[t]? := by
  have hl : (L.flatMap pcB).length = L.length * 3 := by
    induction L with
    | nil => rfl
    | cons y L ih => rw [List.flatMap_cons, List.length_append, ih]; simp [pcB]; omega
  rw [List.flatMap_append, List.getElem?_append_right (by omega), hl]
  simp
theorem wrk_finB {F : PrB → Option (List PrB)} {root x : PrB} {S L : List PrB} (h : Wrk F root S (L ++ [x]) none) {m : List PrB} (hm : F x = some m) {qs : List PrB} (h1 : ∀ q ∈ qs, q ∈ m) (h2 : ∀ q ∈ m, q ∈ qs) : Wrk F root (qs.foldl askS (S, L)).1 (qs.foldl askS (S, L)).2 none :=
  (Wrk.asks hm qs [] (S, L) h.take h1).fin hm (fun q hq => by simpa using h2 q hq)
theorem row_rng {A B : List Hd} {t : Bool} (okA : OkHeads A) (okB : OkHeads B) {p : PrB} {m : List PrB} (e : stpB A B p = some m) (h1 : p.1 < (rowB A B p.2.2).length) (h2 : p.2.1 < (rowB A B (!p.2.2)).length) : ∀ q ∈ m, q.1 < (rowB A B q.2.2).length ∧ q.2.1 < (rowB A B (!q.2.2)).length := by
  obtain ⟨i, j, t⟩ := p
  simp only at h1 h2
  obtain ⟨h, hi⟩ : ∃ h, (rowB A B t)[i]? = some h := ⟨_, List.getElem?_eq_getElem h1⟩
  obtain ⟨k, hj⟩ : ∃ k, (rowB A B (!t))[j]? = some k := ⟨_, List.getElem?_eq_getElem h2⟩
  rw [stpB_at (p := (i, j, t)) hi hj] at e
  intro q hq
  have r := askB_range (row_oks okA okB t _ (List.mem_of_getElem? hi)) (row_oks okA okB (!t) _ (List.mem_of_getElem? hj)) (by omega) (by omega) e q hq
  by_cases ht : q.2.2 = t
  · rw [ht]; exact r.1 ht
  · have h3 : q.2.2 = !t := by cases h4 : q.2.2 <;> cases t <;> simp_all
    rw [h3, Bool.not_not]
    exact r.2 h3
/-- below's asker at its birth. -/
theorem newB (w4 : World) (C0 C1 : Value) : AkT akB w4 ((w4.alloc (.map #[] 0)).alloc (.cells #[C0, C1, .map (some w4.heap.size), .slice none 0 0] 123)) (w4.heap.size + 1) w4.heap.size C0 C1 ((w4.alloc (.map #[] 0)).alloc (.cells #[C0, C1, .map (some w4.heap.size), .slice none 0 0] 123)) ([], []) ∧ Below w4.heap.size w4 ((w4.alloc (.map #[] 0)).alloc (.cells #[C0, C1, .map (some w4.heap.size), .slice none 0 0] 123)) := by
  have hb : Below w4.heap.size w4 ((w4.alloc (.map #[] 0)).alloc (.cells #[C0, C1, .map (some w4.heap.size), .slice none 0 0] 123)) := ((Below.refl _ _).alloc (Nat.le_refl _) _).alloc (by simp) _
  refine ⟨⟨WkN.start, .map [], none, 0, {
    below := hb
    lsize := Nat.le_refl _
    keep := fun b _ _ _ => rfl
    box := by
      have := heap_alloc_new (w4.alloc (.map #[] 0)) (.cells #[C0, C1, .map (some w4.heap.size), .slice none 0 0] 123)
      simpa using this
    map := (World.ownsMap_made w4 Tryz.prog 126 _).alloc _
    mapb := SetP.nil
    row := World.ownsRow_nil _ _ _ _
    geR := by omega
    geM := Nat.le_refl _
    lR := by simp
    lM := by simp; omega
    le := hb.size }⟩, hb⟩
set_option maxRecDepth 20000 in
set_option maxHeartbeats 16000000 in
theorem below_ok (w : World) (la : Option Addr) (ln lc : Nat) (A : List Hd) (hA : HeadsIn w la ln A) (ra : Nat) (lb : Option Addr) (lm ld : Nat) (B : List Hd) (hB : HeadsIn w lb lm B) (rb : Nat) (hln : ln ≤ 150) (hlm : lm ≤ 150) (hga : graphB (ra : Int) A = true) (hgb : graphB (rb : Int) B = true) :
    Calls Tryz.prog 46 #[.agg #[.slice la ln lc, .int .i64 (ra : Int)], .agg #[.slice lb lm ld, .int .i64 (rb : Int)]] w (MayPost w (BelowP A B ra rb)) := by
  obtain rfl : ln = A.length := hA.1
  obtain rfl : lm = B.length := hB.1
  have okA := (OkHeads.of_graph hga).1
  have okB := (OkHeads.of_graph hgb).1
  have hra : ra < A.length := by have := (OkHeads.of_graph hga).2.2; omega
  have hrb : rb < B.length := by have := (OkHeads.of_graph hgb).2.2; omega
  have HRAB := Lib.hid (And.intro hra hrb)
  have HOA := Lib.hid okA
  have HOB := Lib.hid okB
  have HKB := Lib.hid (fun x (hx : x ∈ B) => (head_kind (okB x hx)).2.2.1)
  have H2 := Lib.hid (two_box w #[.slice la A.length lc, .int .i64 (ra : Int)] #[.slice lb B.length ld, .int .i64 (rb : Int)] 36)
  have HCA := Lib.hid (check_any _ la A.length lc (ra : Int) A (hA.on H2.out.2.2) (by unfold maxLen; omega))
  have HCB : Hid (∀ w', Below w.heap.size w w' → Calls Tryz.prog 38 #[.agg #[.slice lb B.length ld, .int .i64 (rb : Int)]] w' (ErrPost w' (graphB (rb : Int) B))) := Lib.hid (fun w' hb => check_any w' lb B.length ld (rb : Int) B (hB.on hb) (by unfold maxLen; omega))
  rw [hga] at HCA
  rw [hgb] at HCB
  have HAA := Lib.hid hA
  have HBB := Lib.hid hB
  have hmm := @run_makeMap Tryz.prog
  have hra2 : (ra : Int) < A.length := by omega
  have hrb2 : (rb : Int) < B.length := by omega
  clear hA hB hga hgb okA okB
  go_enter Tryz.func46, Tryz.ntmps46
  go_upto_region 1 with (fail)
  obtain ⟨w2, hw2⟩ : ∃ w2, ((w.alloc (.cells #[.slice la A.length lc, .int .i64 (ra : Int)] 36)).alloc (.cells #[.slice lb B.length ld, .int .i64 (rb : Int)] 36)) = w2 := ⟨_, rfl⟩
  rw [hw2] at H2 HCA ⊢
  clear hw2
  have HSZ : Hid (w.heap.size + 1 < w2.heap.size) := Lib.hid (Array.getElem?_eq_some_iff.1 H2.out.2.1).1
  have a0 : w2.cell? ⟨w.heap.size, 0, none⟩ = some (.slice la A.length lc) := (by rw [cell_of_row _ _ 0 _ 36 _ H2.out.1]; rfl)
  have a1 : w2.cell? ⟨w.heap.size, 1, none⟩ = some (.int .i64 (ra : Int)) := (by rw [cell_of_row _ _ 1 _ 36 _ H2.out.1]; rfl)
  go_upto_region 3 with (first | (go_at_call 38; (with_reducible refine HCA.out.mono ?_); rintro e w3 ⟨rfl, hb3⟩; have HB3 := Lib.hid (H2.out.2.2.trans (hb3.mono H2.out.2.2.size)); have HX3 := Lib.hid ((hb3.block _ HSZ.out).trans H2.out.2.1); have HX3a := Lib.hid ((hb3.block _ (Nat.lt_of_succ_lt HSZ.out)).trans H2.out.1); have b0 : w3.cell? ⟨w.heap.size + 1, 0, none⟩ = some (.slice lb B.length ld) := (by rw [cell_of_row _ _ 0 _ 36 _ HX3.out]; rfl); have b1 : w3.cell? ⟨w.heap.size + 1, 1, none⟩ = some (.int .i64 (rb : Int)) := (by rw [cell_of_row _ _ 1 _ 36 _ HX3.out]; rfl); clear hb3) | (go_at_call 38; (with_reducible refine (HCB.out _ HB3.out).mono ?_); rintro e w4 ⟨rfl, hb4⟩; have HB4 := Lib.hid (HB3.out.trans (hb4.mono HB3.out.size)); have HX4 := Lib.hid ((hb4.block _ (Array.getElem?_eq_some_iff.1 HX3.out).1).trans HX3.out); have HX4a := Lib.hid ((hb4.block _ (Array.getElem?_eq_some_iff.1 HX3a.out).1).trans HX3a.out); clear hb4))
  clear a0 a1 b0 b1
  have a0 : w4.cell? ⟨w.heap.size, 0, none⟩ = some (.slice la A.length lc) := (by rw [cell_of_row _ _ 0 _ 36 _ HX4a.out]; rfl)
  have b0 : w4.cell? ⟨w.heap.size + 1, 0, none⟩ = some (.slice lb B.length ld) := (by rw [cell_of_row _ _ 0 _ 36 _ HX4.out]; rfl)
  have HSZ4 : Hid (w.heap.size < w4.heap.size ∧ w.heap.size + 1 < w4.heap.size) := Lib.hid ⟨(Array.getElem?_eq_some_iff.1 HX4a.out).1, (Array.getElem?_eq_some_iff.1 HX4.out).1⟩
  have HR0 := Lib.hid (newB w4 (.slice la A.length lc) (.slice lb B.length ld))
  have HSB : Hid (((w4.alloc (.map #[] 0)).alloc (.cells #[.slice la A.length lc, .slice lb B.length ld, .map (some w4.heap.size), .slice none 0 0] 123)).heap.size = w4.heap.size + 2) := Lib.hid (by simp)
  go_upto_region 4 with (fail)
  obtain ⟨w5, hw5⟩ : ∃ w5, ((w4.alloc (.map #[] 0)).alloc (.cells #[.slice la A.length lc, .slice lb B.length ld, .map (some w4.heap.size), .slice none 0 0] 123)) = w5 := ⟨_, rfl⟩
  rw [hw5] at HR0 HSB ⊢
  clear hw5 hmm a0 b0
  have HBOX : Hid (∀ w', Below w4.heap.size w4 w' → w'.heap[w.heap.size]? = some (.cells #[.slice la A.length lc, .int .i64 (ra : Int)] 36 (0, 0)) ∧ w'.heap[w.heap.size + 1]? = some (.cells #[.slice lb B.length ld, .int .i64 (rb : Int)] 36 (0, 0))) := Lib.hid (fun w' hb => ⟨(hb.block _ HSZ4.out.1).trans HX4a.out, (hb.block _ HSZ4.out.2).trans HX4.out⟩)
  have HTA : Hid (AkT akB w4 w5 (w4.heap.size + 1) w4.heap.size (.slice la A.length lc) (.slice lb B.length ld) w5 ([], [])) := Lib.hid HR0.out.1
  have HLX : Hid (∀ w', Lk w5 (w4.heap.size + 1) w4.heap.size w' → HeadsIn w' la A.length A ∧ HeadsIn w' lb B.length B) := Lib.hid (fun w' hk => by
    have h1 := HR0.out.2
    have h2 := h1.size
    have h3 : w5.heap.size = w4.heap.size + 2 := HSB.out
    have hs : w4.heap.size ≤ w'.heap.size := Nat.le_trans h2 hk.1
    have hb : ∀ b, b < w4.heap.size → w'.heap[b]? = w4.heap[b]? := fun b hb => (hk.2 b (by omega) (by omega) (by omega)).trans (h1.block b hb)
    exact ⟨(HAA.out.on HB4.out).kept hs hb, (HBB.out.on HB4.out).kept hs hb⟩)
  obtain ⟨M, hM⟩ : ∃ M, w4.heap.size = M := ⟨_, rfl⟩
  have HM := Lib.hid hM
  have HA5 := Lib.hid (HBOX.out w5 HR0.out.2)
  clear HR0
  rw [hM] at HTA HLX ⊢
  obtain ⟨R, hR⟩ : ∃ R, M + 1 = R := ⟨_, rfl⟩
  rw [hR] at HTA HLX ⊢
  clear hM hR
  have a1 : w5.cell? ⟨w.heap.size, 1, none⟩ = some (.int .i64 (ra : Int)) := (by rw [cell_of_row _ _ 1 _ 36 _ HA5.out.1]; rfl)
  have b1 : w5.cell? ⟨w.heap.size + 1, 1, none⟩ = some (.int .i64 (rb : Int)) := (by rw [cell_of_row _ _ 1 _ 36 _ HA5.out.2]; rfl)
  have HQ0 := Lib.hid (askB_any w4 w5 w5 R M (.slice la A.length lc) (.slice lb B.length ld) ([], []) HTA.out ra rb false ⟨by simp only; omega, by simp only; omega⟩)
  go_upto_region 5 with (go_at_call 81; (with_reducible refine HQ0.out.mono ?_); rintro e w10 ⟨rfl, ha10, hk10⟩; have HT10 := Lib.hid ha10; clear ha10 hk10)
  clear a1 b1
  have HLEN := Lib.hid (And.intro hln hlm)
  go_loopg [6] (meaS 45000 ([(ra, rb, false)], [(ra, rb, false)])) (fun gk s6 wr => ∃ (SL : List PrB × List PrB), Hid (AkT akB w4 w5 R M (.slice la A.length lc) (.slice lb B.length ld) wr SL) ∧ Hid (Wrk (stpB A B) (ra, rb, false) SL.1 SL.2 none) ∧ Hid (meaS 45000 SL ≤ gk) ∧ Hid (∀ p ∈ SL.2, p.1 < (rowB A B p.2.2).length ∧ p.2.1 < (rowB A B (!p.2.2)).length))
  case atStart =>
    refine ⟨([(ra, rb, false)], [(ra, rb, false)]), Lib.hid (by have := HT10.out; simpa [askS] using this), Lib.hid (Wrk.start _ _), Lib.hid (Nat.le_refl _), Lib.hid (fun p hp => ?_)⟩
    simp only [List.mem_singleton] at hp
    subst hp
    exact HRAB.out
  case round =>
    clear HT10
    obtain ⟨⟨S, Lf⟩, HT, HW, HME, HRG⟩ := hrel
    obtain ⟨wp, rfl⟩ : ∃ wp : World, wp = wr := ⟨_, rfl⟩
    have HW : Hid (Wrk (stpB A B) (ra, rb, false) S Lf none) := HW
    have HRG : Hid (∀ p ∈ Lf, p.1 < (rowB A B p.2.2).length ∧ p.2.1 < (rowB A B (!p.2.2)).length) := HRG
    have hT := HT.out
    obtain ⟨hwn, D, ya, yc, hs⟩ := hT
    rcases nil_or_snoc Lf with rfl | ⟨L, x, rfl⟩
    · have HYES := Lib.hid (HW.out.yes)
      have r3 : wp.cell? ⟨R, 3, none⟩ = some (.slice ya 0 yc) := hs.c3
      have HBF : Hid (Below w.heap.size w wp) := Lib.hid (HB4.out.trans (HT.out.below.mono HB4.out.size))
      clear hs hwn
      go_wp2
      go_ret
      exact ⟨true, rfl, ⟨fun _ => HYES.out, fun _ => rfl⟩, HBF.out⟩
    · obtain ⟨i, j, tt⟩ := x
      have hij := HRG.out (i, j, tt) (by simp)
      simp only at hij
      have e1 : (L ++ [(i, j, tt)]).length = L.length + 1 := by simp
      have hlb : (L ++ [(i, j, tt)]).length ≤ 45000 := hwn.lenL (K := akB)
      rw [e1] at hlb
      have hlb2 : (L.length : Int) ≤ 45000 := by have : L.length + 1 ≤ 45000 := hlb; omega
      have hrow : wp.ownsRow w5.heap.size 126 3 (.slice ya (L ++ [(i, j, tt)]).length yc) (L ++ [(i, j, tt)]).length ((L ++ [(i, j, tt)]).flatMap pcB) := hs.row
      rw [e1] at hrow
      obtain ⟨g, hya, hcap, hmx⟩ : ∃ g, ya = some ⟨g, 0, none⟩ ∧ L.length + 1 ≤ yc ∧ yc ≤ maxLen := by
        rcases hrow.2 with ⟨e, _⟩ | ⟨g, cap, cur, e, _, _, h1, h2, _⟩
        · cases e
        · cases e; exact ⟨g, rfl, h1, h2⟩
      subst hya
      have hcell : ∀ t, t < 3 → wp.cell? ⟨g, L.length * 3 + t, none⟩ = (pcB (i, j, tt))[t]? := fun t ht => by
        rw [hrow.cellAt (L.length * 3 + t) (by omega)]
        exact flat_pcB L (i, j, tt) t
      have c0 : wp.cell? ⟨g, L.length * 3, none⟩ = some (.int .i64 (i : Int)) := hcell 0 (by omega)
      have c1 : wp.cell? ⟨g, L.length * 3 + 1, none⟩ = some (.int .i64 (j : Int)) := hcell 1 (by omega)
      have c2 : wp.cell? ⟨g, L.length * 3 + 2, none⟩ = some (.bool tt) := hcell 2 (by omega)
      have r3 : wp.cell? ⟨R, 3, none⟩ = some (.slice (some ⟨g, 0, none⟩) (L.length + 1) yc) := by have := hs.c3; rw [e1] at this; exact this
      have HS := Lib.hid hs
      have HWN := Lib.hid hwn
      have hcap2 : (L.length : Int) + 1 ≤ (yc : Int) := by omega
      have hcap3 : (L.length : Int) ≤ (yc : Int) := by omega
      have h0 : (0 : Int) < (L.length : Int) + 1 := by omega
      have hwl : IntKind.i64.wrap (L.length : Int) = (L.length : Int) := by rw [IntKind.wrap_i64]; omega
      have hlt1 : (L.length : Int) < (L.length : Int) + 1 := by omega
      have HNEW : Hid (∀ o, (wp.alloc o).heap[wp.heap.size]? = some o ∧ Below wp.heap.size wp (wp.alloc o)) := Lib.hid (fun o => ⟨heap_alloc_new wp o, (Below.refl _ _).alloc (Nat.le_refl _) _⟩)
      have HIJ := Lib.hid hij
      have hmx2 : (yc : Int) ≤ 9223372036854775807 := by unfold maxLen at hmx; omega
      clear hs hwn hlb hrow hcell e1 hcap hij hmx
      go_upto_region 6 with (fail)
      go_cut [6] from 29 to 64 (fun s6 wc => ∃ Bp : Nat, s6 = .pointer (some ⟨Bp, 0, none⟩) ∧ Hid (wc.heap[Bp]? = some (.cells #[.int .i64 (i : Int), .int .i64 (j : Int), .bool tt] 126 (0, 0))) ∧ Hid (Bp = wp.heap.size) ∧ Hid (Below wp.heap.size wp wc))
      case first =>
        go_region_held3 (fun w' => w'.cell? ⟨R, 3, none⟩ = some (.slice (some ⟨g, 0, none⟩) (L.length + 1) yc) ∧ w'.cell? ⟨g, L.length * 3, none⟩ = some (.int .i64 (i : Int)) ∧ w'.cell? ⟨g, L.length * 3 + 1, none⟩ = some (.int .i64 (j : Int)) ∧ w'.cell? ⟨g, L.length * 3 + 2, none⟩ = some (.bool tt)) (first | exact ⟨r3, c0, c1, c2⟩ | go_keep) ((fail))
        all_goals
          go_wp2
          go_meet
          case rel => exact ⟨wp.heap.size, rfl, Lib.hid (HNEW.out _).1, Lib.hid rfl, Lib.hid (HNEW.out _).2.drew⟩
      case rest =>
        obtain ⟨Bp, rfl, HPX, HPB, HBP⟩ := hcut
        obtain ⟨wq, rfl⟩ : ∃ wq : World, wq = wc := ⟨_, rfl⟩
        clear c0 c1 c2 r3
        have HSQ := Lib.hid (HS.out.on HBP.out)
        have HPOP := Lib.hid ((HS.out.on HBP.out).pop.1.on ((Below.refl _ _).drew))
        have e1 : (L ++ [(i, j, tt)]).length = L.length + 1 := by simp
        have r3 : wq.cell? ⟨R, 3, none⟩ = some (.slice (some ⟨g, 0, none⟩) (L.length + 1) yc) := by have := HSQ.out.c3; rw [e1] at this; exact this
        have f3 : wq.frozen? ⟨R, 3, none⟩ = false := HSQ.out.f3 3
        have o3 : R < wq.heap.size := HSQ.out.ltR
        have HPS : Hid (Bp ≠ R) := Lib.hid (by have h1 := HPB.out; have h2 := HS.out.ltR; omega)
        have HPX2 : Hid ((wq.setCell ⟨R, 3, none⟩ (.slice (some ⟨g, 0, none⟩) L.length yc)).drew.heap[Bp]? = some (.cells #[.int .i64 (i : Int), .int .i64 (j : Int), .bool tt] 126 (0, 0))) := Lib.hid (by show (wq.setCell ⟨R, 3, none⟩ (.slice (some ⟨g, 0, none⟩) L.length yc)).heap[Bp]? = _; rw [Below.heap_setCell _ _ _ _ HPS.out]; exact HPX.out)
        clear e1
        go_upto_region 7 with (fail)
        go_still_tail 14, (by kernel_rfl)
        go_upto_region 8 with (fail)
        clear r3 f3 o3
        obtain ⟨ws, hws⟩ : ∃ ws, (wq.setCell ⟨R, 3, none⟩ (.slice (some ⟨g, 0, none⟩) L.length yc)).drew = ws := ⟨_, rfl⟩
        rw [hws] at HPX2 HPOP ⊢
        clear hws
        have p0 : ws.cell? ⟨Bp, 0, none⟩ = some (.int .i64 (i : Int)) := (by rw [cell_of_row _ _ 0 _ 126 _ HPX2.out]; rfl)
        have p2 : ws.cell? ⟨Bp, 2, none⟩ = some (.bool tt) := (by rw [cell_of_row _ _ 2 _ 126 _ HPX2.out]; rfl)
        have p1 : ws.cell? ⟨Bp, 1, none⟩ = some (.int .i64 (j : Int)) := (by rw [cell_of_row _ _ 1 _ 126 _ HPX2.out]; rfl)
        have hst := stepB_any w4 w5 ws R M la A.length lc A lb B.length ld B HLX.out (S, L) ⟨HWN.out.take, _, _, _, HPOP.out⟩ HOA.out HOB.out HLEN.out.1 HLEN.out.2 i j tt HIJ.out.1 HIJ.out.2
        cases hF : stpB A B (i, j, tt) with
        | none =>
          have HNO : Hid (¬ BelowP A B ra rb) := Lib.hid (fun h => (HW.out.take.no hF) h)
          rw [hF] at hst
          have HST : Hid (Calls Tryz.prog 82 #[.pointer (some ⟨R, 0, none⟩), .agg #[.int .i64 (i : Int), .int .i64 (j : Int), .bool tt]] ws fun e w' => e = .returned (.bool false) ∧ Below w4.heap.size w4 w') := Lib.hid (hst.mono (fun e w' h => by
            obtain ⟨h1, qs, h2, _⟩ := h
            exact ⟨h1, h2.below⟩))
          clear hst hF
          go_wp2_with (go_at_call 82; (with_reducible refine HST.out.mono ?_); rintro e w12 ⟨rfl, hb12⟩; have HB12 := Lib.hid hb12; clear hb12)
          go_ret
          exact ⟨false, rfl, ⟨fun h => by (cases h), fun h => absurd h HNO.out⟩, HB4.out.trans (HB12.out.mono HB4.out.size)⟩
        | some m =>
          rw [hF] at hst
          have HST : Hid (Calls Tryz.prog 82 #[.pointer (some ⟨R, 0, none⟩), .agg #[.int .i64 (i : Int), .int .i64 (j : Int), .bool tt]] ws fun e w' => e = .returned (.bool true) ∧ ∃ SL : List PrB × List PrB, AkT akB w4 w5 R M (.slice la A.length lc) (.slice lb B.length ld) w' SL ∧ Wrk (stpB A B) (ra, rb, false) SL.1 SL.2 none ∧ meaS 45000 SL < gk ∧ ∀ p ∈ SL.2, p.1 < (rowB A B p.2.2).length ∧ p.2.1 < (rowB A B (!p.2.2)).length) := Lib.hid (hst.mono (fun e w' h => by
            obtain ⟨h1, qs, h2, h3, h4, h5⟩ := h
            obtain ⟨q1, q2⟩ := h5 m rfl
            refine ⟨h1, qs.foldl askS (S, L), h2, wrk_finB HW.out hF q1 q2, ?_, fun p hp => ?_⟩
            · have m1 := meaS_asks (ok := okB) (cap := 45000) (fun SL h => h.lenS (K := akB)) qs (S, L) HWN.out.take h4
              have m2 : meaS 45000 (S, L ++ [(i, j, tt)]) ≤ gk := HME.out
              have m3 : meaS 45000 (S, L ++ [(i, j, tt)]) = meaS 45000 (S, L) + 1 := by unfold meaS; simp; omega
              omega
            · rcases asks_mem qs (S, L) p hp with r | r
              · exact HRG.out p (by simp [r])
              · exact row_rng (t := tt) HOA.out HOB.out hF HIJ.out.1 HIJ.out.2 p (q1 p r)))
          clear hst hF
          go_wp2_with (go_at_call 82; (with_reducible refine HST.out.mono ?_); rintro e w12 ⟨rfl, SL2, t1, t2, t3, t4⟩; have T1 := Lib.hid t1; have T2 := Lib.hid t2; have T3 := Lib.hid t3; have T4 := Lib.hid t4; clear t1 t2 t3 t4)
          go_roundg (meaS 45000 SL2)
          case measure => exact T3.out
          case rel => exact ⟨SL2, T1, T2, Lib.hid (Nat.le_refl _), T4⟩
end Go.Proofs.YtifilhkkgkihpaaGreatDoor
