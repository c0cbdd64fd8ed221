/- Plain: what variants asks is what the chapter says. Walks: alike's step. -/
import Derived.Test.YtifilhkkgkihpaaGreatDoorAs30
import Derived.Deep.RegionHeld3
set_option linter.unusedSimpArgs false
set_option linter.unusedVariables false
set_option linter.unusedSimpArgs false
set_option linter.unusedVariables false
namespace Go.Proofs.YtifilhkkgkihpaaGreatDoor
open Go.RowKit
def SameF {α : Type} (F F' : Option (List α)) : Prop := (F = none ∧ F' = none) ∨ ∃ m m', F = some m ∧ F' = some m' ∧ ∀ q, q ∈ m ↔ q ∈ m'
theorem StpPost.conv {α : Type} [DecidableEq α] {K : AK α} {w0 wl : World} {R M : Nat} {C0 C1 : Value} {SL : List α × List α} {w : World} {F F' : Option (List α)} {e : Ending} {w' : World} (h : StpPost K w0 wl R M C0 C1 SL w F e w') (s : SameF F F') : StpPost K w0 wl R M C0 C1 SL w F' e w' := by
  obtain ⟨h1, qs, h2, h3, h4, h5⟩ := h
  rcases s with ⟨rfl, rfl⟩ | ⟨m, m', rfl, rfl, hm⟩
  · exact ⟨h1, qs, h2, h3, h4, h5⟩
  · refine ⟨h1, qs, h2, h3, h4, fun m2 e2 => ?_⟩
    cases e2
    obtain ⟨a, b⟩ := h5 m rfl
    exact ⟨fun q hq => (hm q).1 (a q hq), fun q hq => b q ((hm q).2 hq)⟩
theorem StpPost.from' {α : Type} [DecidableEq α] {K : AK α} {w0 wl : World} {R M : Nat} {C0 C1 : Value} {SL : List α × List α} {w wa : World} {F : Option (List α)} {e : Ending} {w' : World} (h : StpPost K w0 wl R M C0 C1 SL wa F e w') (k : Kp K.TP R w wa) : StpPost K w0 wl R M C0 C1 SL w F e w' := by
  obtain ⟨h1, qs, h2, h3, h4, h5⟩ := h
  exact ⟨h1, qs, h2, k.trans h3, h4, h5⟩
/-- names that rise: each stands for its own kid. -/
theorem find_own {NS : List ByteArray} {KS : List Int} (hr : risesB NS = true) {p : Nat} {s : ByteArray} {x : Int} (h1 : NS[p]? = some s) (h2 : KS[p]? = some x) : findK NS KS s = x := by
  refine findK_at NS KS s p x h1 h2 (fun q hq e => ?_)
  have h3 := rises_at NS hr _ _ _ _ hq e h1
  rw [bl_irrefl] at h3
  cases h3
theorem find_mem {NS : List ByteArray} {KS : List Int} {s : ByteArray} (hl : NS.length = KS.length) (h : 0 ≤ findK NS KS s) : ∃ (p : Nat) (x : Int), NS[p]? = some s ∧ KS[p]? = some x ∧ findK NS KS s = x := by
  rcases findK_cases NS KS s hl with ⟨h1, _⟩ | ⟨p, k, h1, h2, h3, _⟩
  · omega
  · exact ⟨p, k, h1, h2, h3⟩
theorem find_ge {NS : List ByteArray} {KS : List Int} {s : ByteArray} (hl : NS.length = KS.length) (hk : ∀ k ∈ KS, (0 : Int) ≤ k) (hs : s ∈ NS) : 0 ≤ findK NS KS s := by
  rcases findK_cases NS KS s hl with ⟨_, h2⟩ | ⟨p, k, _, h2, h3, _⟩
  · obtain ⟨p, hp⟩ := List.getElem?_of_mem hs
    exact absurd hp (h2 p)
  · rw [h3]; exact hk k (List.mem_of_getElem? h2)
theorem mem_own {NS : List ByteArray} {KS : List Int} (hr : risesB NS = true) (hl : NS.length = KS.length) (x : Int) : x ∈ KS ↔ ∃ s ∈ NS, findK NS KS s = x := by
  constructor
  · intro h
    obtain ⟨p, hp⟩ := List.getElem?_of_mem h
    obtain ⟨s, hs⟩ : ∃ s, NS[p]? = some s := ⟨_, List.getElem?_eq_getElem (by rw [hl]; exact (List.getElem?_eq_some_iff.1 hp).1)⟩
    exact ⟨s, List.mem_of_getElem? hs, find_own hr hs hp⟩
  · rintro ⟨s, hs, rfl⟩
    obtain ⟨p, hp⟩ := List.getElem?_of_mem hs
    obtain ⟨x, hx⟩ : ∃ x, KS[p]? = some x := ⟨_, List.getElem?_eq_getElem (by rw [← hl]; exact (List.getElem?_eq_some_iff.1 hp).1)⟩
    rw [find_own hr hp hx]
    exact List.mem_of_getElem? hx
theorem var_ask {L : List Hd} {dyn : Nat} {h k : Hd} {n : Int} (okh : headB h.kd h.op n h.NS h.KS = true) (okk : headB k.kd k.op n k.NS k.KS = true) (h9 : h.kd = 9 ∨ h.kd = 4) (k9 : k.kd = 9 ∨ k.kd = 4) (hn : h.kd = 9 ∨ k.kd = 9) : SameF (varF L dyn h k) (askA L dyn h k) := by
  obtain ⟨a1, a2, a3, a4, a5, a6, a7⟩ := head_kind okh
  obtain ⟨b1, b2, b3, b4, b5, b6, b7⟩ := head_kind okk
  unfold varF askA
  rw [if_neg (show ¬ (h.kd = 6 ∨ k.kd = 5) by omega), if_neg (show ¬ h.kd = 5 by omega)]
  by_cases e4 : h.kd = 4
  · have ek : k.kd = 9 := by omega
    have hop : h.op = false := by
      cases ho : h.op with
      | false => rfl
      | true => have := a7 ho; omega
    have hkl := b4 (.inr ek)
    rw [if_pos e4, if_neg (show ¬ k.kd = 7 by omega), if_pos (show k.kd = 8 ∨ k.kd = 9 from .inr ek), hop]
    simp only [Bool.false_and, Bool.false_eq_true, if_false]
    rw [if_pos]
    · refine .inr ⟨_, _, rfl, rfl, fun q => ?_⟩
      unfold varNames
      rw [if_pos e4]
      simp only [List.mem_filterMap, List.mem_map]
      constructor
      · rintro ⟨s, hs, he⟩
        unfold varG kidD at he
        rw [if_neg (show ¬ k.kd = 4 by omega), if_pos e4] at he
        split at he
        · cases he
          exact ⟨findK k.NS k.KS s, (mem_own b2 hkl _).2 ⟨s, hs, rfl⟩, by simp⟩
        · cases he
      · rintro ⟨x, hx, rfl⟩
        obtain ⟨s, hs, he⟩ := (mem_own b2 hkl x).1 hx
        refine ⟨s, hs, ?_⟩
        unfold varG kidD
        rw [if_neg (show ¬ k.kd = 4 by omega), if_pos e4, he, if_pos (b3 x hx).1]
        simp
    · refine List.all_eq_true.2 (fun e he => ?_)
      unfold okE kidD
      rw [if_pos e4]
      simp
  · have eh : h.kd = 9 := by omega
    have hhl := a4 (.inr eh)
    rw [if_neg e4]
    by_cases f4 : k.kd = 4
    · rw [if_pos f4, if_neg (show ¬ h.kd = 7 by omega), if_neg (show ¬ h.kd = 8 by omega), if_pos eh]
      cases ho : h.op with
      | true => simp [f4, SameF]
      | false =>
        have hkn := b6 (by omega)
        have hk0 : k.NS = [] := List.eq_nil_of_length_eq_zero hkn.1
        simp only [Bool.false_and, Bool.false_eq_true, if_false, hk0, List.zip_nil_left, List.all_nil, if_true]
        refine .inr ⟨_, _, rfl, rfl, fun q => ?_⟩
        unfold varNames
        rw [if_neg e4]
        simp only [List.mem_filterMap, List.mem_map]
        constructor
        · rintro ⟨s, hs, he⟩
          unfold varG kidD at he
          rw [if_pos f4, if_neg e4, if_pos (by omega)] at he
          cases he
          exact ⟨findK h.NS h.KS s, (mem_own a2 hhl _).2 ⟨s, hs, rfl⟩, by simp⟩
        · rintro ⟨x, hx, rfl⟩
          obtain ⟨s, hs, he⟩ := (mem_own a2 hhl x).1 hx
          refine ⟨s, hs, ?_⟩
          unfold varG kidD
          rw [if_pos f4, if_neg e4, he, if_pos (by omega)]
          simp
    · have ek : k.kd = 9 := by omega
      have hkl := b4 (.inr ek)
      rw [if_neg f4, if_neg (show ¬ h.kd ≠ k.kd by omega), if_neg (show ¬ h.kd = 7 by omega), if_neg (show ¬ h.kd = 8 by omega), if_pos eh]
      have hd4 : decide (k.kd = 4) = false := decide_eq_false f4
      simp only [hd4, Bool.and_false, Bool.false_eq_true, if_false]
      have hkd : ∀ s, kidD dyn h s = findK h.NS h.KS s := fun s => by unfold kidD; rw [if_neg e4]
      have hke : ∀ s, kidD dyn k s = findK k.NS k.KS s := fun s => by unfold kidD; rw [if_neg f4]
      have hany : anyK L h k = (k.NS.zip k.KS).all (okE L dyn h) := by
        unfold anyK
        congr 1
        funext e
        unfold okE
        rw [hkd]
        first | done | rfl
      unfold varA
      rw [hany]
      by_cases hall : (k.NS.zip k.KS).all (okE L dyn h) = true
      · rw [if_pos hall, if_pos hall]
        refine .inr ⟨_, _, rfl, rfl, fun q => ?_⟩
        unfold varNames
        rw [if_neg e4]
        simp only [List.mem_filterMap]
        constructor
        · rintro ⟨s, hs, he⟩
          unfold varG at he
          rw [hkd, hke] at he
          split at he
          · rename_i h0
            cases he
            obtain ⟨p, x, h1, h2, h3⟩ := find_mem hkl h0
            refine ⟨(s, x), List.mem_of_getElem? (zip_at h1 h2), ?_⟩
            simp only
            rw [if_pos (find_ge hhl (fun k hk => (a3 k hk).1) hs), h3]
          · cases he
        · rintro ⟨e, he, hq⟩
          obtain ⟨s, x⟩ := e
          simp only at hq
          split at hq
          · rename_i h0
            cases hq
            obtain ⟨p, hp⟩ := List.getElem?_of_mem he
            rw [List.getElem?_zip_eq_some] at hp
            obtain ⟨p2, x2, g1, g2, g3⟩ := find_mem hhl h0
            refine ⟨s, List.mem_of_getElem? g1, ?_⟩
            unfold varG
            have hx : findK k.NS k.KS s = x := find_own b2 hp.1 hp.2
            rw [hkd, hke, hx, if_pos (b3 x (List.mem_of_getElem? hp.2)).1]
          · cases hq
      · rw [if_neg hall, if_neg hall]
        exact .inl ⟨rfl, rfl⟩
end Go.Proofs.YtifilhkkgkihpaaGreatDoor
set_option linter.unusedSimpArgs false
set_option linter.unusedVariables false
namespace Go.Proofs.YtifilhkkgkihpaaGreatDoor
open Go.RowKit
theorem HeadsIn.ok {w : World} {la : Option Addr} {ln : Nat} {HS : List Hd} (hH : HeadsIn w la ln HS) {j : Nat} {h : Hd} (hj : HS[j]? = some h) : HdOk w h := by
  obtain ⟨g, o, e, hg, hc⟩ := hH.2.resolve_left (by rw [hH.1]; have := (List.getElem?_eq_some_iff.1 hj).1; omega)
  exact (hc j _ hj).ok
theorem AkT.heads_at {w0 wl w : World} {R M N : Nat} {la : Option Addr} {OS : List Hd} (HL : ∀ w', Lk wl R M w' → HeadsIn w' la N OS) {i : Nat} {h : Hd} (hi : OS[i]? = some h) : ∀ w', Lk wl R M w' → HdOk w' h := fun w' k => (HL w' k).ok hi
theorem two_of {l : List Int} (h : l.length = 2) : ∃ a b, l = [a, b] := by
  match l, h with
  | [a, b], _ => exact ⟨a, b, rfl⟩
set_option maxRecDepth 20000 in
set_option maxHeartbeats 8000000 in
theorem step_none (w0 wl w : World) (R M N dyn : Nat) (la : Option Addr) (lc : Nat) (OS : List Hd) (HL : ∀ w', Lk wl R M w' → HeadsIn w' la N OS) (SL : List PrA × List PrA) (hT : AkT akA w0 wl R M (.slice la N lc) (.int .i64 (dyn : Int)) w SL) (hdn : dyn < N) (hN : N ≤ 300) (hok : OkHeads OS) (i j : Nat) (hd : Int) (na : Option Addr) (nn nc : Nat) (NS : List ByteArray) (ka : Option Addr) (kn kc : Nat) (KS : List Int) (op : Bool) (hi : OS[i]? = some ⟨hd, na, nn, nc, NS, ka, kn, kc, KS, op⟩)
    (ed : Int) (ma : Option Addr) (mn mc : Nat) (MS : List ByteArray) (ja : Option Addr) (jn jc : Nat) (JS : List Int) (oq : Bool) (hj : OS[j]? = some ⟨ed, ma, mn, mc, MS, ja, jn, jc, JS, oq⟩) (h6 : hd = 6) :
    Calls Tryz.prog 86 #[.pointer (some ⟨R, 0, none⟩), .agg #[.int .i64 (i : Int), .int .i64 (j : Int)]] w (StpPost akA w0 wl R M (.slice la N lc) (.int .i64 (dyn : Int)) SL w (stpA OS dyn (i, j))) := by
  rw [stpA_at (p := (i, j)) hi hj]
  have hN1 : N = OS.length := (HL w hT.lk).1
  have q1 := hok _ (List.mem_of_getElem? hi)
  have q2 := hok _ (List.mem_of_getElem? hj)
  rw [← hN1] at q1 q2
  simp only at q1 q2
  have hin : i < N := by rw [hN1]; exact (List.getElem?_eq_some_iff.1 hi).1
  have hjn : j < N := by rw [hN1]; exact (List.getElem?_eq_some_iff.1 hj).1
  have HQ1 := Lib.hid q1
  have HQ2 := Lib.hid q2
  have HH := Lib.hid (AkT.heads_at (w0 := w0) (w := w) HL hi)
  have HK := Lib.hid (AkT.heads_at (w0 := w0) (w := w) HL hj)
  have HLL := Lib.hid HL
  subst h6
  have HAS : Hid (askA OS dyn ⟨6, na, nn, nc, NS, ka, kn, kc, KS, op⟩ ⟨ed, ma, mn, mc, MS, ja, jn, jc, JS, oq⟩ = some []) := Lib.hid (by unfold askA; simp)
  clear hdn
  have hb0 : Below w.heap.size w (w.alloc (.cells #[.int .i64 (i : Int), .int .i64 (j : Int)] 141)) := (Below.refl _ _).alloc (Nat.le_refl _) _
  have HT1 := Lib.hid (hT.on hb0)
  have HB0 := Lib.hid hb0
  have HX1 : Hid ((w.alloc (.cells #[.int .i64 (i : Int), .int .i64 (j : Int)] 141)).heap[w.heap.size]? = some (.cells #[.int .i64 (i : Int), .int .i64 (j : Int)] 141 (0, 0))) := Lib.hid (heap_alloc_new w _)
  have HII := Lib.hid hi
  have HJJ := Lib.hid hj
  have HNN := Lib.hid hN1
  clear hT hb0 hi hj hok q1 q2 hN1 HL
  go_enter Tryz.func86, Tryz.ntmps86
  go_upto_region 1 with (fail)
  obtain ⟨w1, hw1⟩ : ∃ w1, (w.alloc (.cells #[.int .i64 (i : Int), .int .i64 (j : Int)] 141)) = w1 := ⟨_, rfl⟩
  rw [hw1] at HT1 HB0 HX1 ⊢
  clear hw1
  have p0 : w1.cell? ⟨w.heap.size, 0, none⟩ = some (.int .i64 (i : Int)) := (by rw [cell_of_row _ _ 0 _ 141 _ HX1.out]; rfl)
  have p1 : w1.cell? ⟨w.heap.size, 1, none⟩ = some (.int .i64 (j : Int)) := (by rw [cell_of_row _ _ 1 _ 141 _ HX1.out]; rfl)
  have r0 : w1.cell? ⟨R, 0, none⟩ = some (.slice la N lc) := HT1.out.c0
  obtain ⟨gl, ol, el, hgl, hcl⟩ := ((HLL.out w1 HT1.out.lk).2).resolve_left (by omega)
  subst el
  have ri := hcl i _ HII.out
  have rj := hcl j _ HJJ.out
  have s0 : w1.cell? ⟨gl, ol + i * 4, none⟩ = some (.int .i64 6) := ri.c0
  have s1 : w1.cell? ⟨gl, ol + i * 4 + 1, none⟩ = some (.slice na nn nc) := ri.c1
  have s2 : w1.cell? ⟨gl, ol + i * 4 + 2, none⟩ = some (.slice ka kn kc) := ri.c2
  have s3 : w1.cell? ⟨gl, ol + i * 4 + 3, none⟩ = some (.bool op) := ri.c3
  have t0 : w1.cell? ⟨gl, ol + j * 4, none⟩ = some (.int .i64 ed) := rj.c0
  have t1 : w1.cell? ⟨gl, ol + j * 4 + 1, none⟩ = some (.slice ma mn mc) := rj.c1
  have t2 : w1.cell? ⟨gl, ol + j * 4 + 2, none⟩ = some (.slice ja jn jc) := rj.c2
  have t3 : w1.cell? ⟨gl, ol + j * 4 + 3, none⟩ = some (.bool oq) := rj.c3
  have hin2 : (i : Int) < N := by omega
  have hjn2 : (j : Int) < N := by omega
  have HW1 : Hid (∀ a b, (((w1.alloc (.cells a 33)).alloc (.cells b 33)).heap[w1.heap.size]? = some (.cells a 33 (0, 0)) ∧ ((w1.alloc (.cells a 33)).alloc (.cells b 33)).heap[w1.heap.size + 1]? = some (.cells b 33 (0, 0)) ∧ Below w1.heap.size w1 ((w1.alloc (.cells a 33)).alloc (.cells b 33)))) := Lib.hid (fun a b => two_box w1 a b 33)
  clear ri rj hcl hgl
  go_cut [5, 6] (fun s5 s6 wc => ∃ B1 B2 : Nat, s5 = .pointer (some ⟨B1, 0, none⟩) ∧ s6 = .pointer (some ⟨B2, 0, none⟩) ∧ Hid (wc.heap[B1]? = some (.cells #[.int .i64 6, .slice na nn nc, .slice ka kn kc, .bool op] 33 (0, 0))) ∧ Hid (wc.heap[B2]? = some (.cells #[.int .i64 ed, .slice ma mn mc, .slice ja jn jc, .bool oq] 33 (0, 0))) ∧ Hid (Below w1.heap.size w1 wc))
  case first =>
    go_region_held3 (fun w' => w'.cell? ⟨w.heap.size, 0, none⟩ = some (.int .i64 (i : Int)) ∧ w'.cell? ⟨w.heap.size, 1, none⟩ = some (.int .i64 (j : Int)) ∧ w'.cell? ⟨R, 0, none⟩ = some (.slice (some ⟨gl, ol, none⟩) N lc) ∧ w'.cell? ⟨gl, ol + i * 4, none⟩ = some (.int .i64 6) ∧ w'.cell? ⟨gl, ol + i * 4 + 1, none⟩ = some (.slice na nn nc) ∧ w'.cell? ⟨gl, ol + i * 4 + 2, none⟩ = some (.slice ka kn kc) ∧ w'.cell? ⟨gl, ol + i * 4 + 3, none⟩ = some (.bool op) ∧ w'.cell? ⟨gl, ol + j * 4, none⟩ = some (.int .i64 ed) ∧ w'.cell? ⟨gl, ol + j * 4 + 1, none⟩ = some (.slice ma mn mc) ∧ w'.cell? ⟨gl, ol + j * 4 + 2, none⟩ = some (.slice ja jn jc) ∧ w'.cell? ⟨gl, ol + j * 4 + 3, none⟩ = some (.bool oq)) (first | exact ⟨p0, p1, r0, s0, s1, s2, s3, t0, t1, t2, t3⟩ | go_keep) ((fail))
    all_goals
      go_wp2
      go_meet
      case rel => first | exact ⟨w1.heap.size, w1.heap.size + 1, rfl, rfl, Lib.hid (HW1.out _ _).1, Lib.hid (HW1.out _ _).2.1, Lib.hid (HW1.out _ _).2.2.drew⟩ | exact ⟨w1.heap.size + 1, w1.heap.size, rfl, rfl, Lib.hid (HW1.out _ _).2.1, Lib.hid (HW1.out _ _).1, Lib.hid (HW1.out _ _).2.2.drew⟩
  case rest =>
  obtain ⟨B1, B2, rfl, rfl, HY1, HY2, HBZ⟩ := hcut
  obtain ⟨wa, rfl⟩ : ∃ wa : World, wa = wc := ⟨_, rfl⟩
  clear p0 p1 r0 s0 s1 s2 s3 t0 t1 t2 t3
  have b0 : wa.cell? ⟨B1, 0, none⟩ = some (.int .i64 6) := (by rw [cell_of_row _ _ 0 _ 33 _ HY1.out]; rfl)
  have b1 : wa.cell? ⟨B1, 1, none⟩ = some (.slice na nn nc) := (by rw [cell_of_row _ _ 1 _ 33 _ HY1.out]; rfl)
  have b2 : wa.cell? ⟨B1, 2, none⟩ = some (.slice ka kn kc) := (by rw [cell_of_row _ _ 2 _ 33 _ HY1.out]; rfl)
  have b3 : wa.cell? ⟨B1, 3, none⟩ = some (.bool op) := (by rw [cell_of_row _ _ 3 _ 33 _ HY1.out]; rfl)
  have d0 : wa.cell? ⟨B2, 0, none⟩ = some (.int .i64 ed) := (by rw [cell_of_row _ _ 0 _ 33 _ HY2.out]; rfl)
  have d1 : wa.cell? ⟨B2, 1, none⟩ = some (.slice ma mn mc) := (by rw [cell_of_row _ _ 1 _ 33 _ HY2.out]; rfl)
  have d2 : wa.cell? ⟨B2, 2, none⟩ = some (.slice ja jn jc) := (by rw [cell_of_row _ _ 2 _ 33 _ HY2.out]; rfl)
  have d3 : wa.cell? ⟨B2, 3, none⟩ = some (.bool oq) := (by rw [cell_of_row _ _ 3 _ 33 _ HY2.out]; rfl)
  have HTA := Lib.hid (HT1.out.on HBZ.out)
  have HKW : Hid (Kp 141 R w wa) := Lib.hid ((Kp.of_below HB0.out).trans (Kp.of_below HBZ.out))
  go_wp2
  go_ret
  exact ⟨by rw [HAS.out]; rfl, [], HTA.out, HKW.out, fun q h => (by cases h), fun m e => (by rw [HAS.out] at e; cases e; exact ⟨fun _ h => h, fun _ h => h⟩)⟩
set_option maxRecDepth 20000 in
set_option maxHeartbeats 8000000 in
theorem step_any4 (w0 wl w : World) (R M N dyn : Nat) (la : Option Addr) (lc : Nat) (OS : List Hd) (HL : ∀ w', Lk wl R M w' → HeadsIn w' la N OS) (SL : List PrA × List PrA) (hT : AkT akA w0 wl R M (.slice la N lc) (.int .i64 (dyn : Int)) w SL) (hdn : dyn < N) (hN : N ≤ 300) (hok : OkHeads OS) (i j : Nat) (hd : Int) (na : Option Addr) (nn nc : Nat) (NS : List ByteArray) (ka : Option Addr) (kn kc : Nat) (KS : List Int) (op : Bool) (hi : OS[i]? = some ⟨hd, na, nn, nc, NS, ka, kn, kc, KS, op⟩)
    (ed : Int) (ma : Option Addr) (mn mc : Nat) (MS : List ByteArray) (ja : Option Addr) (jn jc : Nat) (JS : List Int) (oq : Bool) (hj : OS[j]? = some ⟨ed, ma, mn, mc, MS, ja, jn, jc, JS, oq⟩) (h5 : ed = 5) (h6 : hd = 4) :
    Calls Tryz.prog 86 #[.pointer (some ⟨R, 0, none⟩), .agg #[.int .i64 (i : Int), .int .i64 (j : Int)]] w (StpPost akA w0 wl R M (.slice la N lc) (.int .i64 (dyn : Int)) SL w (stpA OS dyn (i, j))) := by
  rw [stpA_at (p := (i, j)) hi hj]
  have hN1 : N = OS.length := (HL w hT.lk).1
  have q1 := hok _ (List.mem_of_getElem? hi)
  have q2 := hok _ (List.mem_of_getElem? hj)
  rw [← hN1] at q1 q2
  simp only at q1 q2
  have hin : i < N := by rw [hN1]; exact (List.getElem?_eq_some_iff.1 hi).1
  have hjn : j < N := by rw [hN1]; exact (List.getElem?_eq_some_iff.1 hj).1
  have HQ1 := Lib.hid q1
  have HQ2 := Lib.hid q2
  have HH := Lib.hid (AkT.heads_at (w0 := w0) (w := w) HL hi)
  have HK := Lib.hid (AkT.heads_at (w0 := w0) (w := w) HL hj)
  have HLL := Lib.hid HL
  subst h5 h6
  have HAS : Hid (askA OS dyn ⟨4, na, nn, nc, NS, ka, kn, kc, KS, op⟩ ⟨5, ma, mn, mc, MS, ja, jn, jc, JS, oq⟩ = some []) := Lib.hid (by unfold askA; simp)

  have hb0 : Below w.heap.size w (w.alloc (.cells #[.int .i64 (i : Int), .int .i64 (j : Int)] 141)) := (Below.refl _ _).alloc (Nat.le_refl _) _
  have HT1 := Lib.hid (hT.on hb0)
  have HB0 := Lib.hid hb0
  have HX1 : Hid ((w.alloc (.cells #[.int .i64 (i : Int), .int .i64 (j : Int)] 141)).heap[w.heap.size]? = some (.cells #[.int .i64 (i : Int), .int .i64 (j : Int)] 141 (0, 0))) := Lib.hid (heap_alloc_new w _)
  have HII := Lib.hid hi
  have HJJ := Lib.hid hj
  have HNN := Lib.hid hN1
  clear hT hb0 hi hj hok q1 q2 hN1 HL
  go_enter Tryz.func86, Tryz.ntmps86
  go_upto_region 1 with (fail)
  obtain ⟨w1, hw1⟩ : ∃ w1, (w.alloc (.cells #[.int .i64 (i : Int), .int .i64 (j : Int)] 141)) = w1 := ⟨_, rfl⟩
  rw [hw1] at HT1 HB0 HX1 ⊢
  clear hw1
  have p0 : w1.cell? ⟨w.heap.size, 0, none⟩ = some (.int .i64 (i : Int)) := (by rw [cell_of_row _ _ 0 _ 141 _ HX1.out]; rfl)
  have p1 : w1.cell? ⟨w.heap.size, 1, none⟩ = some (.int .i64 (j : Int)) := (by rw [cell_of_row _ _ 1 _ 141 _ HX1.out]; rfl)
  have r0 : w1.cell? ⟨R, 0, none⟩ = some (.slice la N lc) := HT1.out.c0
  obtain ⟨gl, ol, el, hgl, hcl⟩ := ((HLL.out w1 HT1.out.lk).2).resolve_left (by omega)
  subst el
  have ri := hcl i _ HII.out
  have rj := hcl j _ HJJ.out
  have s0 : w1.cell? ⟨gl, ol + i * 4, none⟩ = some (.int .i64 4) := ri.c0
  have s1 : w1.cell? ⟨gl, ol + i * 4 + 1, none⟩ = some (.slice na nn nc) := ri.c1
  have s2 : w1.cell? ⟨gl, ol + i * 4 + 2, none⟩ = some (.slice ka kn kc) := ri.c2
  have s3 : w1.cell? ⟨gl, ol + i * 4 + 3, none⟩ = some (.bool op) := ri.c3
  have t0 : w1.cell? ⟨gl, ol + j * 4, none⟩ = some (.int .i64 5) := rj.c0
  have t1 : w1.cell? ⟨gl, ol + j * 4 + 1, none⟩ = some (.slice ma mn mc) := rj.c1
  have t2 : w1.cell? ⟨gl, ol + j * 4 + 2, none⟩ = some (.slice ja jn jc) := rj.c2
  have t3 : w1.cell? ⟨gl, ol + j * 4 + 3, none⟩ = some (.bool oq) := rj.c3
  have hin2 : (i : Int) < N := by omega
  have hjn2 : (j : Int) < N := by omega
  have HW1 : Hid (∀ a b, (((w1.alloc (.cells a 33)).alloc (.cells b 33)).heap[w1.heap.size]? = some (.cells a 33 (0, 0)) ∧ ((w1.alloc (.cells a 33)).alloc (.cells b 33)).heap[w1.heap.size + 1]? = some (.cells b 33 (0, 0)) ∧ Below w1.heap.size w1 ((w1.alloc (.cells a 33)).alloc (.cells b 33)))) := Lib.hid (fun a b => two_box w1 a b 33)
  clear ri rj hcl hgl
  go_cut [5, 6] (fun s5 s6 wc => ∃ B1 B2 : Nat, s5 = .pointer (some ⟨B1, 0, none⟩) ∧ s6 = .pointer (some ⟨B2, 0, none⟩) ∧ Hid (wc.heap[B1]? = some (.cells #[.int .i64 4, .slice na nn nc, .slice ka kn kc, .bool op] 33 (0, 0))) ∧ Hid (wc.heap[B2]? = some (.cells #[.int .i64 5, .slice ma mn mc, .slice ja jn jc, .bool oq] 33 (0, 0))) ∧ Hid (Below w1.heap.size w1 wc))
  case first =>
    go_region_held3 (fun w' => w'.cell? ⟨w.heap.size, 0, none⟩ = some (.int .i64 (i : Int)) ∧ w'.cell? ⟨w.heap.size, 1, none⟩ = some (.int .i64 (j : Int)) ∧ w'.cell? ⟨R, 0, none⟩ = some (.slice (some ⟨gl, ol, none⟩) N lc) ∧ w'.cell? ⟨gl, ol + i * 4, none⟩ = some (.int .i64 4) ∧ w'.cell? ⟨gl, ol + i * 4 + 1, none⟩ = some (.slice na nn nc) ∧ w'.cell? ⟨gl, ol + i * 4 + 2, none⟩ = some (.slice ka kn kc) ∧ w'.cell? ⟨gl, ol + i * 4 + 3, none⟩ = some (.bool op) ∧ w'.cell? ⟨gl, ol + j * 4, none⟩ = some (.int .i64 5) ∧ w'.cell? ⟨gl, ol + j * 4 + 1, none⟩ = some (.slice ma mn mc) ∧ w'.cell? ⟨gl, ol + j * 4 + 2, none⟩ = some (.slice ja jn jc) ∧ w'.cell? ⟨gl, ol + j * 4 + 3, none⟩ = some (.bool oq)) (first | exact ⟨p0, p1, r0, s0, s1, s2, s3, t0, t1, t2, t3⟩ | go_keep) ((fail))
    all_goals
      go_wp2
      go_meet
      case rel => first | exact ⟨w1.heap.size, w1.heap.size + 1, rfl, rfl, Lib.hid (HW1.out _ _).1, Lib.hid (HW1.out _ _).2.1, Lib.hid (HW1.out _ _).2.2.drew⟩ | exact ⟨w1.heap.size + 1, w1.heap.size, rfl, rfl, Lib.hid (HW1.out _ _).2.1, Lib.hid (HW1.out _ _).1, Lib.hid (HW1.out _ _).2.2.drew⟩
  case rest =>
  obtain ⟨B1, B2, rfl, rfl, HY1, HY2, HBZ⟩ := hcut
  obtain ⟨wa, rfl⟩ : ∃ wa : World, wa = wc := ⟨_, rfl⟩
  clear p0 p1 r0 s0 s1 s2 s3 t0 t1 t2 t3
  have b0 : wa.cell? ⟨B1, 0, none⟩ = some (.int .i64 4) := (by rw [cell_of_row _ _ 0 _ 33 _ HY1.out]; rfl)
  have b1 : wa.cell? ⟨B1, 1, none⟩ = some (.slice na nn nc) := (by rw [cell_of_row _ _ 1 _ 33 _ HY1.out]; rfl)
  have b2 : wa.cell? ⟨B1, 2, none⟩ = some (.slice ka kn kc) := (by rw [cell_of_row _ _ 2 _ 33 _ HY1.out]; rfl)
  have b3 : wa.cell? ⟨B1, 3, none⟩ = some (.bool op) := (by rw [cell_of_row _ _ 3 _ 33 _ HY1.out]; rfl)
  have d0 : wa.cell? ⟨B2, 0, none⟩ = some (.int .i64 5) := (by rw [cell_of_row _ _ 0 _ 33 _ HY2.out]; rfl)
  have d1 : wa.cell? ⟨B2, 1, none⟩ = some (.slice ma mn mc) := (by rw [cell_of_row _ _ 1 _ 33 _ HY2.out]; rfl)
  have d2 : wa.cell? ⟨B2, 2, none⟩ = some (.slice ja jn jc) := (by rw [cell_of_row _ _ 2 _ 33 _ HY2.out]; rfl)
  have d3 : wa.cell? ⟨B2, 3, none⟩ = some (.bool oq) := (by rw [cell_of_row _ _ 3 _ 33 _ HY2.out]; rfl)
  have HTA := Lib.hid (HT1.out.on HBZ.out)
  have HKW : Hid (Kp 141 R w wa) := Lib.hid ((Kp.of_below HB0.out).trans (Kp.of_below HBZ.out))
  go_wp2
  go_ret
  exact ⟨by rw [HAS.out]; rfl, [], HTA.out, HKW.out, fun q h => (by cases h), fun m e => (by rw [HAS.out] at e; cases e; exact ⟨fun _ h => h, fun _ h => h⟩)⟩
set_option maxRecDepth 20000 in
set_option maxHeartbeats 8000000 in
theorem step_any_ (w0 wl w : World) (R M N dyn : Nat) (la : Option Addr) (lc : Nat) (OS : List Hd) (HL : ∀ w', Lk wl R M w' → HeadsIn w' la N OS) (SL : List PrA × List PrA) (hT : AkT akA w0 wl R M (.slice la N lc) (.int .i64 (dyn : Int)) w SL) (hdn : dyn < N) (hN : N ≤ 300) (hok : OkHeads OS) (i j : Nat) (hd : Int) (na : Option Addr) (nn nc : Nat) (NS : List ByteArray) (ka : Option Addr) (kn kc : Nat) (KS : List Int) (op : Bool) (hi : OS[i]? = some ⟨hd, na, nn, nc, NS, ka, kn, kc, KS, op⟩)
    (ed : Int) (ma : Option Addr) (mn mc : Nat) (MS : List ByteArray) (ja : Option Addr) (jn jc : Nat) (JS : List Int) (oq : Bool) (hj : OS[j]? = some ⟨ed, ma, mn, mc, MS, ja, jn, jc, JS, oq⟩) (h5 : ed = 5) (h6 : hd ≠ 6) (h4 : hd ≠ 4) :
    Calls Tryz.prog 86 #[.pointer (some ⟨R, 0, none⟩), .agg #[.int .i64 (i : Int), .int .i64 (j : Int)]] w (StpPost akA w0 wl R M (.slice la N lc) (.int .i64 (dyn : Int)) SL w (stpA OS dyn (i, j))) := by
  rw [stpA_at (p := (i, j)) hi hj]
  have hN1 : N = OS.length := (HL w hT.lk).1
  have q1 := hok _ (List.mem_of_getElem? hi)
  have q2 := hok _ (List.mem_of_getElem? hj)
  rw [← hN1] at q1 q2
  simp only at q1 q2
  have hin : i < N := by rw [hN1]; exact (List.getElem?_eq_some_iff.1 hi).1
  have hjn : j < N := by rw [hN1]; exact (List.getElem?_eq_some_iff.1 hj).1
  have HQ1 := Lib.hid q1
  have HQ2 := Lib.hid q2
  have HH := Lib.hid (AkT.heads_at (w0 := w0) (w := w) HL hi)
  have HK := Lib.hid (AkT.heads_at (w0 := w0) (w := w) HL hj)
  have HLL := Lib.hid HL
  subst h5
  have n6 : (hd == 6) = false := by simpa using h6
  have n4 : (hd == 4) = false := by simpa using h4
  have HAS : Hid (askA OS dyn ⟨hd, na, nn, nc, NS, ka, kn, kc, KS, op⟩ ⟨5, ma, mn, mc, MS, ja, jn, jc, JS, oq⟩ = some []) := Lib.hid (by unfold askA; simp)
  clear h6 h4
  have hb0 : Below w.heap.size w (w.alloc (.cells #[.int .i64 (i : Int), .int .i64 (j : Int)] 141)) := (Below.refl _ _).alloc (Nat.le_refl _) _
  have HT1 := Lib.hid (hT.on hb0)
  have HB0 := Lib.hid hb0
  have HX1 : Hid ((w.alloc (.cells #[.int .i64 (i : Int), .int .i64 (j : Int)] 141)).heap[w.heap.size]? = some (.cells #[.int .i64 (i : Int), .int .i64 (j : Int)] 141 (0, 0))) := Lib.hid (heap_alloc_new w _)
  have HII := Lib.hid hi
  have HJJ := Lib.hid hj
  have HNN := Lib.hid hN1
  clear hT hb0 hi hj hok q1 q2 hN1 HL
  go_enter Tryz.func86, Tryz.ntmps86
  go_upto_region 1 with (fail)
  obtain ⟨w1, hw1⟩ : ∃ w1, (w.alloc (.cells #[.int .i64 (i : Int), .int .i64 (j : Int)] 141)) = w1 := ⟨_, rfl⟩
  rw [hw1] at HT1 HB0 HX1 ⊢
  clear hw1
  have p0 : w1.cell? ⟨w.heap.size, 0, none⟩ = some (.int .i64 (i : Int)) := (by rw [cell_of_row _ _ 0 _ 141 _ HX1.out]; rfl)
  have p1 : w1.cell? ⟨w.heap.size, 1, none⟩ = some (.int .i64 (j : Int)) := (by rw [cell_of_row _ _ 1 _ 141 _ HX1.out]; rfl)
  have r0 : w1.cell? ⟨R, 0, none⟩ = some (.slice la N lc) := HT1.out.c0
  obtain ⟨gl, ol, el, hgl, hcl⟩ := ((HLL.out w1 HT1.out.lk).2).resolve_left (by omega)
  subst el
  have ri := hcl i _ HII.out
  have rj := hcl j _ HJJ.out
  have s0 : w1.cell? ⟨gl, ol + i * 4, none⟩ = some (.int .i64 hd) := ri.c0
  have s1 : w1.cell? ⟨gl, ol + i * 4 + 1, none⟩ = some (.slice na nn nc) := ri.c1
  have s2 : w1.cell? ⟨gl, ol + i * 4 + 2, none⟩ = some (.slice ka kn kc) := ri.c2
  have s3 : w1.cell? ⟨gl, ol + i * 4 + 3, none⟩ = some (.bool op) := ri.c3
  have t0 : w1.cell? ⟨gl, ol + j * 4, none⟩ = some (.int .i64 5) := rj.c0
  have t1 : w1.cell? ⟨gl, ol + j * 4 + 1, none⟩ = some (.slice ma mn mc) := rj.c1
  have t2 : w1.cell? ⟨gl, ol + j * 4 + 2, none⟩ = some (.slice ja jn jc) := rj.c2
  have t3 : w1.cell? ⟨gl, ol + j * 4 + 3, none⟩ = some (.bool oq) := rj.c3
  have hin2 : (i : Int) < N := by omega
  have hjn2 : (j : Int) < N := by omega
  have HW1 : Hid (∀ a b, (((w1.alloc (.cells a 33)).alloc (.cells b 33)).heap[w1.heap.size]? = some (.cells a 33 (0, 0)) ∧ ((w1.alloc (.cells a 33)).alloc (.cells b 33)).heap[w1.heap.size + 1]? = some (.cells b 33 (0, 0)) ∧ Below w1.heap.size w1 ((w1.alloc (.cells a 33)).alloc (.cells b 33)))) := Lib.hid (fun a b => two_box w1 a b 33)
  clear ri rj hcl hgl
  go_cut [5, 6] (fun s5 s6 wc => ∃ B1 B2 : Nat, s5 = .pointer (some ⟨B1, 0, none⟩) ∧ s6 = .pointer (some ⟨B2, 0, none⟩) ∧ Hid (wc.heap[B1]? = some (.cells #[.int .i64 hd, .slice na nn nc, .slice ka kn kc, .bool op] 33 (0, 0))) ∧ Hid (wc.heap[B2]? = some (.cells #[.int .i64 5, .slice ma mn mc, .slice ja jn jc, .bool oq] 33 (0, 0))) ∧ Hid (Below w1.heap.size w1 wc))
  case first =>
    go_region_held3 (fun w' => w'.cell? ⟨w.heap.size, 0, none⟩ = some (.int .i64 (i : Int)) ∧ w'.cell? ⟨w.heap.size, 1, none⟩ = some (.int .i64 (j : Int)) ∧ w'.cell? ⟨R, 0, none⟩ = some (.slice (some ⟨gl, ol, none⟩) N lc) ∧ w'.cell? ⟨gl, ol + i * 4, none⟩ = some (.int .i64 hd) ∧ w'.cell? ⟨gl, ol + i * 4 + 1, none⟩ = some (.slice na nn nc) ∧ w'.cell? ⟨gl, ol + i * 4 + 2, none⟩ = some (.slice ka kn kc) ∧ w'.cell? ⟨gl, ol + i * 4 + 3, none⟩ = some (.bool op) ∧ w'.cell? ⟨gl, ol + j * 4, none⟩ = some (.int .i64 5) ∧ w'.cell? ⟨gl, ol + j * 4 + 1, none⟩ = some (.slice ma mn mc) ∧ w'.cell? ⟨gl, ol + j * 4 + 2, none⟩ = some (.slice ja jn jc) ∧ w'.cell? ⟨gl, ol + j * 4 + 3, none⟩ = some (.bool oq)) (first | exact ⟨p0, p1, r0, s0, s1, s2, s3, t0, t1, t2, t3⟩ | go_keep) ((fail))
    all_goals
      go_wp2
      go_meet
      case rel => first | exact ⟨w1.heap.size, w1.heap.size + 1, rfl, rfl, Lib.hid (HW1.out _ _).1, Lib.hid (HW1.out _ _).2.1, Lib.hid (HW1.out _ _).2.2.drew⟩ | exact ⟨w1.heap.size + 1, w1.heap.size, rfl, rfl, Lib.hid (HW1.out _ _).2.1, Lib.hid (HW1.out _ _).1, Lib.hid (HW1.out _ _).2.2.drew⟩
  case rest =>
  obtain ⟨B1, B2, rfl, rfl, HY1, HY2, HBZ⟩ := hcut
  obtain ⟨wa, rfl⟩ : ∃ wa : World, wa = wc := ⟨_, rfl⟩
  clear p0 p1 r0 s0 s1 s2 s3 t0 t1 t2 t3
  have b0 : wa.cell? ⟨B1, 0, none⟩ = some (.int .i64 hd) := (by rw [cell_of_row _ _ 0 _ 33 _ HY1.out]; rfl)
  have b1 : wa.cell? ⟨B1, 1, none⟩ = some (.slice na nn nc) := (by rw [cell_of_row _ _ 1 _ 33 _ HY1.out]; rfl)
  have b2 : wa.cell? ⟨B1, 2, none⟩ = some (.slice ka kn kc) := (by rw [cell_of_row _ _ 2 _ 33 _ HY1.out]; rfl)
  have b3 : wa.cell? ⟨B1, 3, none⟩ = some (.bool op) := (by rw [cell_of_row _ _ 3 _ 33 _ HY1.out]; rfl)
  have d0 : wa.cell? ⟨B2, 0, none⟩ = some (.int .i64 5) := (by rw [cell_of_row _ _ 0 _ 33 _ HY2.out]; rfl)
  have d1 : wa.cell? ⟨B2, 1, none⟩ = some (.slice ma mn mc) := (by rw [cell_of_row _ _ 1 _ 33 _ HY2.out]; rfl)
  have d2 : wa.cell? ⟨B2, 2, none⟩ = some (.slice ja jn jc) := (by rw [cell_of_row _ _ 2 _ 33 _ HY2.out]; rfl)
  have d3 : wa.cell? ⟨B2, 3, none⟩ = some (.bool oq) := (by rw [cell_of_row _ _ 3 _ 33 _ HY2.out]; rfl)
  have HTA := Lib.hid (HT1.out.on HBZ.out)
  have HKW : Hid (Kp 141 R w wa) := Lib.hid ((Kp.of_below HB0.out).trans (Kp.of_below HBZ.out))
  go_wp2
  go_ret
  exact ⟨by rw [HAS.out]; rfl, [], HTA.out, HKW.out, fun q h => (by cases h), fun m e => (by rw [HAS.out] at e; cases e; exact ⟨fun _ h => h, fun _ h => h⟩)⟩
set_option maxRecDepth 20000 in
set_option maxHeartbeats 8000000 in
theorem step_dyn (w0 wl w : World) (R M N dyn : Nat) (la : Option Addr) (lc : Nat) (OS : List Hd) (HL : ∀ w', Lk wl R M w' → HeadsIn w' la N OS) (SL : List PrA × List PrA) (hT : AkT akA w0 wl R M (.slice la N lc) (.int .i64 (dyn : Int)) w SL) (hdn : dyn < N) (hN : N ≤ 300) (hok : OkHeads OS) (i j : Nat) (hd : Int) (na : Option Addr) (nn nc : Nat) (NS : List ByteArray) (ka : Option Addr) (kn kc : Nat) (KS : List Int) (op : Bool) (hi : OS[i]? = some ⟨hd, na, nn, nc, NS, ka, kn, kc, KS, op⟩)
    (ed : Int) (ma : Option Addr) (mn mc : Nat) (MS : List ByteArray) (ja : Option Addr) (jn jc : Nat) (JS : List Int) (oq : Bool) (hj : OS[j]? = some ⟨ed, ma, mn, mc, MS, ja, jn, jc, JS, oq⟩) (h4 : hd = 4) (h5 : ed ≠ 5) (h6 : ed ≤ 6) :
    Calls Tryz.prog 86 #[.pointer (some ⟨R, 0, none⟩), .agg #[.int .i64 (i : Int), .int .i64 (j : Int)]] w (StpPost akA w0 wl R M (.slice la N lc) (.int .i64 (dyn : Int)) SL w (stpA OS dyn (i, j))) := by
  rw [stpA_at (p := (i, j)) hi hj]
  have hN1 : N = OS.length := (HL w hT.lk).1
  have q1 := hok _ (List.mem_of_getElem? hi)
  have q2 := hok _ (List.mem_of_getElem? hj)
  rw [← hN1] at q1 q2
  simp only at q1 q2
  have hin : i < N := by rw [hN1]; exact (List.getElem?_eq_some_iff.1 hi).1
  have hjn : j < N := by rw [hN1]; exact (List.getElem?_eq_some_iff.1 hj).1
  have HQ1 := Lib.hid q1
  have HQ2 := Lib.hid q2
  have HH := Lib.hid (AkT.heads_at (w0 := w0) (w := w) HL hi)
  have HK := Lib.hid (AkT.heads_at (w0 := w0) (w := w) HL hj)
  have HLL := Lib.hid HL
  subst h4
  have n5 : (ed == 5) = false := by simpa using h5
  have HAS : Hid (askA OS dyn ⟨4, na, nn, nc, NS, ka, kn, kc, KS, op⟩ ⟨ed, ma, mn, mc, MS, ja, jn, jc, JS, oq⟩ = some []) := Lib.hid (by unfold askA; rw [if_neg (by simp only; omega), if_neg (by simp only; omega), if_pos rfl, if_neg (by simp only; omega), if_neg (by simp only; omega)])
  clear h5
  have hb0 : Below w.heap.size w (w.alloc (.cells #[.int .i64 (i : Int), .int .i64 (j : Int)] 141)) := (Below.refl _ _).alloc (Nat.le_refl _) _
  have HT1 := Lib.hid (hT.on hb0)
  have HB0 := Lib.hid hb0
  have HX1 : Hid ((w.alloc (.cells #[.int .i64 (i : Int), .int .i64 (j : Int)] 141)).heap[w.heap.size]? = some (.cells #[.int .i64 (i : Int), .int .i64 (j : Int)] 141 (0, 0))) := Lib.hid (heap_alloc_new w _)
  have HII := Lib.hid hi
  have HJJ := Lib.hid hj
  have HNN := Lib.hid hN1
  clear hT hb0 hi hj hok q1 q2 hN1 HL
  go_enter Tryz.func86, Tryz.ntmps86
  go_upto_region 1 with (fail)
  obtain ⟨w1, hw1⟩ : ∃ w1, (w.alloc (.cells #[.int .i64 (i : Int), .int .i64 (j : Int)] 141)) = w1 := ⟨_, rfl⟩
  rw [hw1] at HT1 HB0 HX1 ⊢
  clear hw1
  have p0 : w1.cell? ⟨w.heap.size, 0, none⟩ = some (.int .i64 (i : Int)) := (by rw [cell_of_row _ _ 0 _ 141 _ HX1.out]; rfl)
  have p1 : w1.cell? ⟨w.heap.size, 1, none⟩ = some (.int .i64 (j : Int)) := (by rw [cell_of_row _ _ 1 _ 141 _ HX1.out]; rfl)
  have r0 : w1.cell? ⟨R, 0, none⟩ = some (.slice la N lc) := HT1.out.c0
  obtain ⟨gl, ol, el, hgl, hcl⟩ := ((HLL.out w1 HT1.out.lk).2).resolve_left (by omega)
  subst el
  have ri := hcl i _ HII.out
  have rj := hcl j _ HJJ.out
  have s0 : w1.cell? ⟨gl, ol + i * 4, none⟩ = some (.int .i64 4) := ri.c0
  have s1 : w1.cell? ⟨gl, ol + i * 4 + 1, none⟩ = some (.slice na nn nc) := ri.c1
  have s2 : w1.cell? ⟨gl, ol + i * 4 + 2, none⟩ = some (.slice ka kn kc) := ri.c2
  have s3 : w1.cell? ⟨gl, ol + i * 4 + 3, none⟩ = some (.bool op) := ri.c3
  have t0 : w1.cell? ⟨gl, ol + j * 4, none⟩ = some (.int .i64 ed) := rj.c0
  have t1 : w1.cell? ⟨gl, ol + j * 4 + 1, none⟩ = some (.slice ma mn mc) := rj.c1
  have t2 : w1.cell? ⟨gl, ol + j * 4 + 2, none⟩ = some (.slice ja jn jc) := rj.c2
  have t3 : w1.cell? ⟨gl, ol + j * 4 + 3, none⟩ = some (.bool oq) := rj.c3
  have hin2 : (i : Int) < N := by omega
  have hjn2 : (j : Int) < N := by omega
  have HW1 : Hid (∀ a b, (((w1.alloc (.cells a 33)).alloc (.cells b 33)).heap[w1.heap.size]? = some (.cells a 33 (0, 0)) ∧ ((w1.alloc (.cells a 33)).alloc (.cells b 33)).heap[w1.heap.size + 1]? = some (.cells b 33 (0, 0)) ∧ Below w1.heap.size w1 ((w1.alloc (.cells a 33)).alloc (.cells b 33)))) := Lib.hid (fun a b => two_box w1 a b 33)
  clear ri rj hcl hgl
  go_cut [5, 6] (fun s5 s6 wc => ∃ B1 B2 : Nat, s5 = .pointer (some ⟨B1, 0, none⟩) ∧ s6 = .pointer (some ⟨B2, 0, none⟩) ∧ Hid (wc.heap[B1]? = some (.cells #[.int .i64 4, .slice na nn nc, .slice ka kn kc, .bool op] 33 (0, 0))) ∧ Hid (wc.heap[B2]? = some (.cells #[.int .i64 ed, .slice ma mn mc, .slice ja jn jc, .bool oq] 33 (0, 0))) ∧ Hid (Below w1.heap.size w1 wc))
  case first =>
    go_region_held3 (fun w' => w'.cell? ⟨w.heap.size, 0, none⟩ = some (.int .i64 (i : Int)) ∧ w'.cell? ⟨w.heap.size, 1, none⟩ = some (.int .i64 (j : Int)) ∧ w'.cell? ⟨R, 0, none⟩ = some (.slice (some ⟨gl, ol, none⟩) N lc) ∧ w'.cell? ⟨gl, ol + i * 4, none⟩ = some (.int .i64 4) ∧ w'.cell? ⟨gl, ol + i * 4 + 1, none⟩ = some (.slice na nn nc) ∧ w'.cell? ⟨gl, ol + i * 4 + 2, none⟩ = some (.slice ka kn kc) ∧ w'.cell? ⟨gl, ol + i * 4 + 3, none⟩ = some (.bool op) ∧ w'.cell? ⟨gl, ol + j * 4, none⟩ = some (.int .i64 ed) ∧ w'.cell? ⟨gl, ol + j * 4 + 1, none⟩ = some (.slice ma mn mc) ∧ w'.cell? ⟨gl, ol + j * 4 + 2, none⟩ = some (.slice ja jn jc) ∧ w'.cell? ⟨gl, ol + j * 4 + 3, none⟩ = some (.bool oq)) (first | exact ⟨p0, p1, r0, s0, s1, s2, s3, t0, t1, t2, t3⟩ | go_keep) ((fail))
    all_goals
      go_wp2
      go_meet
      case rel => first | exact ⟨w1.heap.size, w1.heap.size + 1, rfl, rfl, Lib.hid (HW1.out _ _).1, Lib.hid (HW1.out _ _).2.1, Lib.hid (HW1.out _ _).2.2.drew⟩ | exact ⟨w1.heap.size + 1, w1.heap.size, rfl, rfl, Lib.hid (HW1.out _ _).2.1, Lib.hid (HW1.out _ _).1, Lib.hid (HW1.out _ _).2.2.drew⟩
  case rest =>
  obtain ⟨B1, B2, rfl, rfl, HY1, HY2, HBZ⟩ := hcut
  obtain ⟨wa, rfl⟩ : ∃ wa : World, wa = wc := ⟨_, rfl⟩
  clear p0 p1 r0 s0 s1 s2 s3 t0 t1 t2 t3
  have b0 : wa.cell? ⟨B1, 0, none⟩ = some (.int .i64 4) := (by rw [cell_of_row _ _ 0 _ 33 _ HY1.out]; rfl)
  have b1 : wa.cell? ⟨B1, 1, none⟩ = some (.slice na nn nc) := (by rw [cell_of_row _ _ 1 _ 33 _ HY1.out]; rfl)
  have b2 : wa.cell? ⟨B1, 2, none⟩ = some (.slice ka kn kc) := (by rw [cell_of_row _ _ 2 _ 33 _ HY1.out]; rfl)
  have b3 : wa.cell? ⟨B1, 3, none⟩ = some (.bool op) := (by rw [cell_of_row _ _ 3 _ 33 _ HY1.out]; rfl)
  have d0 : wa.cell? ⟨B2, 0, none⟩ = some (.int .i64 ed) := (by rw [cell_of_row _ _ 0 _ 33 _ HY2.out]; rfl)
  have d1 : wa.cell? ⟨B2, 1, none⟩ = some (.slice ma mn mc) := (by rw [cell_of_row _ _ 1 _ 33 _ HY2.out]; rfl)
  have d2 : wa.cell? ⟨B2, 2, none⟩ = some (.slice ja jn jc) := (by rw [cell_of_row _ _ 2 _ 33 _ HY2.out]; rfl)
  have d3 : wa.cell? ⟨B2, 3, none⟩ = some (.bool oq) := (by rw [cell_of_row _ _ 3 _ 33 _ HY2.out]; rfl)
  have HTA := Lib.hid (HT1.out.on HBZ.out)
  have HKW : Hid (Kp 141 R w wa) := Lib.hid ((Kp.of_below HB0.out).trans (Kp.of_below HBZ.out))
  go_wp2
  go_ret
  exact ⟨by rw [HAS.out]; rfl, [], HTA.out, HKW.out, fun q h => (by cases h), fun m e => (by rw [HAS.out] at e; cases e; exact ⟨fun _ h => h, fun _ h => h⟩)⟩
set_option maxRecDepth 20000 in
set_option maxHeartbeats 8000000 in
theorem step_from_any (w0 wl w : World) (R M N dyn : Nat) (la : Option Addr) (lc : Nat) (OS : List Hd) (HL : ∀ w', Lk wl R M w' → HeadsIn w' la N OS) (SL : List PrA × List PrA) (hT : AkT akA w0 wl R M (.slice la N lc) (.int .i64 (dyn : Int)) w SL) (hdn : dyn < N) (hN : N ≤ 300) (hok : OkHeads OS) (i j : Nat) (hd : Int) (na : Option Addr) (nn nc : Nat) (NS : List ByteArray) (ka : Option Addr) (kn kc : Nat) (KS : List Int) (op : Bool) (hi : OS[i]? = some ⟨hd, na, nn, nc, NS, ka, kn, kc, KS, op⟩)
    (ed : Int) (ma : Option Addr) (mn mc : Nat) (MS : List ByteArray) (ja : Option Addr) (jn jc : Nat) (JS : List Int) (oq : Bool) (hj : OS[j]? = some ⟨ed, ma, mn, mc, MS, ja, jn, jc, JS, oq⟩) (hh5 : hd = 5) (h5 : ed ≠ 5) :
    Calls Tryz.prog 86 #[.pointer (some ⟨R, 0, none⟩), .agg #[.int .i64 (i : Int), .int .i64 (j : Int)]] w (StpPost akA w0 wl R M (.slice la N lc) (.int .i64 (dyn : Int)) SL w (stpA OS dyn (i, j))) := by
  rw [stpA_at (p := (i, j)) hi hj]
  have hN1 : N = OS.length := (HL w hT.lk).1
  have q1 := hok _ (List.mem_of_getElem? hi)
  have q2 := hok _ (List.mem_of_getElem? hj)
  rw [← hN1] at q1 q2
  simp only at q1 q2
  have hin : i < N := by rw [hN1]; exact (List.getElem?_eq_some_iff.1 hi).1
  have hjn : j < N := by rw [hN1]; exact (List.getElem?_eq_some_iff.1 hj).1
  have HQ1 := Lib.hid q1
  have HQ2 := Lib.hid q2
  have HH := Lib.hid (AkT.heads_at (w0 := w0) (w := w) HL hi)
  have HK := Lib.hid (AkT.heads_at (w0 := w0) (w := w) HL hj)
  have HLL := Lib.hid HL
  subst hh5
  have n5 : (ed == 5) = false := by simpa using h5
  have HAS : Hid (askA OS dyn ⟨5, na, nn, nc, NS, ka, kn, kc, KS, op⟩ ⟨ed, ma, mn, mc, MS, ja, jn, jc, JS, oq⟩ = none) := Lib.hid (by unfold askA; rw [if_neg (by simp only; omega), if_pos rfl])
  clear h5
  have hb0 : Below w.heap.size w (w.alloc (.cells #[.int .i64 (i : Int), .int .i64 (j : Int)] 141)) := (Below.refl _ _).alloc (Nat.le_refl _) _
  have HT1 := Lib.hid (hT.on hb0)
  have HB0 := Lib.hid hb0
  have HX1 : Hid ((w.alloc (.cells #[.int .i64 (i : Int), .int .i64 (j : Int)] 141)).heap[w.heap.size]? = some (.cells #[.int .i64 (i : Int), .int .i64 (j : Int)] 141 (0, 0))) := Lib.hid (heap_alloc_new w _)
  have HII := Lib.hid hi
  have HJJ := Lib.hid hj
  have HNN := Lib.hid hN1
  clear hT hb0 hi hj hok q1 q2 hN1 HL
  go_enter Tryz.func86, Tryz.ntmps86
  go_upto_region 1 with (fail)
  obtain ⟨w1, hw1⟩ : ∃ w1, (w.alloc (.cells #[.int .i64 (i : Int), .int .i64 (j : Int)] 141)) = w1 := ⟨_, rfl⟩
  rw [hw1] at HT1 HB0 HX1 ⊢
  clear hw1
  have p0 : w1.cell? ⟨w.heap.size, 0, none⟩ = some (.int .i64 (i : Int)) := (by rw [cell_of_row _ _ 0 _ 141 _ HX1.out]; rfl)
  have p1 : w1.cell? ⟨w.heap.size, 1, none⟩ = some (.int .i64 (j : Int)) := (by rw [cell_of_row _ _ 1 _ 141 _ HX1.out]; rfl)
  have r0 : w1.cell? ⟨R, 0, none⟩ = some (.slice la N lc) := HT1.out.c0
  obtain ⟨gl, ol, el, hgl, hcl⟩ := ((HLL.out w1 HT1.out.lk).2).resolve_left (by omega)
  subst el
  have ri := hcl i _ HII.out
  have rj := hcl j _ HJJ.out
  have s0 : w1.cell? ⟨gl, ol + i * 4, none⟩ = some (.int .i64 5) := ri.c0
  have s1 : w1.cell? ⟨gl, ol + i * 4 + 1, none⟩ = some (.slice na nn nc) := ri.c1
  have s2 : w1.cell? ⟨gl, ol + i * 4 + 2, none⟩ = some (.slice ka kn kc) := ri.c2
  have s3 : w1.cell? ⟨gl, ol + i * 4 + 3, none⟩ = some (.bool op) := ri.c3
  have t0 : w1.cell? ⟨gl, ol + j * 4, none⟩ = some (.int .i64 ed) := rj.c0
  have t1 : w1.cell? ⟨gl, ol + j * 4 + 1, none⟩ = some (.slice ma mn mc) := rj.c1
  have t2 : w1.cell? ⟨gl, ol + j * 4 + 2, none⟩ = some (.slice ja jn jc) := rj.c2
  have t3 : w1.cell? ⟨gl, ol + j * 4 + 3, none⟩ = some (.bool oq) := rj.c3
  have hin2 : (i : Int) < N := by omega
  have hjn2 : (j : Int) < N := by omega
  have HW1 : Hid (∀ a b, (((w1.alloc (.cells a 33)).alloc (.cells b 33)).heap[w1.heap.size]? = some (.cells a 33 (0, 0)) ∧ ((w1.alloc (.cells a 33)).alloc (.cells b 33)).heap[w1.heap.size + 1]? = some (.cells b 33 (0, 0)) ∧ Below w1.heap.size w1 ((w1.alloc (.cells a 33)).alloc (.cells b 33)))) := Lib.hid (fun a b => two_box w1 a b 33)
  clear ri rj hcl hgl
  go_cut [5, 6] (fun s5 s6 wc => ∃ B1 B2 : Nat, s5 = .pointer (some ⟨B1, 0, none⟩) ∧ s6 = .pointer (some ⟨B2, 0, none⟩) ∧ Hid (wc.heap[B1]? = some (.cells #[.int .i64 5, .slice na nn nc, .slice ka kn kc, .bool op] 33 (0, 0))) ∧ Hid (wc.heap[B2]? = some (.cells #[.int .i64 ed, .slice ma mn mc, .slice ja jn jc, .bool oq] 33 (0, 0))) ∧ Hid (Below w1.heap.size w1 wc))
  case first =>
    go_region_held3 (fun w' => w'.cell? ⟨w.heap.size, 0, none⟩ = some (.int .i64 (i : Int)) ∧ w'.cell? ⟨w.heap.size, 1, none⟩ = some (.int .i64 (j : Int)) ∧ w'.cell? ⟨R, 0, none⟩ = some (.slice (some ⟨gl, ol, none⟩) N lc) ∧ w'.cell? ⟨gl, ol + i * 4, none⟩ = some (.int .i64 5) ∧ w'.cell? ⟨gl, ol + i * 4 + 1, none⟩ = some (.slice na nn nc) ∧ w'.cell? ⟨gl, ol + i * 4 + 2, none⟩ = some (.slice ka kn kc) ∧ w'.cell? ⟨gl, ol + i * 4 + 3, none⟩ = some (.bool op) ∧ w'.cell? ⟨gl, ol + j * 4, none⟩ = some (.int .i64 ed) ∧ w'.cell? ⟨gl, ol + j * 4 + 1, none⟩ = some (.slice ma mn mc) ∧ w'.cell? ⟨gl, ol + j * 4 + 2, none⟩ = some (.slice ja jn jc) ∧ w'.cell? ⟨gl, ol + j * 4 + 3, none⟩ = some (.bool oq)) (first | exact ⟨p0, p1, r0, s0, s1, s2, s3, t0, t1, t2, t3⟩ | go_keep) ((fail))
    all_goals
      go_wp2
      go_meet
      case rel => first | exact ⟨w1.heap.size, w1.heap.size + 1, rfl, rfl, Lib.hid (HW1.out _ _).1, Lib.hid (HW1.out _ _).2.1, Lib.hid (HW1.out _ _).2.2.drew⟩ | exact ⟨w1.heap.size + 1, w1.heap.size, rfl, rfl, Lib.hid (HW1.out _ _).2.1, Lib.hid (HW1.out _ _).1, Lib.hid (HW1.out _ _).2.2.drew⟩
  case rest =>
  obtain ⟨B1, B2, rfl, rfl, HY1, HY2, HBZ⟩ := hcut
  obtain ⟨wa, rfl⟩ : ∃ wa : World, wa = wc := ⟨_, rfl⟩
  clear p0 p1 r0 s0 s1 s2 s3 t0 t1 t2 t3
  have b0 : wa.cell? ⟨B1, 0, none⟩ = some (.int .i64 5) := (by rw [cell_of_row _ _ 0 _ 33 _ HY1.out]; rfl)
  have b1 : wa.cell? ⟨B1, 1, none⟩ = some (.slice na nn nc) := (by rw [cell_of_row _ _ 1 _ 33 _ HY1.out]; rfl)
  have b2 : wa.cell? ⟨B1, 2, none⟩ = some (.slice ka kn kc) := (by rw [cell_of_row _ _ 2 _ 33 _ HY1.out]; rfl)
  have b3 : wa.cell? ⟨B1, 3, none⟩ = some (.bool op) := (by rw [cell_of_row _ _ 3 _ 33 _ HY1.out]; rfl)
  have d0 : wa.cell? ⟨B2, 0, none⟩ = some (.int .i64 ed) := (by rw [cell_of_row _ _ 0 _ 33 _ HY2.out]; rfl)
  have d1 : wa.cell? ⟨B2, 1, none⟩ = some (.slice ma mn mc) := (by rw [cell_of_row _ _ 1 _ 33 _ HY2.out]; rfl)
  have d2 : wa.cell? ⟨B2, 2, none⟩ = some (.slice ja jn jc) := (by rw [cell_of_row _ _ 2 _ 33 _ HY2.out]; rfl)
  have d3 : wa.cell? ⟨B2, 3, none⟩ = some (.bool oq) := (by rw [cell_of_row _ _ 3 _ 33 _ HY2.out]; rfl)
  have HTA := Lib.hid (HT1.out.on HBZ.out)
  have HKW : Hid (Kp 141 R w wa) := Lib.hid ((Kp.of_below HB0.out).trans (Kp.of_below HBZ.out))
  go_wp2
  go_ret
  exact ⟨by rw [HAS.out]; rfl, [], HTA.out, HKW.out, fun q h => (by cases h), fun m e => (by rw [HAS.out] at e; cases e)⟩
set_option maxRecDepth 20000 in
set_option maxHeartbeats 8000000 in
theorem step_other (w0 wl w : World) (R M N dyn : Nat) (la : Option Addr) (lc : Nat) (OS : List Hd) (HL : ∀ w', Lk wl R M w' → HeadsIn w' la N OS) (SL : List PrA × List PrA) (hT : AkT akA w0 wl R M (.slice la N lc) (.int .i64 (dyn : Int)) w SL) (hdn : dyn < N) (hN : N ≤ 300) (hok : OkHeads OS) (i j : Nat) (hd : Int) (na : Option Addr) (nn nc : Nat) (NS : List ByteArray) (ka : Option Addr) (kn kc : Nat) (KS : List Int) (op : Bool) (hi : OS[i]? = some ⟨hd, na, nn, nc, NS, ka, kn, kc, KS, op⟩)
    (ed : Int) (ma : Option Addr) (mn mc : Nat) (MS : List ByteArray) (ja : Option Addr) (jn jc : Nat) (JS : List Int) (oq : Bool) (hj : OS[j]? = some ⟨ed, ma, mn, mc, MS, ja, jn, jc, JS, oq⟩) (h4 : hd ≠ 4) (h5 : hd ≠ 5) (h6 : hd ≠ 6) (e4 : ed ≠ 4) (e5 : ed ≠ 5) (hne : ed ≠ hd) :
    Calls Tryz.prog 86 #[.pointer (some ⟨R, 0, none⟩), .agg #[.int .i64 (i : Int), .int .i64 (j : Int)]] w (StpPost akA w0 wl R M (.slice la N lc) (.int .i64 (dyn : Int)) SL w (stpA OS dyn (i, j))) := by
  rw [stpA_at (p := (i, j)) hi hj]
  have hN1 : N = OS.length := (HL w hT.lk).1
  have q1 := hok _ (List.mem_of_getElem? hi)
  have q2 := hok _ (List.mem_of_getElem? hj)
  rw [← hN1] at q1 q2
  simp only at q1 q2
  have hin : i < N := by rw [hN1]; exact (List.getElem?_eq_some_iff.1 hi).1
  have hjn : j < N := by rw [hN1]; exact (List.getElem?_eq_some_iff.1 hj).1
  have HQ1 := Lib.hid q1
  have HQ2 := Lib.hid q2
  have HH := Lib.hid (AkT.heads_at (w0 := w0) (w := w) HL hi)
  have HK := Lib.hid (AkT.heads_at (w0 := w0) (w := w) HL hj)
  have HLL := Lib.hid HL
  have n4 : (hd == 4) = false := by simpa using h4
  have n5 : (hd == 5) = false := by simpa using h5
  have n6 : (hd == 6) = false := by simpa using h6
  have k4 : (ed == 4) = false := by simpa using e4
  have k4' : (ed != 4) = true := by simpa using e4
  have k5 : (ed == 5) = false := by simpa using e5
  have kh : (ed == hd) = false := by simpa using hne
  have kh' : (ed != hd) = true := by simpa using hne
  have HAS : Hid (askA OS dyn ⟨hd, na, nn, nc, NS, ka, kn, kc, KS, op⟩ ⟨ed, ma, mn, mc, MS, ja, jn, jc, JS, oq⟩ = none) := Lib.hid (by unfold askA; rw [if_neg (by simp only; omega), if_neg (by simp only; omega), if_neg (by simp only; omega), if_neg (by simp only; omega), if_pos (fun e => hne e.symm)])
  clear h4 h5 h6 e4 e5 hne
  have hb0 : Below w.heap.size w (w.alloc (.cells #[.int .i64 (i : Int), .int .i64 (j : Int)] 141)) := (Below.refl _ _).alloc (Nat.le_refl _) _
  have HT1 := Lib.hid (hT.on hb0)
  have HB0 := Lib.hid hb0
  have HX1 : Hid ((w.alloc (.cells #[.int .i64 (i : Int), .int .i64 (j : Int)] 141)).heap[w.heap.size]? = some (.cells #[.int .i64 (i : Int), .int .i64 (j : Int)] 141 (0, 0))) := Lib.hid (heap_alloc_new w _)
  have HII := Lib.hid hi
  have HJJ := Lib.hid hj
  have HNN := Lib.hid hN1
  clear hT hb0 hi hj hok q1 q2 hN1 HL
  go_enter Tryz.func86, Tryz.ntmps86
  go_upto_region 1 with (fail)
  obtain ⟨w1, hw1⟩ : ∃ w1, (w.alloc (.cells #[.int .i64 (i : Int), .int .i64 (j : Int)] 141)) = w1 := ⟨_, rfl⟩
  rw [hw1] at HT1 HB0 HX1 ⊢
  clear hw1
  have p0 : w1.cell? ⟨w.heap.size, 0, none⟩ = some (.int .i64 (i : Int)) := (by rw [cell_of_row _ _ 0 _ 141 _ HX1.out]; rfl)
  have p1 : w1.cell? ⟨w.heap.size, 1, none⟩ = some (.int .i64 (j : Int)) := (by rw [cell_of_row _ _ 1 _ 141 _ HX1.out]; rfl)
  have r0 : w1.cell? ⟨R, 0, none⟩ = some (.slice la N lc) := HT1.out.c0
  obtain ⟨gl, ol, el, hgl, hcl⟩ := ((HLL.out w1 HT1.out.lk).2).resolve_left (by omega)
  subst el
  have ri := hcl i _ HII.out
  have rj := hcl j _ HJJ.out
  have s0 : w1.cell? ⟨gl, ol + i * 4, none⟩ = some (.int .i64 hd) := ri.c0
  have s1 : w1.cell? ⟨gl, ol + i * 4 + 1, none⟩ = some (.slice na nn nc) := ri.c1
  have s2 : w1.cell? ⟨gl, ol + i * 4 + 2, none⟩ = some (.slice ka kn kc) := ri.c2
  have s3 : w1.cell? ⟨gl, ol + i * 4 + 3, none⟩ = some (.bool op) := ri.c3
  have t0 : w1.cell? ⟨gl, ol + j * 4, none⟩ = some (.int .i64 ed) := rj.c0
  have t1 : w1.cell? ⟨gl, ol + j * 4 + 1, none⟩ = some (.slice ma mn mc) := rj.c1
  have t2 : w1.cell? ⟨gl, ol + j * 4 + 2, none⟩ = some (.slice ja jn jc) := rj.c2
  have t3 : w1.cell? ⟨gl, ol + j * 4 + 3, none⟩ = some (.bool oq) := rj.c3
  have hin2 : (i : Int) < N := by omega
  have hjn2 : (j : Int) < N := by omega
  have HW1 : Hid (∀ a b, (((w1.alloc (.cells a 33)).alloc (.cells b 33)).heap[w1.heap.size]? = some (.cells a 33 (0, 0)) ∧ ((w1.alloc (.cells a 33)).alloc (.cells b 33)).heap[w1.heap.size + 1]? = some (.cells b 33 (0, 0)) ∧ Below w1.heap.size w1 ((w1.alloc (.cells a 33)).alloc (.cells b 33)))) := Lib.hid (fun a b => two_box w1 a b 33)
  clear ri rj hcl hgl
  go_cut [5, 6] (fun s5 s6 wc => ∃ B1 B2 : Nat, s5 = .pointer (some ⟨B1, 0, none⟩) ∧ s6 = .pointer (some ⟨B2, 0, none⟩) ∧ Hid (wc.heap[B1]? = some (.cells #[.int .i64 hd, .slice na nn nc, .slice ka kn kc, .bool op] 33 (0, 0))) ∧ Hid (wc.heap[B2]? = some (.cells #[.int .i64 ed, .slice ma mn mc, .slice ja jn jc, .bool oq] 33 (0, 0))) ∧ Hid (Below w1.heap.size w1 wc))
  case first =>
    go_region_held3 (fun w' => w'.cell? ⟨w.heap.size, 0, none⟩ = some (.int .i64 (i : Int)) ∧ w'.cell? ⟨w.heap.size, 1, none⟩ = some (.int .i64 (j : Int)) ∧ w'.cell? ⟨R, 0, none⟩ = some (.slice (some ⟨gl, ol, none⟩) N lc) ∧ w'.cell? ⟨gl, ol + i * 4, none⟩ = some (.int .i64 hd) ∧ w'.cell? ⟨gl, ol + i * 4 + 1, none⟩ = some (.slice na nn nc) ∧ w'.cell? ⟨gl, ol + i * 4 + 2, none⟩ = some (.slice ka kn kc) ∧ w'.cell? ⟨gl, ol + i * 4 + 3, none⟩ = some (.bool op) ∧ w'.cell? ⟨gl, ol + j * 4, none⟩ = some (.int .i64 ed) ∧ w'.cell? ⟨gl, ol + j * 4 + 1, none⟩ = some (.slice ma mn mc) ∧ w'.cell? ⟨gl, ol + j * 4 + 2, none⟩ = some (.slice ja jn jc) ∧ w'.cell? ⟨gl, ol + j * 4 + 3, none⟩ = some (.bool oq)) (first | exact ⟨p0, p1, r0, s0, s1, s2, s3, t0, t1, t2, t3⟩ | go_keep) ((fail))
    all_goals
      go_wp2
      go_meet
      case rel => first | exact ⟨w1.heap.size, w1.heap.size + 1, rfl, rfl, Lib.hid (HW1.out _ _).1, Lib.hid (HW1.out _ _).2.1, Lib.hid (HW1.out _ _).2.2.drew⟩ | exact ⟨w1.heap.size + 1, w1.heap.size, rfl, rfl, Lib.hid (HW1.out _ _).2.1, Lib.hid (HW1.out _ _).1, Lib.hid (HW1.out _ _).2.2.drew⟩
  case rest =>
  obtain ⟨B1, B2, rfl, rfl, HY1, HY2, HBZ⟩ := hcut
  obtain ⟨wa, rfl⟩ : ∃ wa : World, wa = wc := ⟨_, rfl⟩
  clear p0 p1 r0 s0 s1 s2 s3 t0 t1 t2 t3
  have b0 : wa.cell? ⟨B1, 0, none⟩ = some (.int .i64 hd) := (by rw [cell_of_row _ _ 0 _ 33 _ HY1.out]; rfl)
  have b1 : wa.cell? ⟨B1, 1, none⟩ = some (.slice na nn nc) := (by rw [cell_of_row _ _ 1 _ 33 _ HY1.out]; rfl)
  have b2 : wa.cell? ⟨B1, 2, none⟩ = some (.slice ka kn kc) := (by rw [cell_of_row _ _ 2 _ 33 _ HY1.out]; rfl)
  have b3 : wa.cell? ⟨B1, 3, none⟩ = some (.bool op) := (by rw [cell_of_row _ _ 3 _ 33 _ HY1.out]; rfl)
  have d0 : wa.cell? ⟨B2, 0, none⟩ = some (.int .i64 ed) := (by rw [cell_of_row _ _ 0 _ 33 _ HY2.out]; rfl)
  have d1 : wa.cell? ⟨B2, 1, none⟩ = some (.slice ma mn mc) := (by rw [cell_of_row _ _ 1 _ 33 _ HY2.out]; rfl)
  have d2 : wa.cell? ⟨B2, 2, none⟩ = some (.slice ja jn jc) := (by rw [cell_of_row _ _ 2 _ 33 _ HY2.out]; rfl)
  have d3 : wa.cell? ⟨B2, 3, none⟩ = some (.bool oq) := (by rw [cell_of_row _ _ 3 _ 33 _ HY2.out]; rfl)
  have HTA := Lib.hid (HT1.out.on HBZ.out)
  have HKW : Hid (Kp 141 R w wa) := Lib.hid ((Kp.of_below HB0.out).trans (Kp.of_below HBZ.out))
  go_wp2
  go_ret
  exact ⟨by rw [HAS.out]; rfl, [], HTA.out, HKW.out, fun q h => (by cases h), fun m e => (by rw [HAS.out] at e; cases e)⟩
set_option maxRecDepth 20000 in
set_option maxHeartbeats 8000000 in
theorem step_plain (w0 wl w : World) (R M N dyn : Nat) (la : Option Addr) (lc : Nat) (OS : List Hd) (HL : ∀ w', Lk wl R M w' → HeadsIn w' la N OS) (SL : List PrA × List PrA) (hT : AkT akA w0 wl R M (.slice la N lc) (.int .i64 (dyn : Int)) w SL) (hdn : dyn < N) (hN : N ≤ 300) (hok : OkHeads OS) (i j : Nat) (hd : Int) (na : Option Addr) (nn nc : Nat) (NS : List ByteArray) (ka : Option Addr) (kn kc : Nat) (KS : List Int) (op : Bool) (hi : OS[i]? = some ⟨hd, na, nn, nc, NS, ka, kn, kc, KS, op⟩)
    (ed : Int) (ma : Option Addr) (mn mc : Nat) (MS : List ByteArray) (ja : Option Addr) (jn jc : Nat) (JS : List Int) (oq : Bool) (hj : OS[j]? = some ⟨ed, ma, mn, mc, MS, ja, jn, jc, JS, oq⟩) (h3 : hd ≤ 3) (hne : ed = hd) :
    Calls Tryz.prog 86 #[.pointer (some ⟨R, 0, none⟩), .agg #[.int .i64 (i : Int), .int .i64 (j : Int)]] w (StpPost akA w0 wl R M (.slice la N lc) (.int .i64 (dyn : Int)) SL w (stpA OS dyn (i, j))) := by
  rw [stpA_at (p := (i, j)) hi hj]
  have hN1 : N = OS.length := (HL w hT.lk).1
  have q1 := hok _ (List.mem_of_getElem? hi)
  have q2 := hok _ (List.mem_of_getElem? hj)
  rw [← hN1] at q1 q2
  simp only at q1 q2
  have hin : i < N := by rw [hN1]; exact (List.getElem?_eq_some_iff.1 hi).1
  have hjn : j < N := by rw [hN1]; exact (List.getElem?_eq_some_iff.1 hj).1
  have HQ1 := Lib.hid q1
  have HQ2 := Lib.hid q2
  have HH := Lib.hid (AkT.heads_at (w0 := w0) (w := w) HL hi)
  have HK := Lib.hid (AkT.heads_at (w0 := w0) (w := w) HL hj)
  have HLL := Lib.hid HL
  subst hne
  have n4 : (ed == 4) = false := by simp; omega
  have n5 : (ed == 5) = false := by simp; omega
  have n6 : (ed == 6) = false := by simp; omega
  have n7 : (ed == 7) = false := by simp; omega
  have n8 : (ed == 8) = false := by simp; omega
  have n9 : (ed == 9) = false := by simp; omega
  have HAS : Hid (askA OS dyn ⟨ed, na, nn, nc, NS, ka, kn, kc, KS, op⟩ ⟨ed, ma, mn, mc, MS, ja, jn, jc, JS, oq⟩ = some []) := Lib.hid (by unfold askA; rw [if_neg (by simp only; omega), if_neg (by simp only; omega), if_neg (by simp only; omega)]; rw [if_neg (by simp only; omega), if_neg (fun h => h rfl), if_neg (by simp only; omega), if_neg (by simp only; omega), if_neg (by simp only; omega)])
  clear h3
  have hb0 : Below w.heap.size w (w.alloc (.cells #[.int .i64 (i : Int), .int .i64 (j : Int)] 141)) := (Below.refl _ _).alloc (Nat.le_refl _) _
  have HT1 := Lib.hid (hT.on hb0)
  have HB0 := Lib.hid hb0
  have HX1 : Hid ((w.alloc (.cells #[.int .i64 (i : Int), .int .i64 (j : Int)] 141)).heap[w.heap.size]? = some (.cells #[.int .i64 (i : Int), .int .i64 (j : Int)] 141 (0, 0))) := Lib.hid (heap_alloc_new w _)
  have HII := Lib.hid hi
  have HJJ := Lib.hid hj
  have HNN := Lib.hid hN1
  clear hT hb0 hi hj hok q1 q2 hN1 HL
  go_enter Tryz.func86, Tryz.ntmps86
  go_upto_region 1 with (fail)
  obtain ⟨w1, hw1⟩ : ∃ w1, (w.alloc (.cells #[.int .i64 (i : Int), .int .i64 (j : Int)] 141)) = w1 := ⟨_, rfl⟩
  rw [hw1] at HT1 HB0 HX1 ⊢
  clear hw1
  have p0 : w1.cell? ⟨w.heap.size, 0, none⟩ = some (.int .i64 (i : Int)) := (by rw [cell_of_row _ _ 0 _ 141 _ HX1.out]; rfl)
  have p1 : w1.cell? ⟨w.heap.size, 1, none⟩ = some (.int .i64 (j : Int)) := (by rw [cell_of_row _ _ 1 _ 141 _ HX1.out]; rfl)
  have r0 : w1.cell? ⟨R, 0, none⟩ = some (.slice la N lc) := HT1.out.c0
  obtain ⟨gl, ol, el, hgl, hcl⟩ := ((HLL.out w1 HT1.out.lk).2).resolve_left (by omega)
  subst el
  have ri := hcl i _ HII.out
  have rj := hcl j _ HJJ.out
  have s0 : w1.cell? ⟨gl, ol + i * 4, none⟩ = some (.int .i64 ed) := ri.c0
  have s1 : w1.cell? ⟨gl, ol + i * 4 + 1, none⟩ = some (.slice na nn nc) := ri.c1
  have s2 : w1.cell? ⟨gl, ol + i * 4 + 2, none⟩ = some (.slice ka kn kc) := ri.c2
  have s3 : w1.cell? ⟨gl, ol + i * 4 + 3, none⟩ = some (.bool op) := ri.c3
  have t0 : w1.cell? ⟨gl, ol + j * 4, none⟩ = some (.int .i64 ed) := rj.c0
  have t1 : w1.cell? ⟨gl, ol + j * 4 + 1, none⟩ = some (.slice ma mn mc) := rj.c1
  have t2 : w1.cell? ⟨gl, ol + j * 4 + 2, none⟩ = some (.slice ja jn jc) := rj.c2
  have t3 : w1.cell? ⟨gl, ol + j * 4 + 3, none⟩ = some (.bool oq) := rj.c3
  have hin2 : (i : Int) < N := by omega
  have hjn2 : (j : Int) < N := by omega
  have HW1 : Hid (∀ a b, (((w1.alloc (.cells a 33)).alloc (.cells b 33)).heap[w1.heap.size]? = some (.cells a 33 (0, 0)) ∧ ((w1.alloc (.cells a 33)).alloc (.cells b 33)).heap[w1.heap.size + 1]? = some (.cells b 33 (0, 0)) ∧ Below w1.heap.size w1 ((w1.alloc (.cells a 33)).alloc (.cells b 33)))) := Lib.hid (fun a b => two_box w1 a b 33)
  clear ri rj hcl hgl
  go_cut [5, 6] (fun s5 s6 wc => ∃ B1 B2 : Nat, s5 = .pointer (some ⟨B1, 0, none⟩) ∧ s6 = .pointer (some ⟨B2, 0, none⟩) ∧ Hid (wc.heap[B1]? = some (.cells #[.int .i64 ed, .slice na nn nc, .slice ka kn kc, .bool op] 33 (0, 0))) ∧ Hid (wc.heap[B2]? = some (.cells #[.int .i64 ed, .slice ma mn mc, .slice ja jn jc, .bool oq] 33 (0, 0))) ∧ Hid (Below w1.heap.size w1 wc))
  case first =>
    go_region_held3 (fun w' => w'.cell? ⟨w.heap.size, 0, none⟩ = some (.int .i64 (i : Int)) ∧ w'.cell? ⟨w.heap.size, 1, none⟩ = some (.int .i64 (j : Int)) ∧ w'.cell? ⟨R, 0, none⟩ = some (.slice (some ⟨gl, ol, none⟩) N lc) ∧ w'.cell? ⟨gl, ol + i * 4, none⟩ = some (.int .i64 ed) ∧ w'.cell? ⟨gl, ol + i * 4 + 1, none⟩ = some (.slice na nn nc) ∧ w'.cell? ⟨gl, ol + i * 4 + 2, none⟩ = some (.slice ka kn kc) ∧ w'.cell? ⟨gl, ol + i * 4 + 3, none⟩ = some (.bool op) ∧ w'.cell? ⟨gl, ol + j * 4, none⟩ = some (.int .i64 ed) ∧ w'.cell? ⟨gl, ol + j * 4 + 1, none⟩ = some (.slice ma mn mc) ∧ w'.cell? ⟨gl, ol + j * 4 + 2, none⟩ = some (.slice ja jn jc) ∧ w'.cell? ⟨gl, ol + j * 4 + 3, none⟩ = some (.bool oq)) (first | exact ⟨p0, p1, r0, s0, s1, s2, s3, t0, t1, t2, t3⟩ | go_keep) ((fail))
    all_goals
      go_wp2
      go_meet
      case rel => first | exact ⟨w1.heap.size, w1.heap.size + 1, rfl, rfl, Lib.hid (HW1.out _ _).1, Lib.hid (HW1.out _ _).2.1, Lib.hid (HW1.out _ _).2.2.drew⟩ | exact ⟨w1.heap.size + 1, w1.heap.size, rfl, rfl, Lib.hid (HW1.out _ _).2.1, Lib.hid (HW1.out _ _).1, Lib.hid (HW1.out _ _).2.2.drew⟩
  case rest =>
  obtain ⟨B1, B2, rfl, rfl, HY1, HY2, HBZ⟩ := hcut
  obtain ⟨wa, rfl⟩ : ∃ wa : World, wa = wc := ⟨_, rfl⟩
  clear p0 p1 r0 s0 s1 s2 s3 t0 t1 t2 t3
  have b0 : wa.cell? ⟨B1, 0, none⟩ = some (.int .i64 ed) := (by rw [cell_of_row _ _ 0 _ 33 _ HY1.out]; rfl)
  have b1 : wa.cell? ⟨B1, 1, none⟩ = some (.slice na nn nc) := (by rw [cell_of_row _ _ 1 _ 33 _ HY1.out]; rfl)
  have b2 : wa.cell? ⟨B1, 2, none⟩ = some (.slice ka kn kc) := (by rw [cell_of_row _ _ 2 _ 33 _ HY1.out]; rfl)
  have b3 : wa.cell? ⟨B1, 3, none⟩ = some (.bool op) := (by rw [cell_of_row _ _ 3 _ 33 _ HY1.out]; rfl)
  have d0 : wa.cell? ⟨B2, 0, none⟩ = some (.int .i64 ed) := (by rw [cell_of_row _ _ 0 _ 33 _ HY2.out]; rfl)
  have d1 : wa.cell? ⟨B2, 1, none⟩ = some (.slice ma mn mc) := (by rw [cell_of_row _ _ 1 _ 33 _ HY2.out]; rfl)
  have d2 : wa.cell? ⟨B2, 2, none⟩ = some (.slice ja jn jc) := (by rw [cell_of_row _ _ 2 _ 33 _ HY2.out]; rfl)
  have d3 : wa.cell? ⟨B2, 3, none⟩ = some (.bool oq) := (by rw [cell_of_row _ _ 3 _ 33 _ HY2.out]; rfl)
  have HTA := Lib.hid (HT1.out.on HBZ.out)
  have HKW : Hid (Kp 141 R w wa) := Lib.hid ((Kp.of_below HB0.out).trans (Kp.of_below HBZ.out))
  go_wp2
  go_ret
  exact ⟨by rw [HAS.out]; rfl, [], HTA.out, HKW.out, fun q h => (by cases h), fun m e => (by rw [HAS.out] at e; cases e; exact ⟨fun _ h => h, fun _ h => h⟩)⟩
set_option maxRecDepth 20000 in
set_option maxHeartbeats 8000000 in
theorem step_plain4 (w0 wl w : World) (R M N dyn : Nat) (la : Option Addr) (lc : Nat) (OS : List Hd) (HL : ∀ w', Lk wl R M w' → HeadsIn w' la N OS) (SL : List PrA × List PrA) (hT : AkT akA w0 wl R M (.slice la N lc) (.int .i64 (dyn : Int)) w SL) (hdn : dyn < N) (hN : N ≤ 300) (hok : OkHeads OS) (i j : Nat) (hd : Int) (na : Option Addr) (nn nc : Nat) (NS : List ByteArray) (ka : Option Addr) (kn kc : Nat) (KS : List Int) (op : Bool) (hi : OS[i]? = some ⟨hd, na, nn, nc, NS, ka, kn, kc, KS, op⟩)
    (ed : Int) (ma : Option Addr) (mn mc : Nat) (MS : List ByteArray) (ja : Option Addr) (jn jc : Nat) (JS : List Int) (oq : Bool) (hj : OS[j]? = some ⟨ed, ma, mn, mc, MS, ja, jn, jc, JS, oq⟩) (h3 : hd ≤ 3) (hne : ed = 4) :
    Calls Tryz.prog 86 #[.pointer (some ⟨R, 0, none⟩), .agg #[.int .i64 (i : Int), .int .i64 (j : Int)]] w (StpPost akA w0 wl R M (.slice la N lc) (.int .i64 (dyn : Int)) SL w (stpA OS dyn (i, j))) := by
  rw [stpA_at (p := (i, j)) hi hj]
  have hN1 : N = OS.length := (HL w hT.lk).1
  have q1 := hok _ (List.mem_of_getElem? hi)
  have q2 := hok _ (List.mem_of_getElem? hj)
  rw [← hN1] at q1 q2
  simp only at q1 q2
  have hin : i < N := by rw [hN1]; exact (List.getElem?_eq_some_iff.1 hi).1
  have hjn : j < N := by rw [hN1]; exact (List.getElem?_eq_some_iff.1 hj).1
  have HQ1 := Lib.hid q1
  have HQ2 := Lib.hid q2
  have HH := Lib.hid (AkT.heads_at (w0 := w0) (w := w) HL hi)
  have HK := Lib.hid (AkT.heads_at (w0 := w0) (w := w) HL hj)
  have HLL := Lib.hid HL
  subst hne
  have n4 : (hd == 4) = false := by simp; omega
  have n5 : (hd == 5) = false := by simp; omega
  have n6 : (hd == 6) = false := by simp; omega
  have n7 : (hd == 7) = false := by simp; omega
  have n8 : (hd == 8) = false := by simp; omega
  have n9 : (hd == 9) = false := by simp; omega
  have n44 : ((4 : Int) == hd) = false := by simp; omega
  have n45 : ((4 : Int) != hd) = true := by simp; omega
  have n46 : ¬ (4 : Int) = hd := by omega
  have HAS : Hid (askA OS dyn ⟨hd, na, nn, nc, NS, ka, kn, kc, KS, op⟩ ⟨4, ma, mn, mc, MS, ja, jn, jc, JS, oq⟩ = some []) := Lib.hid (by unfold askA; rw [if_neg (by simp only; omega), if_neg (by simp only; omega), if_neg (by simp only; omega)]; rw [if_pos rfl, if_neg (by simp only; omega), if_neg (by simp only; omega), if_neg (by simp only; omega)])
  clear h3
  have hb0 : Below w.heap.size w (w.alloc (.cells #[.int .i64 (i : Int), .int .i64 (j : Int)] 141)) := (Below.refl _ _).alloc (Nat.le_refl _) _
  have HT1 := Lib.hid (hT.on hb0)
  have HB0 := Lib.hid hb0
  have HX1 : Hid ((w.alloc (.cells #[.int .i64 (i : Int), .int .i64 (j : Int)] 141)).heap[w.heap.size]? = some (.cells #[.int .i64 (i : Int), .int .i64 (j : Int)] 141 (0, 0))) := Lib.hid (heap_alloc_new w _)
  have HII := Lib.hid hi
  have HJJ := Lib.hid hj
  have HNN := Lib.hid hN1
  clear hT hb0 hi hj hok q1 q2 hN1 HL
  go_enter Tryz.func86, Tryz.ntmps86
  go_upto_region 1 with (fail)
  obtain ⟨w1, hw1⟩ : ∃ w1, (w.alloc (.cells #[.int .i64 (i : Int), .int .i64 (j : Int)] 141)) = w1 := ⟨_, rfl⟩
  rw [hw1] at HT1 HB0 HX1 ⊢
  clear hw1
  have p0 : w1.cell? ⟨w.heap.size, 0, none⟩ = some (.int .i64 (i : Int)) := (by rw [cell_of_row _ _ 0 _ 141 _ HX1.out]; rfl)
  have p1 : w1.cell? ⟨w.heap.size, 1, none⟩ = some (.int .i64 (j : Int)) := (by rw [cell_of_row _ _ 1 _ 141 _ HX1.out]; rfl)
  have r0 : w1.cell? ⟨R, 0, none⟩ = some (.slice la N lc) := HT1.out.c0
  obtain ⟨gl, ol, el, hgl, hcl⟩ := ((HLL.out w1 HT1.out.lk).2).resolve_left (by omega)
  subst el
  have ri := hcl i _ HII.out
  have rj := hcl j _ HJJ.out
  have s0 : w1.cell? ⟨gl, ol + i * 4, none⟩ = some (.int .i64 hd) := ri.c0
  have s1 : w1.cell? ⟨gl, ol + i * 4 + 1, none⟩ = some (.slice na nn nc) := ri.c1
  have s2 : w1.cell? ⟨gl, ol + i * 4 + 2, none⟩ = some (.slice ka kn kc) := ri.c2
  have s3 : w1.cell? ⟨gl, ol + i * 4 + 3, none⟩ = some (.bool op) := ri.c3
  have t0 : w1.cell? ⟨gl, ol + j * 4, none⟩ = some (.int .i64 4) := rj.c0
  have t1 : w1.cell? ⟨gl, ol + j * 4 + 1, none⟩ = some (.slice ma mn mc) := rj.c1
  have t2 : w1.cell? ⟨gl, ol + j * 4 + 2, none⟩ = some (.slice ja jn jc) := rj.c2
  have t3 : w1.cell? ⟨gl, ol + j * 4 + 3, none⟩ = some (.bool oq) := rj.c3
  have hin2 : (i : Int) < N := by omega
  have hjn2 : (j : Int) < N := by omega
  have HW1 : Hid (∀ a b, (((w1.alloc (.cells a 33)).alloc (.cells b 33)).heap[w1.heap.size]? = some (.cells a 33 (0, 0)) ∧ ((w1.alloc (.cells a 33)).alloc (.cells b 33)).heap[w1.heap.size + 1]? = some (.cells b 33 (0, 0)) ∧ Below w1.heap.size w1 ((w1.alloc (.cells a 33)).alloc (.cells b 33)))) := Lib.hid (fun a b => two_box w1 a b 33)
  clear ri rj hcl hgl
  go_cut [5, 6] (fun s5 s6 wc => ∃ B1 B2 : Nat, s5 = .pointer (some ⟨B1, 0, none⟩) ∧ s6 = .pointer (some ⟨B2, 0, none⟩) ∧ Hid (wc.heap[B1]? = some (.cells #[.int .i64 hd, .slice na nn nc, .slice ka kn kc, .bool op] 33 (0, 0))) ∧ Hid (wc.heap[B2]? = some (.cells #[.int .i64 4, .slice ma mn mc, .slice ja jn jc, .bool oq] 33 (0, 0))) ∧ Hid (Below w1.heap.size w1 wc))
  case first =>
    go_region_held3 (fun w' => w'.cell? ⟨w.heap.size, 0, none⟩ = some (.int .i64 (i : Int)) ∧ w'.cell? ⟨w.heap.size, 1, none⟩ = some (.int .i64 (j : Int)) ∧ w'.cell? ⟨R, 0, none⟩ = some (.slice (some ⟨gl, ol, none⟩) N lc) ∧ w'.cell? ⟨gl, ol + i * 4, none⟩ = some (.int .i64 hd) ∧ w'.cell? ⟨gl, ol + i * 4 + 1, none⟩ = some (.slice na nn nc) ∧ w'.cell? ⟨gl, ol + i * 4 + 2, none⟩ = some (.slice ka kn kc) ∧ w'.cell? ⟨gl, ol + i * 4 + 3, none⟩ = some (.bool op) ∧ w'.cell? ⟨gl, ol + j * 4, none⟩ = some (.int .i64 4) ∧ w'.cell? ⟨gl, ol + j * 4 + 1, none⟩ = some (.slice ma mn mc) ∧ w'.cell? ⟨gl, ol + j * 4 + 2, none⟩ = some (.slice ja jn jc) ∧ w'.cell? ⟨gl, ol + j * 4 + 3, none⟩ = some (.bool oq)) (first | exact ⟨p0, p1, r0, s0, s1, s2, s3, t0, t1, t2, t3⟩ | go_keep) ((fail))
    all_goals
      go_wp2
      go_meet
      case rel => first | exact ⟨w1.heap.size, w1.heap.size + 1, rfl, rfl, Lib.hid (HW1.out _ _).1, Lib.hid (HW1.out _ _).2.1, Lib.hid (HW1.out _ _).2.2.drew⟩ | exact ⟨w1.heap.size + 1, w1.heap.size, rfl, rfl, Lib.hid (HW1.out _ _).2.1, Lib.hid (HW1.out _ _).1, Lib.hid (HW1.out _ _).2.2.drew⟩
  case rest =>
  obtain ⟨B1, B2, rfl, rfl, HY1, HY2, HBZ⟩ := hcut
  obtain ⟨wa, rfl⟩ : ∃ wa : World, wa = wc := ⟨_, rfl⟩
  clear p0 p1 r0 s0 s1 s2 s3 t0 t1 t2 t3
  have b0 : wa.cell? ⟨B1, 0, none⟩ = some (.int .i64 hd) := (by rw [cell_of_row _ _ 0 _ 33 _ HY1.out]; rfl)
  have b1 : wa.cell? ⟨B1, 1, none⟩ = some (.slice na nn nc) := (by rw [cell_of_row _ _ 1 _ 33 _ HY1.out]; rfl)
  have b2 : wa.cell? ⟨B1, 2, none⟩ = some (.slice ka kn kc) := (by rw [cell_of_row _ _ 2 _ 33 _ HY1.out]; rfl)
  have b3 : wa.cell? ⟨B1, 3, none⟩ = some (.bool op) := (by rw [cell_of_row _ _ 3 _ 33 _ HY1.out]; rfl)
  have d0 : wa.cell? ⟨B2, 0, none⟩ = some (.int .i64 4) := (by rw [cell_of_row _ _ 0 _ 33 _ HY2.out]; rfl)
  have d1 : wa.cell? ⟨B2, 1, none⟩ = some (.slice ma mn mc) := (by rw [cell_of_row _ _ 1 _ 33 _ HY2.out]; rfl)
  have d2 : wa.cell? ⟨B2, 2, none⟩ = some (.slice ja jn jc) := (by rw [cell_of_row _ _ 2 _ 33 _ HY2.out]; rfl)
  have d3 : wa.cell? ⟨B2, 3, none⟩ = some (.bool oq) := (by rw [cell_of_row _ _ 3 _ 33 _ HY2.out]; rfl)
  have HTA := Lib.hid (HT1.out.on HBZ.out)
  have HKW : Hid (Kp 141 R w wa) := Lib.hid ((Kp.of_below HB0.out).trans (Kp.of_below HBZ.out))
  go_wp2
  go_ret
  exact ⟨by rw [HAS.out]; rfl, [], HTA.out, HKW.out, fun q h => (by cases h), fun m e => (by rw [HAS.out] at e; cases e; exact ⟨fun _ h => h, fun _ h => h⟩)⟩
end Go.Proofs.YtifilhkkgkihpaaGreatDoor
