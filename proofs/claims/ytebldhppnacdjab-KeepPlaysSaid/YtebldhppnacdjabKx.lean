/- A keep that shows a list: Get and Put, by each hash. -/
import Derived.Test.YtebldhppnacdjabKw
set_option linter.unusedVariables false
namespace Go.Proofs.Ytebldhppnacdjab
open Go.RowKit
theorem get_ks9_some (w : World) (base : Nat) (F : Nat → Prop) (K : Nat) (mo : Int) (H : List Int → Int) (now f m : Int) (P : List (List Int × Int)) (key : Value) (l : List Int) (x : Int) (h : KS w base F K mo 9 H now f m P) (HH : Hashes 9 H) (hkr : Row w key l) (hl : Byt l) (hll : l.length ≤ 100) (hP : P.length ≤ 9999) (hnow : 0 ≤ now ∧ now < 100000) (hf : 0 ≤ f ∧ f < 100000) (hx : aFind P l = some x) :
    Calls Try.prog 11 #[.pointer (some ⟨K, 0, none⟩), key] w fun e w' => e = .returned (.tuple #[.int .i64 x, .bool true]) ∧ ∃ F', KS w' base F' K mo 9 H (now + 1) (f + 1) m (aDel P l ++ [(l, x)]) ∧ Left base F w F' w' := by
  obtain ⟨M, es, c, BL, L, hp, rfl⟩ := h
  rw [List.length_map] at hP
  obtain ⟨e, heL, hek, hex⟩ := aFind_mem hx hp.dif
  obtain ⟨b, hb, heb⟩ := hp.of_L heL
  obtain ⟨j, hj⟩ := List.getElem?_of_mem heb
  have hjl := (List.getElem?_eq_some_iff.1 hj).1
  obtain ⟨g, cap, hv, hFg, hgK, hgM, hE, hown⟩ := hp.bok b hb
  have hbh : b.h = H l := by rw [← hek]; exact (hp.ent b hb e heb).2.2.1.symm
  obtain ⟨me, hme, hmk, hmv⟩ := me_of hp.map hb
  obtain ⟨jm, hjm⟩ := List.getElem?_of_mem hme
  obtain ⟨c0, c1, c2⟩ := cells_at b.E j e hj
  have hlb := len_le b BL hb
  rw [← hp.perm.length_eq] at hlb
  have hat := hp.at_call (w' := w) (by omega) hb (fun k _ _ => rfl) (Nat.le_refl _) hkr
  rw [hp.idx_here hb hj hl hek, hv] at hat
  rw [hv] at hown
  refine (get_hit9 w K M g b.E.length cap base j mo (H l) (L.length : Int) now f m e.x es c key e.last (b.E.flatMap Ent.cells) hjl c1 c2 hnow hf hp.kg l (Lib.hid hkr) (Lib.hid fun w' hr => HH w' key l hr hl hll) (by omega) hp.bK hp.bw hgK hgM hown
    (Lib.hid fun w' hm => by rw [lk_some w' M c es hp.keys (H l) hjm (by rw [hmk, hbh]) hm, hmv, hv]) (Lib.hid hat)).mono ?_
  rintro e' w' ⟨rfl, hB, hkg, hown', hfr⟩
  rw [cells_set2 _ _ _ _ hj, ← hv] at hown'
  obtain ⟨BL2, L2, h2, h3⟩ := hp.swap hb hj hv e.x hB.size hfr hkg hown'
  rw [hek, hex] at h3
  refine ⟨by rw [hex], _, ⟨M, es, c, BL2, L2, h2, h3.symm⟩, hB, fun k k1 k2 => hfr k k1 (fun e => k2 (by rw [e]; exact hp.fK)) (fun e => k2 (by rw [e]; exact hFg)), fun k hk => ?_⟩
  rcases hk with hk | hk
  · exact Or.inl hk
  · exact Or.inr hk.1
theorem get_ks9_none (w : World) (base : Nat) (F : Nat → Prop) (K : Nat) (mo : Int) (H : List Int → Int) (now f m : Int) (P : List (List Int × Int)) (key : Value) (l : List Int) (h : KS w base F K mo 9 H now f m P) (HH : Hashes 9 H) (hkr : Row w key l) (hl : Byt l) (hll : l.length ≤ 100) (hP : P.length ≤ 9999) (hm : 0 ≤ m ∧ m < 100000) (hx : aFind P l = none) :
    Calls Try.prog 11 #[.pointer (some ⟨K, 0, none⟩), key] w fun e w' => e = .returned (.tuple #[.int .i64 0, .bool false]) ∧ ∃ F', KS w' base F' K mo 9 H now f (m + 1) P ∧ Left base F w F' w' := by
  obtain ⟨M, es, c, BL, L, hp, rfl⟩ := h
  rw [List.length_map] at hP
  have hnew := aFind_no hx hp.dif
  obtain ⟨v, nE, xs, es', c', hc⟩ := choose_bucket (H := H) (c := c) hp.map l
  refine (get_miss9 w K M base mo (H l) (L.length : Int) now f m es c v key hm hp.kg l (Lib.hid hkr) (Lib.hid fun w' hr => HH w' key l hr hl hll) hp.bK hp.bw (Lib.hid (hp.look hc)) (Lib.hid (hp.none_at (w' := w) (by omega) hl hnew hc (fun k _ _ => rfl) (Nat.le_refl _) hkr))).mono ?_
  rintro e' w' ⟨rfl, hB, hkg, hfr⟩
  refine ⟨rfl, F, ⟨M, es, c, BL, L, hp.mono hB.size (fun k hk hkK => hfr k (hp.fl k hk) hkK) hkg.1 (Int.le_refl _), rfl⟩, hB, fun k k1 k2 => hfr k k1 (fun e => k2 (by rw [e]; exact hp.fK)), fun k hk => Or.inl hk⟩
theorem put_ks9 (w : World) (base : Nat) (F : Nat → Prop) (K : Nat) (mo : Int) (H : List Int → Int) (now f m : Int) (P : List (List Int × Int)) (key : Value) (l : List Int) (x : Int) (h : KS w base F K mo 9 H now f m P) (HH : Hashes 9 H) (hkr : Row w key l) (hl : Byt l) (hll : l.length ≤ 100) (hkF : ∀ g, kblk key l = some g → ¬ F g) (hP : P.length ≤ 9999) (hmo : 1 ≤ mo) (hnow : 0 ≤ now ∧ now < 100000) :
    Calls Try.prog 10 #[.pointer (some ⟨K, 0, none⟩), key, .int .i64 x] w fun e w' => e = .returned (.int .i64 0) ∧ ∃ F', KS w' base F' K mo 9 H (now + 1) f m (aPut mo P l x) ∧ Left base F w F' w' := by
  obtain ⟨M, es, c, BL, L, hp, rfl⟩ := h
  rw [List.length_map] at hP
  have hkK : kblk key l ≠ some K := fun hc => hkF K hc hp.fK
  unfold aPut
  cases hx : aFind (L.map pr) l with
  | some x0 =>
    obtain ⟨e, heL, hek, hex⟩ := aFind_mem hx hp.dif
    obtain ⟨b, hb, heb⟩ := hp.of_L heL
    obtain ⟨j, hj⟩ := List.getElem?_of_mem heb
    have hjl := (List.getElem?_eq_some_iff.1 hj).1
    obtain ⟨g, cap, hv, hFg, hgK, hgM, hE, hown⟩ := hp.bok b hb
    have hbh : b.h = H l := by rw [← hek]; exact (hp.ent b hb e heb).2.2.1.symm
    obtain ⟨me, hme, hmk, hmv⟩ := me_of hp.map hb
    obtain ⟨jm, hjm⟩ := List.getElem?_of_mem hme
    obtain ⟨c0, c1, c2⟩ := cells_at b.E j e hj
    have hlb := len_le b BL hb
    rw [← hp.perm.length_eq] at hlb
    rw [hv] at hown
    refine (put_hit9 w K M g b.E.length cap base j mo (H l) (L.length : Int) now f m x es c key e.x e.last (b.E.flatMap Ent.cells) hjl c1 c2 hnow hp.kg l (Lib.hid hkr) hkK (Lib.hid fun w' hr => HH w' key l hr hl hll) (by omega) hp.bK hp.bw hgK hgM hown
      (Lib.hid fun w' hm => by rw [lk_some w' M c es hp.keys (H l) hjm (by rw [hmk, hbh]) hm, hmv, hv])
      (Lib.hid fun w' hf hs => by
        have hat := hp.at_call (w' := w') (by omega) hb (fun k _ hk => hf k hk) (by omega) (hkr.atk (fun g hg => hf g (fun e => hkK (by rw [hg, e]))) (by omega))
        rw [hp.idx_here hb hj hl hek, hv] at hat
        exact hat)).mono ?_
    rintro e' w' ⟨rfl, hB, hkg, hown', hfr⟩
    have hj1 : (b.E.set j { e with x := x })[j]? = some { e with x := x } := by rw [List.getElem?_set, if_pos rfl, if_pos hjl]
    rw [cells_set1 _ _ _ _ hj, cells_set2 _ _ _ _ hj1, List.set_set, ← hv] at hown'
    obtain ⟨BL2, L2, h2, h3⟩ := hp.swap hb hj hv x hB.size hfr hkg hown'
    rw [hek] at h3
    refine ⟨rfl, _, ⟨M, es, c, BL2, L2, h2, h3.symm⟩, hB, fun k k1 k2 => hfr k k1 (fun e => k2 (by rw [e]; exact hp.fK)) (fun e => k2 (by rw [e]; exact hFg)), fun k hk => ?_⟩
    rcases hk with hk | hk
    · exact Or.inl hk
    · exact Or.inr hk.1
  | none =>
    have hnew := aFind_no hx hp.dif
    obtain ⟨v0, nE0, xs0, es0', c0', hc0⟩ := choose_bucket (H := H) (c := c) hp.map l
    refine (put_miss9 w K M mo (H l) (L.length : Int) now f m es c v0 key l x ⟨by omega, by omega⟩ hnow hp.kg hkK (Lib.hid fun w' hr => HH w' key l hr hl hll) hkr (by omega) base hp.bK hp.bw (Lib.hid (hp.look hc0))
      (Lib.hid fun w' hf hs => hp.none_at (w' := w') (by omega) hl hnew hc0 (fun k _ hk => hf k hk) (by omega) (hkr.atk (fun g hg => hf g (fun e => hkK (by rw [hg, e]))) (by omega)))
      (fun w3 es3 c3 v nE xs es' c' n' => ∃ F3 BL3 L3, KParts w3 base F3 K M mo 9 H (now + 1) f m es3 c3 BL3 L3 ∧ n' = (L3.length : Int) ∧ L3.map pr = (if mo ≤ ((L.map pr).length : Int) then (L.map pr).tail else L.map pr) ∧ Left base F w F3 w3 ∧ (∀ e ∈ L3, e.kb ≠ l) ∧ (∀ e ∈ L3, e.last < now + 1) ∧ L3.length ≤ 99998 ∧ Row w3 key l ∧ Choice H es3 c3 BL3 l v nE xs es' c')
      ?_ ?_ ?_).mono ?_
    · refine Lib.hid ?_
      rintro w3 es3 c3 v nE xs es' c' n' ⟨F3, BL3, L3, h1, rfl, h3, h4, h5, h6, h7, h8, h9⟩
      exact h1.ready h7 h9 h8
    · refine Lib.hid fun hlt w2 hkc hB hfr => ?_
      have h2 : KParts w2 base F K M mo 9 H (now + 1) f m es c BL L := hp.mono hB.size (fun k hk hkK => hfr k (hp.fl k hk) hkK) hkc (by omega)
      refine ⟨es, c, v0, nE0, xs0, es0', c0', (L.length : Int), F, BL, L, h2, rfl, ?_, ⟨hB, fun k k1 k2 => hfr k k1 (fun e => k2 (by rw [e]; exact hp.fK)), fun k hk => Or.inl hk⟩, hnew, fun e he => by have := hp.lst e he; omega, by omega, hkr.atk (fun g hg => hfr g (hkr.ltk g hg) (fun e => hkK (by rw [hg, e]))) hB.size, hc0⟩
      rw [if_neg (by rw [List.length_map]; omega)]
    · refine Lib.hid fun hle w2 hkc hB hfr => ?_
      have h2 : KParts w2 base F K M mo 9 H (now + 1) f m es c BL L := hp.mono hB.size (fun k hk hkK => hfr k (hp.fl k hk) hkK) hkc (by omega)
      have hkr2 : Row w2 key l := hkr.atk (fun g hg => hfr g (hkr.ltk g hg) (fun e => hkK (by rw [hg, e]))) hB.size
      have hne : ∃ b ∈ BL, b.E ≠ [] := by
        cases hL : L with
        | nil => rw [hL] at hle; simp at hle; omega
        | cons a r =>
          obtain ⟨b, hb, hab⟩ := hp.of_L (e := a) (by rw [hL]; simp)
          exact ⟨b, hb, fun hc => by rw [hc] at hab; simp at hab⟩
      refine (drive_any w2 K M mo 9 (L.length : Int) (now + 1) f m es c base BL ⟨by omega, by omega⟩ h2.kg hp.bK hp.bM h2.bw (Lib.hid h2.old) (Lib.hid h2.nd) (Lib.hid h2.keys) (Lib.hid h2.map) (Lib.hid (h2.bin (by omega))) (Lib.hid h2.hinj) (Lib.hid hne)
        (Lib.hid fun b hb => by obtain ⟨g, cap, i1, i2, i3, i4, i5, i6⟩ := h2.bok b hb; exact i6)
        (Lib.hid fun b hb => by obtain ⟨g, cap, i1, i2, i3, i4, i5, i6⟩ := h2.bok b hb; rw [i1]; exact ⟨fun e => i3 (Option.some.inj e), fun e => i4 (Option.some.inj e)⟩)).mono ?_
      rintro e w3 ⟨rfl, b, hb, i, e0, g, cap, j, me, hi, hmin, hv, hj, hk, hmv, hB3, hfr3, hown3, hkg3⟩
      obtain ⟨es3, BL3, L3, h3, h4⟩ := h2.less hb hi hmin hv hj hk hB3.size hfr3 hown3 hkg3
      obtain ⟨v, nE, xs, es', c', hc⟩ := choose_bucket (H := H) (c := c) h3.map l
      have hFg : F g := by
        obtain ⟨g', cap', i1, i2, -⟩ := h2.bok b hb
        rw [hv] at i1
        simp at i1
        rw [i1.1]; exact i2
      have hsub : ∀ q ∈ L3, q ∈ L := fun q hq => by rw [h4] at hq; exact List.mem_of_mem_tail hq
      refine ⟨rfl, es3, c, v, nE, xs, es', c', (L3.length : Int), _, BL3, L3, h3, rfl, ?_, ?_, ?_, ?_, ?_, ?_, hc⟩
      · rw [if_pos (by rw [List.length_map]; exact hle), h4, List.map_tail]
      · refine Left.trans (F2 := F) (w2 := w2) ⟨hB, fun k k1 k2 => hfr k k1 (fun e => k2 (by rw [e]; exact hp.fK)), fun k hk => Or.inl hk⟩ ⟨hB3, fun k k1 k2 => hfr3 k k1 (fun e => k2 (by rw [e]; exact hp.fK)) (fun e => k2 (by rw [e]; exact hp.fM)) (fun e => k2 (by rw [e]; exact hFg)), fun k hk => ?_⟩
        rcases hk with hk | hk
        · exact Or.inl hk
        · exact Or.inr hk.1
      · exact fun e he => hnew e (hsub e he)
      · exact fun e he => by have := hp.lst e (hsub e he); omega
      · rw [h4, List.length_tail]; omega
      · exact hkr2.atk (fun g' hg' => hfr3 g' (hkr2.ltk g' hg') (fun e => hkK (by rw [hg', e])) (fun e => hkF M (by rw [hg', e]) hp.fM) (fun e => hkF g' hg' (by rw [e]; exact hFg))) hB3.size
    · rintro e w' ⟨rfl, w3, es3, c3, v, nE, xs, es', c', n', ⟨F3, BL3, L3, h1, rfl, h3, h4, h5, h6, h7, h8, h9⟩, PE⟩
      have hd := h1.put_done hl h5 h6 h9 PE
      rw [h3] at hd
      exact ⟨rfl, _, hd, h4.trans (h1.put_left h9 PE)⟩
theorem get_ks13_some (w : World) (base : Nat) (F : Nat → Prop) (K : Nat) (mo : Int) (H : List Int → Int) (now f m : Int) (P : List (List Int × Int)) (key : Value) (l : List Int) (x : Int) (h : KS w base F K mo 13 H now f m P) (HH : Hashes 13 H) (hkr : Row w key l) (hl : Byt l) (hll : l.length ≤ 100) (hP : P.length ≤ 9999) (hnow : 0 ≤ now ∧ now < 100000) (hf : 0 ≤ f ∧ f < 100000) (hx : aFind P l = some x) :
    Calls Try.prog 11 #[.pointer (some ⟨K, 0, none⟩), key] w fun e w' => e = .returned (.tuple #[.int .i64 x, .bool true]) ∧ ∃ F', KS w' base F' K mo 13 H (now + 1) (f + 1) m (aDel P l ++ [(l, x)]) ∧ Left base F w F' w' := by
  obtain ⟨M, es, c, BL, L, hp, rfl⟩ := h
  rw [List.length_map] at hP
  obtain ⟨e, heL, hek, hex⟩ := aFind_mem hx hp.dif
  obtain ⟨b, hb, heb⟩ := hp.of_L heL
  obtain ⟨j, hj⟩ := List.getElem?_of_mem heb
  have hjl := (List.getElem?_eq_some_iff.1 hj).1
  obtain ⟨g, cap, hv, hFg, hgK, hgM, hE, hown⟩ := hp.bok b hb
  have hbh : b.h = H l := by rw [← hek]; exact (hp.ent b hb e heb).2.2.1.symm
  obtain ⟨me, hme, hmk, hmv⟩ := me_of hp.map hb
  obtain ⟨jm, hjm⟩ := List.getElem?_of_mem hme
  obtain ⟨c0, c1, c2⟩ := cells_at b.E j e hj
  have hlb := len_le b BL hb
  rw [← hp.perm.length_eq] at hlb
  have hat := hp.at_call (w' := w) (by omega) hb (fun k _ _ => rfl) (Nat.le_refl _) hkr
  rw [hp.idx_here hb hj hl hek, hv] at hat
  rw [hv] at hown
  refine (get_hit13 w K M g b.E.length cap base j mo (H l) (L.length : Int) now f m e.x es c key e.last (b.E.flatMap Ent.cells) hjl c1 c2 hnow hf hp.kg l (Lib.hid hkr) (Lib.hid fun w' hr => HH w' key l hr hl hll) (by omega) hp.bK hp.bw hgK hgM hown
    (Lib.hid fun w' hm => by rw [lk_some w' M c es hp.keys (H l) hjm (by rw [hmk, hbh]) hm, hmv, hv]) (Lib.hid hat)).mono ?_
  rintro e' w' ⟨rfl, hB, hkg, hown', hfr⟩
  rw [cells_set2 _ _ _ _ hj, ← hv] at hown'
  obtain ⟨BL2, L2, h2, h3⟩ := hp.swap hb hj hv e.x hB.size hfr hkg hown'
  rw [hek, hex] at h3
  refine ⟨by rw [hex], _, ⟨M, es, c, BL2, L2, h2, h3.symm⟩, hB, fun k k1 k2 => hfr k k1 (fun e => k2 (by rw [e]; exact hp.fK)) (fun e => k2 (by rw [e]; exact hFg)), fun k hk => ?_⟩
  rcases hk with hk | hk
  · exact Or.inl hk
  · exact Or.inr hk.1
theorem get_ks13_none (w : World) (base : Nat) (F : Nat → Prop) (K : Nat) (mo : Int) (H : List Int → Int) (now f m : Int) (P : List (List Int × Int)) (key : Value) (l : List Int) (h : KS w base F K mo 13 H now f m P) (HH : Hashes 13 H) (hkr : Row w key l) (hl : Byt l) (hll : l.length ≤ 100) (hP : P.length ≤ 9999) (hm : 0 ≤ m ∧ m < 100000) (hx : aFind P l = none) :
    Calls Try.prog 11 #[.pointer (some ⟨K, 0, none⟩), key] w fun e w' => e = .returned (.tuple #[.int .i64 0, .bool false]) ∧ ∃ F', KS w' base F' K mo 13 H now f (m + 1) P ∧ Left base F w F' w' := by
  obtain ⟨M, es, c, BL, L, hp, rfl⟩ := h
  rw [List.length_map] at hP
  have hnew := aFind_no hx hp.dif
  obtain ⟨v, nE, xs, es', c', hc⟩ := choose_bucket (H := H) (c := c) hp.map l
  refine (get_miss13 w K M base mo (H l) (L.length : Int) now f m es c v key hm hp.kg l (Lib.hid hkr) (Lib.hid fun w' hr => HH w' key l hr hl hll) hp.bK hp.bw (Lib.hid (hp.look hc)) (Lib.hid (hp.none_at (w' := w) (by omega) hl hnew hc (fun k _ _ => rfl) (Nat.le_refl _) hkr))).mono ?_
  rintro e' w' ⟨rfl, hB, hkg, hfr⟩
  refine ⟨rfl, F, ⟨M, es, c, BL, L, hp.mono hB.size (fun k hk hkK => hfr k (hp.fl k hk) hkK) hkg.1 (Int.le_refl _), rfl⟩, hB, fun k k1 k2 => hfr k k1 (fun e => k2 (by rw [e]; exact hp.fK)), fun k hk => Or.inl hk⟩
theorem put_ks13 (w : World) (base : Nat) (F : Nat → Prop) (K : Nat) (mo : Int) (H : List Int → Int) (now f m : Int) (P : List (List Int × Int)) (key : Value) (l : List Int) (x : Int) (h : KS w base F K mo 13 H now f m P) (HH : Hashes 13 H) (hkr : Row w key l) (hl : Byt l) (hll : l.length ≤ 100) (hkF : ∀ g, kblk key l = some g → ¬ F g) (hP : P.length ≤ 9999) (hmo : 1 ≤ mo) (hnow : 0 ≤ now ∧ now < 100000) :
    Calls Try.prog 10 #[.pointer (some ⟨K, 0, none⟩), key, .int .i64 x] w fun e w' => e = .returned (.int .i64 0) ∧ ∃ F', KS w' base F' K mo 13 H (now + 1) f m (aPut mo P l x) ∧ Left base F w F' w' := by
  obtain ⟨M, es, c, BL, L, hp, rfl⟩ := h
  rw [List.length_map] at hP
  have hkK : kblk key l ≠ some K := fun hc => hkF K hc hp.fK
  unfold aPut
  cases hx : aFind (L.map pr) l with
  | some x0 =>
    obtain ⟨e, heL, hek, hex⟩ := aFind_mem hx hp.dif
    obtain ⟨b, hb, heb⟩ := hp.of_L heL
    obtain ⟨j, hj⟩ := List.getElem?_of_mem heb
    have hjl := (List.getElem?_eq_some_iff.1 hj).1
    obtain ⟨g, cap, hv, hFg, hgK, hgM, hE, hown⟩ := hp.bok b hb
    have hbh : b.h = H l := by rw [← hek]; exact (hp.ent b hb e heb).2.2.1.symm
    obtain ⟨me, hme, hmk, hmv⟩ := me_of hp.map hb
    obtain ⟨jm, hjm⟩ := List.getElem?_of_mem hme
    obtain ⟨c0, c1, c2⟩ := cells_at b.E j e hj
    have hlb := len_le b BL hb
    rw [← hp.perm.length_eq] at hlb
    rw [hv] at hown
    refine (put_hit13 w K M g b.E.length cap base j mo (H l) (L.length : Int) now f m x es c key e.x e.last (b.E.flatMap Ent.cells) hjl c1 c2 hnow hp.kg l (Lib.hid hkr) hkK (Lib.hid fun w' hr => HH w' key l hr hl hll) (by omega) hp.bK hp.bw hgK hgM hown
      (Lib.hid fun w' hm => by rw [lk_some w' M c es hp.keys (H l) hjm (by rw [hmk, hbh]) hm, hmv, hv])
      (Lib.hid fun w' hf hs => by
        have hat := hp.at_call (w' := w') (by omega) hb (fun k _ hk => hf k hk) (by omega) (hkr.atk (fun g hg => hf g (fun e => hkK (by rw [hg, e]))) (by omega))
        rw [hp.idx_here hb hj hl hek, hv] at hat
        exact hat)).mono ?_
    rintro e' w' ⟨rfl, hB, hkg, hown', hfr⟩
    have hj1 : (b.E.set j { e with x := x })[j]? = some { e with x := x } := by rw [List.getElem?_set, if_pos rfl, if_pos hjl]
    rw [cells_set1 _ _ _ _ hj, cells_set2 _ _ _ _ hj1, List.set_set, ← hv] at hown'
    obtain ⟨BL2, L2, h2, h3⟩ := hp.swap hb hj hv x hB.size hfr hkg hown'
    rw [hek] at h3
    refine ⟨rfl, _, ⟨M, es, c, BL2, L2, h2, h3.symm⟩, hB, fun k k1 k2 => hfr k k1 (fun e => k2 (by rw [e]; exact hp.fK)) (fun e => k2 (by rw [e]; exact hFg)), fun k hk => ?_⟩
    rcases hk with hk | hk
    · exact Or.inl hk
    · exact Or.inr hk.1
  | none =>
    have hnew := aFind_no hx hp.dif
    obtain ⟨v0, nE0, xs0, es0', c0', hc0⟩ := choose_bucket (H := H) (c := c) hp.map l
    refine (put_miss13 w K M mo (H l) (L.length : Int) now f m es c v0 key l x ⟨by omega, by omega⟩ hnow hp.kg hkK (Lib.hid fun w' hr => HH w' key l hr hl hll) hkr (by omega) base hp.bK hp.bw (Lib.hid (hp.look hc0))
      (Lib.hid fun w' hf hs => hp.none_at (w' := w') (by omega) hl hnew hc0 (fun k _ hk => hf k hk) (by omega) (hkr.atk (fun g hg => hf g (fun e => hkK (by rw [hg, e]))) (by omega)))
      (fun w3 es3 c3 v nE xs es' c' n' => ∃ F3 BL3 L3, KParts w3 base F3 K M mo 13 H (now + 1) f m es3 c3 BL3 L3 ∧ n' = (L3.length : Int) ∧ L3.map pr = (if mo ≤ ((L.map pr).length : Int) then (L.map pr).tail else L.map pr) ∧ Left base F w F3 w3 ∧ (∀ e ∈ L3, e.kb ≠ l) ∧ (∀ e ∈ L3, e.last < now + 1) ∧ L3.length ≤ 99998 ∧ Row w3 key l ∧ Choice H es3 c3 BL3 l v nE xs es' c')
      ?_ ?_ ?_).mono ?_
    · refine Lib.hid ?_
      rintro w3 es3 c3 v nE xs es' c' n' ⟨F3, BL3, L3, h1, rfl, h3, h4, h5, h6, h7, h8, h9⟩
      exact h1.ready h7 h9 h8
    · refine Lib.hid fun hlt w2 hkc hB hfr => ?_
      have h2 : KParts w2 base F K M mo 13 H (now + 1) f m es c BL L := hp.mono hB.size (fun k hk hkK => hfr k (hp.fl k hk) hkK) hkc (by omega)
      refine ⟨es, c, v0, nE0, xs0, es0', c0', (L.length : Int), F, BL, L, h2, rfl, ?_, ⟨hB, fun k k1 k2 => hfr k k1 (fun e => k2 (by rw [e]; exact hp.fK)), fun k hk => Or.inl hk⟩, hnew, fun e he => by have := hp.lst e he; omega, by omega, hkr.atk (fun g hg => hfr g (hkr.ltk g hg) (fun e => hkK (by rw [hg, e]))) hB.size, hc0⟩
      rw [if_neg (by rw [List.length_map]; omega)]
    · refine Lib.hid fun hle w2 hkc hB hfr => ?_
      have h2 : KParts w2 base F K M mo 13 H (now + 1) f m es c BL L := hp.mono hB.size (fun k hk hkK => hfr k (hp.fl k hk) hkK) hkc (by omega)
      have hkr2 : Row w2 key l := hkr.atk (fun g hg => hfr g (hkr.ltk g hg) (fun e => hkK (by rw [hg, e]))) hB.size
      have hne : ∃ b ∈ BL, b.E ≠ [] := by
        cases hL : L with
        | nil => rw [hL] at hle; simp at hle; omega
        | cons a r =>
          obtain ⟨b, hb, hab⟩ := hp.of_L (e := a) (by rw [hL]; simp)
          exact ⟨b, hb, fun hc => by rw [hc] at hab; simp at hab⟩
      refine (drive_any w2 K M mo 13 (L.length : Int) (now + 1) f m es c base BL ⟨by omega, by omega⟩ h2.kg hp.bK hp.bM h2.bw (Lib.hid h2.old) (Lib.hid h2.nd) (Lib.hid h2.keys) (Lib.hid h2.map) (Lib.hid (h2.bin (by omega))) (Lib.hid h2.hinj) (Lib.hid hne)
        (Lib.hid fun b hb => by obtain ⟨g, cap, i1, i2, i3, i4, i5, i6⟩ := h2.bok b hb; exact i6)
        (Lib.hid fun b hb => by obtain ⟨g, cap, i1, i2, i3, i4, i5, i6⟩ := h2.bok b hb; rw [i1]; exact ⟨fun e => i3 (Option.some.inj e), fun e => i4 (Option.some.inj e)⟩)).mono ?_
      rintro e w3 ⟨rfl, b, hb, i, e0, g, cap, j, me, hi, hmin, hv, hj, hk, hmv, hB3, hfr3, hown3, hkg3⟩
      obtain ⟨es3, BL3, L3, h3, h4⟩ := h2.less hb hi hmin hv hj hk hB3.size hfr3 hown3 hkg3
      obtain ⟨v, nE, xs, es', c', hc⟩ := choose_bucket (H := H) (c := c) h3.map l
      have hFg : F g := by
        obtain ⟨g', cap', i1, i2, -⟩ := h2.bok b hb
        rw [hv] at i1
        simp at i1
        rw [i1.1]; exact i2
      have hsub : ∀ q ∈ L3, q ∈ L := fun q hq => by rw [h4] at hq; exact List.mem_of_mem_tail hq
      refine ⟨rfl, es3, c, v, nE, xs, es', c', (L3.length : Int), _, BL3, L3, h3, rfl, ?_, ?_, ?_, ?_, ?_, ?_, hc⟩
      · rw [if_pos (by rw [List.length_map]; exact hle), h4, List.map_tail]
      · refine Left.trans (F2 := F) (w2 := w2) ⟨hB, fun k k1 k2 => hfr k k1 (fun e => k2 (by rw [e]; exact hp.fK)), fun k hk => Or.inl hk⟩ ⟨hB3, fun k k1 k2 => hfr3 k k1 (fun e => k2 (by rw [e]; exact hp.fK)) (fun e => k2 (by rw [e]; exact hp.fM)) (fun e => k2 (by rw [e]; exact hFg)), fun k hk => ?_⟩
        rcases hk with hk | hk
        · exact Or.inl hk
        · exact Or.inr hk.1
      · exact fun e he => hnew e (hsub e he)
      · exact fun e he => by have := hp.lst e (hsub e he); omega
      · rw [h4, List.length_tail]; omega
      · exact hkr2.atk (fun g' hg' => hfr3 g' (hkr2.ltk g' hg') (fun e => hkK (by rw [hg', e])) (fun e => hkF M (by rw [hg', e]) hp.fM) (fun e => hkF g' hg' (by rw [e]; exact hFg))) hB3.size
    · rintro e w' ⟨rfl, w3, es3, c3, v, nE, xs, es', c', n', ⟨F3, BL3, L3, h1, rfl, h3, h4, h5, h6, h7, h8, h9⟩, PE⟩
      have hd := h1.put_done hl h5 h6 h9 PE
      rw [h3] at hd
      exact ⟨rfl, _, hd, h4.trans (h1.put_left h9 PE)⟩
theorem get_ks14_some (w : World) (base : Nat) (F : Nat → Prop) (K : Nat) (mo : Int) (H : List Int → Int) (now f m : Int) (P : List (List Int × Int)) (key : Value) (l : List Int) (x : Int) (h : KS w base F K mo 14 H now f m P) (HH : Hashes 14 H) (hkr : Row w key l) (hl : Byt l) (hll : l.length ≤ 100) (hP : P.length ≤ 9999) (hnow : 0 ≤ now ∧ now < 100000) (hf : 0 ≤ f ∧ f < 100000) (hx : aFind P l = some x) :
    Calls Try.prog 11 #[.pointer (some ⟨K, 0, none⟩), key] w fun e w' => e = .returned (.tuple #[.int .i64 x, .bool true]) ∧ ∃ F', KS w' base F' K mo 14 H (now + 1) (f + 1) m (aDel P l ++ [(l, x)]) ∧ Left base F w F' w' := by
  obtain ⟨M, es, c, BL, L, hp, rfl⟩ := h
  rw [List.length_map] at hP
  obtain ⟨e, heL, hek, hex⟩ := aFind_mem hx hp.dif
  obtain ⟨b, hb, heb⟩ := hp.of_L heL
  obtain ⟨j, hj⟩ := List.getElem?_of_mem heb
  have hjl := (List.getElem?_eq_some_iff.1 hj).1
  obtain ⟨g, cap, hv, hFg, hgK, hgM, hE, hown⟩ := hp.bok b hb
  have hbh : b.h = H l := by rw [← hek]; exact (hp.ent b hb e heb).2.2.1.symm
  obtain ⟨me, hme, hmk, hmv⟩ := me_of hp.map hb
  obtain ⟨jm, hjm⟩ := List.getElem?_of_mem hme
  obtain ⟨c0, c1, c2⟩ := cells_at b.E j e hj
  have hlb := len_le b BL hb
  rw [← hp.perm.length_eq] at hlb
  have hat := hp.at_call (w' := w) (by omega) hb (fun k _ _ => rfl) (Nat.le_refl _) hkr
  rw [hp.idx_here hb hj hl hek, hv] at hat
  rw [hv] at hown
  refine (get_hit14 w K M g b.E.length cap base j mo (H l) (L.length : Int) now f m e.x es c key e.last (b.E.flatMap Ent.cells) hjl c1 c2 hnow hf hp.kg l (Lib.hid hkr) (Lib.hid fun w' hr => HH w' key l hr hl hll) (by omega) hp.bK hp.bw hgK hgM hown
    (Lib.hid fun w' hm => by rw [lk_some w' M c es hp.keys (H l) hjm (by rw [hmk, hbh]) hm, hmv, hv]) (Lib.hid hat)).mono ?_
  rintro e' w' ⟨rfl, hB, hkg, hown', hfr⟩
  rw [cells_set2 _ _ _ _ hj, ← hv] at hown'
  obtain ⟨BL2, L2, h2, h3⟩ := hp.swap hb hj hv e.x hB.size hfr hkg hown'
  rw [hek, hex] at h3
  refine ⟨by rw [hex], _, ⟨M, es, c, BL2, L2, h2, h3.symm⟩, hB, fun k k1 k2 => hfr k k1 (fun e => k2 (by rw [e]; exact hp.fK)) (fun e => k2 (by rw [e]; exact hFg)), fun k hk => ?_⟩
  rcases hk with hk | hk
  · exact Or.inl hk
  · exact Or.inr hk.1
theorem get_ks14_none (w : World) (base : Nat) (F : Nat → Prop) (K : Nat) (mo : Int) (H : List Int → Int) (now f m : Int) (P : List (List Int × Int)) (key : Value) (l : List Int) (h : KS w base F K mo 14 H now f m P) (HH : Hashes 14 H) (hkr : Row w key l) (hl : Byt l) (hll : l.length ≤ 100) (hP : P.length ≤ 9999) (hm : 0 ≤ m ∧ m < 100000) (hx : aFind P l = none) :
    Calls Try.prog 11 #[.pointer (some ⟨K, 0, none⟩), key] w fun e w' => e = .returned (.tuple #[.int .i64 0, .bool false]) ∧ ∃ F', KS w' base F' K mo 14 H now f (m + 1) P ∧ Left base F w F' w' := by
  obtain ⟨M, es, c, BL, L, hp, rfl⟩ := h
  rw [List.length_map] at hP
  have hnew := aFind_no hx hp.dif
  obtain ⟨v, nE, xs, es', c', hc⟩ := choose_bucket (H := H) (c := c) hp.map l
  refine (get_miss14 w K M base mo (H l) (L.length : Int) now f m es c v key hm hp.kg l (Lib.hid hkr) (Lib.hid fun w' hr => HH w' key l hr hl hll) hp.bK hp.bw (Lib.hid (hp.look hc)) (Lib.hid (hp.none_at (w' := w) (by omega) hl hnew hc (fun k _ _ => rfl) (Nat.le_refl _) hkr))).mono ?_
  rintro e' w' ⟨rfl, hB, hkg, hfr⟩
  refine ⟨rfl, F, ⟨M, es, c, BL, L, hp.mono hB.size (fun k hk hkK => hfr k (hp.fl k hk) hkK) hkg.1 (Int.le_refl _), rfl⟩, hB, fun k k1 k2 => hfr k k1 (fun e => k2 (by rw [e]; exact hp.fK)), fun k hk => Or.inl hk⟩
theorem put_ks14 (w : World) (base : Nat) (F : Nat → Prop) (K : Nat) (mo : Int) (H : List Int → Int) (now f m : Int) (P : List (List Int × Int)) (key : Value) (l : List Int) (x : Int) (h : KS w base F K mo 14 H now f m P) (HH : Hashes 14 H) (hkr : Row w key l) (hl : Byt l) (hll : l.length ≤ 100) (hkF : ∀ g, kblk key l = some g → ¬ F g) (hP : P.length ≤ 9999) (hmo : 1 ≤ mo) (hnow : 0 ≤ now ∧ now < 100000) :
    Calls Try.prog 10 #[.pointer (some ⟨K, 0, none⟩), key, .int .i64 x] w fun e w' => e = .returned (.int .i64 0) ∧ ∃ F', KS w' base F' K mo 14 H (now + 1) f m (aPut mo P l x) ∧ Left base F w F' w' := by
  obtain ⟨M, es, c, BL, L, hp, rfl⟩ := h
  rw [List.length_map] at hP
  have hkK : kblk key l ≠ some K := fun hc => hkF K hc hp.fK
  unfold aPut
  cases hx : aFind (L.map pr) l with
  | some x0 =>
    obtain ⟨e, heL, hek, hex⟩ := aFind_mem hx hp.dif
    obtain ⟨b, hb, heb⟩ := hp.of_L heL
    obtain ⟨j, hj⟩ := List.getElem?_of_mem heb
    have hjl := (List.getElem?_eq_some_iff.1 hj).1
    obtain ⟨g, cap, hv, hFg, hgK, hgM, hE, hown⟩ := hp.bok b hb
    have hbh : b.h = H l := by rw [← hek]; exact (hp.ent b hb e heb).2.2.1.symm
    obtain ⟨me, hme, hmk, hmv⟩ := me_of hp.map hb
    obtain ⟨jm, hjm⟩ := List.getElem?_of_mem hme
    obtain ⟨c0, c1, c2⟩ := cells_at b.E j e hj
    have hlb := len_le b BL hb
    rw [← hp.perm.length_eq] at hlb
    rw [hv] at hown
    refine (put_hit14 w K M g b.E.length cap base j mo (H l) (L.length : Int) now f m x es c key e.x e.last (b.E.flatMap Ent.cells) hjl c1 c2 hnow hp.kg l (Lib.hid hkr) hkK (Lib.hid fun w' hr => HH w' key l hr hl hll) (by omega) hp.bK hp.bw hgK hgM hown
      (Lib.hid fun w' hm => by rw [lk_some w' M c es hp.keys (H l) hjm (by rw [hmk, hbh]) hm, hmv, hv])
      (Lib.hid fun w' hf hs => by
        have hat := hp.at_call (w' := w') (by omega) hb (fun k _ hk => hf k hk) (by omega) (hkr.atk (fun g hg => hf g (fun e => hkK (by rw [hg, e]))) (by omega))
        rw [hp.idx_here hb hj hl hek, hv] at hat
        exact hat)).mono ?_
    rintro e' w' ⟨rfl, hB, hkg, hown', hfr⟩
    have hj1 : (b.E.set j { e with x := x })[j]? = some { e with x := x } := by rw [List.getElem?_set, if_pos rfl, if_pos hjl]
    rw [cells_set1 _ _ _ _ hj, cells_set2 _ _ _ _ hj1, List.set_set, ← hv] at hown'
    obtain ⟨BL2, L2, h2, h3⟩ := hp.swap hb hj hv x hB.size hfr hkg hown'
    rw [hek] at h3
    refine ⟨rfl, _, ⟨M, es, c, BL2, L2, h2, h3.symm⟩, hB, fun k k1 k2 => hfr k k1 (fun e => k2 (by rw [e]; exact hp.fK)) (fun e => k2 (by rw [e]; exact hFg)), fun k hk => ?_⟩
    rcases hk with hk | hk
    · exact Or.inl hk
    · exact Or.inr hk.1
  | none =>
    have hnew := aFind_no hx hp.dif
    obtain ⟨v0, nE0, xs0, es0', c0', hc0⟩ := choose_bucket (H := H) (c := c) hp.map l
    refine (put_miss14 w K M mo (H l) (L.length : Int) now f m es c v0 key l x ⟨by omega, by omega⟩ hnow hp.kg hkK (Lib.hid fun w' hr => HH w' key l hr hl hll) hkr (by omega) base hp.bK hp.bw (Lib.hid (hp.look hc0))
      (Lib.hid fun w' hf hs => hp.none_at (w' := w') (by omega) hl hnew hc0 (fun k _ hk => hf k hk) (by omega) (hkr.atk (fun g hg => hf g (fun e => hkK (by rw [hg, e]))) (by omega)))
      (fun w3 es3 c3 v nE xs es' c' n' => ∃ F3 BL3 L3, KParts w3 base F3 K M mo 14 H (now + 1) f m es3 c3 BL3 L3 ∧ n' = (L3.length : Int) ∧ L3.map pr = (if mo ≤ ((L.map pr).length : Int) then (L.map pr).tail else L.map pr) ∧ Left base F w F3 w3 ∧ (∀ e ∈ L3, e.kb ≠ l) ∧ (∀ e ∈ L3, e.last < now + 1) ∧ L3.length ≤ 99998 ∧ Row w3 key l ∧ Choice H es3 c3 BL3 l v nE xs es' c')
      ?_ ?_ ?_).mono ?_
    · refine Lib.hid ?_
      rintro w3 es3 c3 v nE xs es' c' n' ⟨F3, BL3, L3, h1, rfl, h3, h4, h5, h6, h7, h8, h9⟩
      exact h1.ready h7 h9 h8
    · refine Lib.hid fun hlt w2 hkc hB hfr => ?_
      have h2 : KParts w2 base F K M mo 14 H (now + 1) f m es c BL L := hp.mono hB.size (fun k hk hkK => hfr k (hp.fl k hk) hkK) hkc (by omega)
      refine ⟨es, c, v0, nE0, xs0, es0', c0', (L.length : Int), F, BL, L, h2, rfl, ?_, ⟨hB, fun k k1 k2 => hfr k k1 (fun e => k2 (by rw [e]; exact hp.fK)), fun k hk => Or.inl hk⟩, hnew, fun e he => by have := hp.lst e he; omega, by omega, hkr.atk (fun g hg => hfr g (hkr.ltk g hg) (fun e => hkK (by rw [hg, e]))) hB.size, hc0⟩
      rw [if_neg (by rw [List.length_map]; omega)]
    · refine Lib.hid fun hle w2 hkc hB hfr => ?_
      have h2 : KParts w2 base F K M mo 14 H (now + 1) f m es c BL L := hp.mono hB.size (fun k hk hkK => hfr k (hp.fl k hk) hkK) hkc (by omega)
      have hkr2 : Row w2 key l := hkr.atk (fun g hg => hfr g (hkr.ltk g hg) (fun e => hkK (by rw [hg, e]))) hB.size
      have hne : ∃ b ∈ BL, b.E ≠ [] := by
        cases hL : L with
        | nil => rw [hL] at hle; simp at hle; omega
        | cons a r =>
          obtain ⟨b, hb, hab⟩ := hp.of_L (e := a) (by rw [hL]; simp)
          exact ⟨b, hb, fun hc => by rw [hc] at hab; simp at hab⟩
      refine (drive_any w2 K M mo 14 (L.length : Int) (now + 1) f m es c base BL ⟨by omega, by omega⟩ h2.kg hp.bK hp.bM h2.bw (Lib.hid h2.old) (Lib.hid h2.nd) (Lib.hid h2.keys) (Lib.hid h2.map) (Lib.hid (h2.bin (by omega))) (Lib.hid h2.hinj) (Lib.hid hne)
        (Lib.hid fun b hb => by obtain ⟨g, cap, i1, i2, i3, i4, i5, i6⟩ := h2.bok b hb; exact i6)
        (Lib.hid fun b hb => by obtain ⟨g, cap, i1, i2, i3, i4, i5, i6⟩ := h2.bok b hb; rw [i1]; exact ⟨fun e => i3 (Option.some.inj e), fun e => i4 (Option.some.inj e)⟩)).mono ?_
      rintro e w3 ⟨rfl, b, hb, i, e0, g, cap, j, me, hi, hmin, hv, hj, hk, hmv, hB3, hfr3, hown3, hkg3⟩
      obtain ⟨es3, BL3, L3, h3, h4⟩ := h2.less hb hi hmin hv hj hk hB3.size hfr3 hown3 hkg3
      obtain ⟨v, nE, xs, es', c', hc⟩ := choose_bucket (H := H) (c := c) h3.map l
      have hFg : F g := by
        obtain ⟨g', cap', i1, i2, -⟩ := h2.bok b hb
        rw [hv] at i1
        simp at i1
        rw [i1.1]; exact i2
      have hsub : ∀ q ∈ L3, q ∈ L := fun q hq => by rw [h4] at hq; exact List.mem_of_mem_tail hq
      refine ⟨rfl, es3, c, v, nE, xs, es', c', (L3.length : Int), _, BL3, L3, h3, rfl, ?_, ?_, ?_, ?_, ?_, ?_, hc⟩
      · rw [if_pos (by rw [List.length_map]; exact hle), h4, List.map_tail]
      · refine Left.trans (F2 := F) (w2 := w2) ⟨hB, fun k k1 k2 => hfr k k1 (fun e => k2 (by rw [e]; exact hp.fK)), fun k hk => Or.inl hk⟩ ⟨hB3, fun k k1 k2 => hfr3 k k1 (fun e => k2 (by rw [e]; exact hp.fK)) (fun e => k2 (by rw [e]; exact hp.fM)) (fun e => k2 (by rw [e]; exact hFg)), fun k hk => ?_⟩
        rcases hk with hk | hk
        · exact Or.inl hk
        · exact Or.inr hk.1
      · exact fun e he => hnew e (hsub e he)
      · exact fun e he => by have := hp.lst e (hsub e he); omega
      · rw [h4, List.length_tail]; omega
      · exact hkr2.atk (fun g' hg' => hfr3 g' (hkr2.ltk g' hg') (fun e => hkK (by rw [hg', e])) (fun e => hkF M (by rw [hg', e]) hp.fM) (fun e => hkF g' hg' (by rw [e]; exact hFg))) hB3.size
    · rintro e w' ⟨rfl, w3, es3, c3, v, nE, xs, es', c', n', ⟨F3, BL3, L3, h1, rfl, h3, h4, h5, h6, h7, h8, h9⟩, PE⟩
      have hd := h1.put_done hl h5 h6 h9 PE
      rw [h3] at hd
      exact ⟨rfl, _, hd, h4.trans (h1.put_left h9 PE)⟩
end Go.Proofs.Ytebldhppnacdjab
