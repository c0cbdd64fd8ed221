/- KeepPlays: the calls of a round, at the keep and the law's own list. -/
import Derived.Test.YtebldhppnacdjabPc
import Derived.Test.YtebldhppnacdjabKz
set_option linter.unusedVariables false
namespace Go.Proofs.Ytebldhppnacdjab
open Go.RowKit
theorem cell_of_row_fr {w : World} {g j : Nat} {cs : Array Value} {t : TypeId} {fr : Nat × Nat} (h : w.heap[g]? = some (.cells cs t fr)) : w.cell? ⟨g, j, none⟩ = cs[j]? := by
  unfold World.cell?
  rw [h]
  rfl
theorem frozen_of_row_fr {w : World} {g j a b : Nat} {cs : Array Value} {t : TypeId} (h : w.heap[g]? = some (.cells cs t (a, b))) (hj : j < a) : w.frozen? ⟨g, j, none⟩ = false := by
  unfold World.frozen?
  rw [h]
  simp
  omega
abbrev PutC (N : Nat) (H : List Int → Int) : Prop := ∀ (w : World) (base : Nat) (F : Nat → Prop) (K : Nat) (mo : Int) (now f m : Int) (P : List (List Int × Int)) (key : Value) (l : List Int) (x : Int), KS w base F K mo N H now f m P → Row w key l → Byt l → l.length ≤ 100 → (∀ g, kblk key l = some g → ¬ F g) → P.length ≤ 9999 → 1 ≤ mo → (0 ≤ now ∧ now < 100000) →
    Calls Try.prog 10 #[.pointer (some ⟨K, 0, none⟩), key, .int .i64 x] w fun e w' => e = .returned (.int .i64 0) ∧ ∃ F', KS w' base F' K mo N H (now + 1) f m (aPut mo P l x) ∧ Left base F w F' w'
abbrev GetS (N : Nat) (H : List Int → Int) : Prop := ∀ (w : World) (base : Nat) (F : Nat → Prop) (K : Nat) (mo : Int) (now f m : Int) (P : List (List Int × Int)) (key : Value) (l : List Int) (x : Int), KS w base F K mo N H now f m P → Row w key l → Byt l → l.length ≤ 100 → P.length ≤ 9999 → (0 ≤ now ∧ now < 100000) → (0 ≤ f ∧ f < 100000) → aFind P l = some x →
    Calls Try.prog 11 #[.pointer (some ⟨K, 0, none⟩), key] w fun e w' => e = .returned (.tuple #[.int .i64 x, .bool true]) ∧ ∃ F', KS w' base F' K mo N H (now + 1) (f + 1) m (aDel P l ++ [(l, x)]) ∧ Left base F w F' w'
abbrev GetN (N : Nat) (H : List Int → Int) : Prop := ∀ (w : World) (base : Nat) (F : Nat → Prop) (K : Nat) (mo : Int) (now f m : Int) (P : List (List Int × Int)) (key : Value) (l : List Int), KS w base F K mo N H now f m P → Row w key l → Byt l → l.length ≤ 100 → P.length ≤ 9999 → (0 ≤ m ∧ m < 100000) → aFind P l = none →
    Calls Try.prog 11 #[.pointer (some ⟨K, 0, none⟩), key] w fun e w' => e = .returned (.tuple #[.int .i64 0, .bool false]) ∧ ∃ F', KS w' base F' K mo N H now f (m + 1) P ∧ Left base F w F' w'
theorem putC9 : PutC 9 (fun _ => 7) := fun w base F K mo now f m P key l x h hr hb hl hk hP hmo hn => put_ks9 w base F K mo _ now f m P key l x h hashes9 hr hb hl hk hP hmo hn
theorem putC13 : PutC 13 keepHashes.hashI := fun w base F K mo now f m P key l x h hr hb hl hk hP hmo hn => put_ks13 w base F K mo _ now f m P key l x h hashes13 hr hb hl hk hP hmo hn
theorem putC14 : PutC 14 hash1 := fun w base F K mo now f m P key l x h hr hb hl hk hP hmo hn => put_ks14 w base F K mo _ now f m P key l x h hashes14 hr hb hl hk hP hmo hn
theorem getS9 : GetS 9 (fun _ => 7) := fun w base F K mo now f m P key l x h hr hb hl hP hn hf hx => get_ks9_some w base F K mo _ now f m P key l x h hashes9 hr hb hl hP hn hf hx
theorem getS13 : GetS 13 keepHashes.hashI := fun w base F K mo now f m P key l x h hr hb hl hP hn hf hx => get_ks13_some w base F K mo _ now f m P key l x h hashes13 hr hb hl hP hn hf hx
theorem getS14 : GetS 14 hash1 := fun w base F K mo now f m P key l x h hr hb hl hP hn hf hx => get_ks14_some w base F K mo _ now f m P key l x h hashes14 hr hb hl hP hn hf hx
theorem getN9 : GetN 9 (fun _ => 7) := fun w base F K mo now f m P key l h hr hb hl hP hm hx => get_ks9_none w base F K mo _ now f m P key l h hashes9 hr hb hl hP hm hx
theorem getN13 : GetN 13 keepHashes.hashI := fun w base F K mo now f m P key l h hr hb hl hP hm hx => get_ks13_none w base F K mo _ now f m P key l h hashes13 hr hb hl hP hm hx
theorem getN14 : GetN 14 hash1 := fun w base F K mo now f m P key l h hr hb hl hP hm hx => get_ks14_none w base F K mo _ now f m P key l h hashes14 hr hb hl hP hm hx
theorem KS.apart {w : World} {base : Nat} {F : Nat → Prop} {K : Nat} {mo : Int} {N : Nat} {H : List Int → Int} {now f m : Int} {P : List (List Int × Int)} (h : KS w base F K mo N H now f m P) : P.Pairwise (fun q q' => q.1 ≠ q'.1) ∧ ∀ q ∈ P, Byt q.1 := by
  obtain ⟨M, es, c, BL, L, hp, rfl⟩ := h
  refine ⟨List.pairwise_map.2 hp.dif, fun q hq => ?_⟩
  obtain ⟨e, he, rfl⟩ := List.mem_map.1 hq
  obtain ⟨b, hb, heb⟩ := hp.of_L he
  exact (hp.ent b hb e heb).2.1
section
variable {w0 w w' : World} {K : Nat} {mo : Int} {N : Nat} {H : List Int → Int} {s : Nat} {f m : Int} {P PK PM : List (List Int × Int)} {Mb : Nat} {v : Value} {Gs : List (Nat × Obj)}
theorem play_put (PUT : PutC N H) (h : Play w0 w K mo N H s f m PK PM Mb v Gs) (key : Value) (l : List Int) (x : Int) (hr : Row w key l) (hl : Byt l) (hll : l.length ≤ 100) (hk : ∀ g, kblk key l = some g → g < w0.heap.size ∨ ∃ o, (g, o) ∈ Gs) (hP : PK.length ≤ 9999) (hmo : 1 ≤ mo) (hs : s ≤ 9999) :
    Calls Try.prog 10 #[.pointer (some ⟨K, 0, none⟩), key, .int .i64 x] w fun e w' => e = .returned (.int .i64 0) ∧ Play w0 w' K mo N H (s + 1) f m (aPut mo PK l x) PM Mb v Gs := by
  obtain ⟨F, h⟩ := h
  obtain ⟨n, h1, h2, h3⟩ := h.k
  refine (PUT w w0.heap.size F K mo n f m PK key l x h1 hr hl hll (fun g hg hc => ?_) hP hmo (by omega)).mono ?_
  · rcases hk g hg with h4 | ⟨o, h4⟩
    · have := h.lo g hc; omega
    · exact (h.gs _ h4).2.1 hc
  · rintro e w' ⟨rfl, F', h5, h6⟩
    exact ⟨rfl, h.step ⟨_, h5, by omega, by omega⟩ h6⟩
theorem play_getS (GET : GetS N H) (h : Play w0 w K mo N H s f m PK PM Mb v Gs) (key : Value) (l : List Int) (x : Int) (hr : Row w key l) (hl : Byt l) (hll : l.length ≤ 100) (hP : PK.length ≤ 9999) (hs : s ≤ 9999) (hf : 0 ≤ f ∧ f < 100000) (hx : aFind PK l = some x) :
    Calls Try.prog 11 #[.pointer (some ⟨K, 0, none⟩), key] w fun e w' => e = .returned (.tuple #[.int .i64 x, .bool true]) ∧ Play w0 w' K mo N H (s + 1) (f + 1) m (aDel PK l ++ [(l, x)]) PM Mb v Gs := by
  obtain ⟨F, h⟩ := h
  obtain ⟨n, h1, h2, h3⟩ := h.k
  refine (GET w w0.heap.size F K mo n f m PK key l x h1 hr hl hll hP (by omega) hf hx).mono ?_
  rintro e w' ⟨rfl, F', h5, h6⟩
  exact ⟨rfl, h.step ⟨_, h5, by omega, by omega⟩ h6⟩
theorem play_getN (GET : GetN N H) (h : Play w0 w K mo N H s f m PK PM Mb v Gs) (key : Value) (l : List Int) (hr : Row w key l) (hl : Byt l) (hll : l.length ≤ 100) (hP : PK.length ≤ 9999) (hm : 0 ≤ m ∧ m < 100000) (hx : aFind PK l = none) :
    Calls Try.prog 11 #[.pointer (some ⟨K, 0, none⟩), key] w fun e w' => e = .returned (.tuple #[.int .i64 0, .bool false]) ∧ Play w0 w' K mo N H s f (m + 1) PK PM Mb v Gs := by
  obtain ⟨F, h⟩ := h
  obtain ⟨n, h1, h2, h3⟩ := h.k
  refine (GET w w0.heap.size F K mo n f m PK key l h1 hr hl hll hP hm hx).mono ?_
  rintro e w' ⟨rfl, F', h5, h6⟩
  exact ⟨rfl, h.step ⟨_, h5, by omega, by omega⟩ h6⟩
theorem play_drop (h : Play w0 w K mo N H s f m PK PM Mb v Gs) : Calls Try.prog 16 #[.pointer (some ⟨K, 0, none⟩)] w fun e w' => e = .returned (.tuple #[]) ∧ Play w0 w' K mo N H s f m [] PM Mb v Gs := by
  obtain ⟨F, h⟩ := h
  obtain ⟨n, h1, h2, h3⟩ := h.k
  refine (drop_ks w _ F K mo N H n f m PK h1).mono ?_
  rintro e w' ⟨rfl, F', h5, h6⟩
  exact ⟨rfl, h.step ⟨_, h5, by omega, by omega⟩ h6⟩
theorem play_hits (h : Play w0 w K mo N H s f m PK PM Mb v Gs) : Calls Try.prog 17 #[.pointer (some ⟨K, 0, none⟩)] w fun e w' => e = .returned (.tuple #[.int .i64 f, .int .i64 m]) ∧ Play w0 w' K mo N H s f m PK PM Mb v Gs := by
  obtain ⟨F, h0⟩ := h
  obtain ⟨n, h1, h2, h3⟩ := h0.k
  refine (hits_ks w _ F K mo N H n f m PK h1).mono ?_
  rintro e w' ⟨rfl, h5, h6⟩
  exact ⟨rfl, Play.same ⟨F, h0⟩ h6 h5⟩
theorem play_len (h : Play w0 w K mo N H s f m PK PM Mb v Gs) : Calls Try.prog 12 #[.pointer (some ⟨K, 0, none⟩)] w fun e w' => e = .returned (.int .i64 PK.length) ∧ w = w' := by
  obtain ⟨F, h0⟩ := h
  obtain ⟨n, h1, h2, h3⟩ := h0.k
  exact len_ks w _ F K mo N H n f m PK h1
/-- 'take', whatever the list. -/
theorem play_take (h : Play w0 w K mo N H s f m P P Mb v Gs) (l : List Int) (hl : Byt l) (hP : P.length ≤ 10000) : Calls Try.prog 15 #[.string (strOfNums l), .pointer (some ⟨Mb, 0, none⟩)] w fun e w' => TakeEnd w w0.heap.size Mb P l e w' := by
  obtain ⟨F, h⟩ := h
  obtain ⟨n, h1, h2, h3⟩ := h.k
  obtain ⟨hd, hb⟩ := h1.apart
  have hw := h.mw
  have hm := h.mh
  have hv := h.vf
  rcases hw with ⟨rfl, rfl⟩ | ⟨g, off, cap, cur, rfl, e2, e3, e4, e5, e6, e7⟩
  · exact take_nil w w0.heap.size Mb l hm h.mlo h.be.size
  · exact take_any w w0.heap.size Mb g off cap P l hP h.mw hm (hv g rfl).2 hl hb hd h.mlo h.be.size
theorem play_takeS (h : Play w0 w K mo N H s f m P P Mb v Gs) (l : List Int) (x : Int) (hl : Byt l) (hP : P.length ≤ 10000) (hx : aFind P l = some x) : Calls Try.prog 15 #[.string (strOfNums l), .pointer (some ⟨Mb, 0, none⟩)] w fun e w' => e = .returned (.tuple #[.int .i64 x, .bool true]) ∧ ∃ g n c, Play w0 w' K mo N H s f m P (aDel P l) Mb (.slice (some g) n c) Gs := by
  refine (play_take h l hl hP).mono ?_
  rintro e w' ⟨hB, hfr, ⟨y, hy, rfl, g, n, c, hm, hw, hg⟩ | ⟨hy, -⟩⟩
  · rw [hx] at hy
    cases hy
    obtain ⟨F, h0⟩ := h
    exact ⟨rfl, g, n, c, h0.list hB (fun k h1 h2 _ => hfr k h1 h2) hm hw (fun g' hg' => by cases hg'; exact Or.inr hg)⟩
  · rw [hx] at hy; cases hy
theorem play_takeN (h : Play w0 w K mo N H s f m P P Mb v Gs) (l : List Int) (hl : Byt l) (hP : P.length ≤ 10000) (hx : aFind P l = none) : Calls Try.prog 15 #[.string (strOfNums l), .pointer (some ⟨Mb, 0, none⟩)] w fun e w' => e = .returned (.tuple #[.int .i64 0, .bool false]) ∧ Play w0 w' K mo N H s f m P P Mb v Gs := by
  refine (play_take h l hl hP).mono ?_
  rintro e w' ⟨hB, hfr, ⟨y, hy, -⟩ | ⟨hy, rfl, hm⟩⟩
  · rw [hx] at hy; cases hy
  · obtain ⟨F, h0⟩ := h
    have hMl : Mb < w.heap.size := (Array.getElem?_eq_some_iff.1 h0.mh).1
    exact ⟨rfl, h0.list hB (fun k h1 h2 _ => hfr k h1 h2) (hm.trans h0.mh) (h0.mw.keep (fun g hg => hfr g (h0.mw.lt g hg).2 (h0.vf g hg).2)) (fun g hg => Or.inl hg)⟩
/-- m = m[1:]. -/
theorem Play.tail {g : Addr} {n cap : Nat} (h : Play w0 w K mo N H s f m PK PM Mb (.slice (some g) n cap) Gs) (hn : 0 < n) : ∃ b off, g = ⟨b, off, none⟩ ∧ n = PM.length ∧ n ≤ cap ∧ Play w0 (w.setCell ⟨Mb, 0, none⟩ (.slice (some ⟨b, if cap = 1 then off else off + 2, none⟩) (n - 1) (cap - 1))) K mo N H s f m PK PM.tail Mb (.slice (some ⟨b, if cap = 1 then off else off + 2, none⟩) (n - 1) (cap - 1)) Gs := by
  obtain ⟨F, h⟩ := h
  have hw := h.mw
  obtain ⟨n', rfl⟩ : ∃ n', n = n' + 1 := ⟨n - 1, by omega⟩
  have hw2 := hw
  rcases hw with ⟨hc, -⟩ | ⟨b, off, cap', cur, hv, e2, e3, e4, e5, e6, e7⟩
  · simp at hc
  · simp only [Value.slice.injEq, Option.some.injEq] at hv
    obtain ⟨rfl, hn', rfl⟩ := hv
    obtain ⟨h1, h2, h3⟩ := win_tail hw2
    have hbM := (h.vf b rfl).2
    have hoff : ∀ k, k ≠ Mb → (w.setCell ⟨Mb, 0, none⟩ (.slice (some ⟨b, if cap = 1 then off else off + 2, none⟩) n' (cap - 1))).heap[k]? = w.heap[k]? := fun k hk => Below.heap_setCell _ _ _ _ (by simpa using hk)
    refine ⟨b, off, rfl, h1.symm, h2, ?_⟩
    rw [Nat.add_sub_cancel]
    refine h.list ((Below.refl _ _).setCell (p := ⟨Mb, 0, none⟩) h.mlo _) (fun k _ hk _ => hoff k hk) ?_ (h3.keep (fun g hg => by cases hg; exact hoff b hbM)) (fun g hg => Or.inl (by rw [← hg]; rfl))
    exact heap_setCell_same w Mb 0 _ 41 _ h.mh
/-- m = nil. -/
theorem Play.gone (h : Play w0 w K mo N H s f m PK PM Mb v Gs) : Play w0 (w.setCell ⟨Mb, 0, none⟩ (.slice none 0 0)) K mo N H s f m PK [] Mb (.slice none 0 0) Gs := by
  obtain ⟨F, h⟩ := h
  exact h.list ((Below.refl _ _).setCell (p := ⟨Mb, 0, none⟩) h.mlo _) (fun k _ hk _ => Below.heap_setCell _ _ _ _ (by simpa using hk)) (heap_setCell_same w Mb 0 _ 41 _ h.mh) (Or.inl ⟨rfl, rfl⟩) (fun g hg => by cases hg)
/-- m = append(m, pair{..}). -/
theorem Play.more {B : Nat} {q : List Int × Int} (h : Play w0 w K mo N H s f m PK PM Mb v ((B, .cells #[.string (strOfNums q.1), .int .i64 q.2] 43 (0, 0)) :: Gs)) (hP : PM.length ≤ 100000) (c : Nat) (ty : TypeId) :
    ∃ a n c' w', (Builtin.append_ #[41, 41] ty #[v, .slice (some ⟨B, 0, none⟩) 1 c]).run Try.prog w = .ok (.slice (some a) n c') w' ∧ w'.cell? ⟨Mb, 0, none⟩ = some v ∧ w'.frozen? ⟨Mb, 0, none⟩ = false ∧ Play w0 (w'.setCell ⟨Mb, 0, none⟩ (.slice (some a) n c')) K mo N H s f m PK (PM ++ [q]) Mb (.slice (some a) n c') Gs := by
  obtain ⟨F, h⟩ := h
  obtain ⟨b1, b2, b3, b4, b5⟩ := h.gs _ (List.mem_cons_self ..)
  obtain ⟨v', w', r1, r2, ⟨a, n, c', rfl⟩, r4, r5, r6⟩ := win_append w w0.heap.size v PM h.mw hP h.be.size B c q b1 ty
  have hMl : Mb < w.heap.size := (Array.getElem?_eq_some_iff.1 h.mh).1
  have hvM : v.ownBlock ≠ some Mb := fun hc => (h.vf Mb hc).2 rfl
  have hm' : w'.heap[Mb]? = some (.cells #[v] 41 (0, 0)) := (r5 Mb hMl hvM).trans h.mh
  have hoff : ∀ k, k ≠ Mb → (w'.setCell ⟨Mb, 0, none⟩ (.slice (some a) n c')).heap[k]? = w'.heap[k]? := fun k hk => Below.heap_setCell _ _ _ _ (by simpa using hk)
  have h' : PlayC w0 w F K mo N H s f m PK PM Mb v Gs := { h with gs := fun p hp => h.gs p (List.mem_cons_of_mem _ hp) }
  refine ⟨a, n, c', w', r1, cell_of_one hm', frozen_of_row w' Mb 0 _ 41 hm', h'.list (r4.setCell (p := ⟨Mb, 0, none⟩) h.mlo _) (fun k h1 h2 h3 => (hoff k h2).trans (r5 k h1 h3)) (heap_setCell_same w' Mb 0 _ 41 _ hm') (r2.keep (fun g hg => hoff g ?_)) r6⟩
  rcases r6 g hg with h4 | h4
  · exact (h.vf g h4).2
  · omega
end
theorem Play.form {w0 w : World} {K : Nat} {mo : Int} {N : Nat} {H : List Int → Int} {s : Nat} {f m : Int} {PK PM : List (List Int × Int)} {Mb : Nat} {v : Value} {Gs : List (Nat × Obj)} (h : Play w0 w K mo N H s f m PK PM Mb v Gs) : ∃ ao c, v = .slice ao PM.length c ∧ PM.length ≤ c := by
  rcases h.win with ⟨rfl, rfl⟩ | ⟨g, off, cap, cur, rfl, e2, e3, e4, -⟩
  · exact ⟨_, 0, rfl, Nat.le_refl _⟩
  · exact ⟨_, _, rfl, e4⟩
theorem Play.count {w0 w : World} {K : Nat} {mo : Int} {N : Nat} {H : List Int → Int} {s : Nat} {f m : Int} {PK PM : List (List Int × Int)} {Mb : Nat} {ao : Option Addr} {n c : Nat} {Gs : List (Nat × Obj)} (h : Play w0 w K mo N H s f m PK PM Mb (.slice ao n c) Gs) : n = PM.length := by
  obtain ⟨a, c', he, -⟩ := h.form
  simp at he
  exact he.2.1
theorem Play.nil_len {w0 w : World} {K : Nat} {mo : Int} {N : Nat} {H : List Int → Int} {s : Nat} {f m : Int} {PK PM : List (List Int × Int)} {Mb : Nat} {n c : Nat} {Gs : List (Nat × Obj)} (h : Play w0 w K mo N H s f m PK PM Mb (.slice none n c) Gs) : n = 0 := by
  rcases h.win with ⟨he, -⟩ | ⟨g, off, cap, cur, he, -⟩
  · simp at he; exact he.1
  · simp at he
/-- a row of bytes, made of a string. -/
theorem Play.bytes {w0 w : World} {K : Nat} {mo : Int} {N : Nat} {H : List Int → Int} {s : Nat} {f m : Int} {PK PM : List (List Int × Int)} {Mb : Nat} {v : Value} {Gs : List (Nat × Obj)} (h : Play w0 w K mo N H s f m PK PM Mb v Gs) (st : ByteArray) :
    Play w0 (Lib.bytesWorld w 5 st) K mo N H s f m PK PM Mb v ((w.heap.size, .cells (Lib.bytesCells w 5 st) 5 ((Lib.bytesCells w 5 st).size, (Lib.bytesCells w 5 st).size + 1)) :: Gs) := by
  obtain ⟨F, h⟩ := h
  obtain ⟨n, h1, h2, h3⟩ := h.k
  have hMl : Mb < w.heap.size := (Array.getElem?_eq_some_iff.1 h.mh).1
  have hsz := Lib.bytesWorld_size w 5 st
  have hold := fun j (hj : j < w.heap.size) => Lib.bytesWorld_at_old w 5 st j hj
  exact ⟨F, {
    k := ⟨n, h1.keep (by omega) (fun k hk => hold k (h1.lt k hk)), h2, h3⟩
    lo := h.lo
    be := h.be.trans ⟨rfl, rfl, rfl, by omega, fun k hk => hold k (by have := h.be.size; omega)⟩
    mh := (hold Mb hMl).trans h.mh
    mf := h.mf
    mlo := h.mlo
    mw := h.mw.keep (fun g hg => hold g (h.mw.lt g hg).2)
    vf := h.vf
    gs := fun p hp => by
      rcases List.mem_cons.1 hp with rfl | hp
      · exact ⟨Lib.bytesWorld_at_new w 5 st, fun hc => by have := h1.lt _ hc; simp at this, by show w.heap.size ≠ Mb; omega, fun hc => by have := (h.mw.lt _ hc).2; simp at this, h.be.size⟩
      · obtain ⟨a1, a2⟩ := h.gs p hp
        exact ⟨(hold p.1 (Array.getElem?_eq_some_iff.1 a1).1).trans a1, a2⟩ }⟩
theorem bytes_row (w : World) (l : List Int) (hl : Byt l) (hll : l.length ≤ 100000) (c : Nat) (hc : l.length ≤ c) : Row (Lib.bytesWorld w 5 (strOfNums l)) (.slice (some ⟨w.heap.size, 0, none⟩) l.length c) l := by
  refine Or.inl ⟨w.heap.size, 0, c, rfl, hc, hll, by rw [Lib.bytesWorld_size]; omega, fun j hj => ?_⟩
  rw [Nat.zero_add, Lib.bytesWorld_cell w 5 _ j (by rw [strOfNums_size]; exact hj), strOfNums_data]
  have hx := hl (l[j]) (List.getElem_mem hj)
  simp only [List.getD, List.getElem?_map, List.getElem?_eq_getElem hj, Option.map_some, Option.getD_some, UInt8.toNat_ofNat']
  congr 2
  omega
theorem bytes_at (w : World) (st : ByteArray) (j : Nat) (hj : j < st.size) : ∃ z, (Lib.bytesCells w 5 st)[j]? = some (.int .u8 z) := by
  have := Lib.bytesWorld_cell w 5 st j hj
  rw [cell_of_row_fr (Lib.bytesWorld_at_new w 5 st)] at this
  exact ⟨_, this⟩
/-- that, where the walk stands. -/
theorem wpList_play_more {w0 w : World} {K : Nat} {mo : Int} {N : Nat} {H : List Int → Int} {s : Nat} {f m : Int} {PK PM : List (List Int × Int)} {Mb : Nat} {v : Value} {Gs : List (Nat × Obj)} {ops : Array Oper} {rest : List Oper} {o : Oper} {a : Act} {Q : Exit → Act → World → Prop} (hgd : o.guard = none) (sl x : Operand)
    (ho : o.op = .call { callee := .builtin .append, args := #[sl, x], argTypes := #[41, 41] }) {B c : Nat} {q : List Int × Int} (h : Play w0 w K mo N H s f m PK PM Mb v ((B, .cells #[.string (strOfNums q.1), .int .i64 q.2] 43 (0, 0)) :: Gs)) (hP : PM.length ≤ 100000) (hs : a.eval sl = v) (hx : a.eval x = .slice (some ⟨B, 0, none⟩) 1 c)
    (hK : ∀ ad n c' w', w'.cell? ⟨Mb, 0, none⟩ = some v → w'.frozen? ⟨Mb, 0, none⟩ = false → Hid (Play w0 (w'.setCell ⟨Mb, 0, none⟩ (.slice (some ad) n c')) K mo N H s f m PK (PM ++ [q]) Mb (.slice (some ad) n c') Gs) → wpList Try.prog ops Q rest (a.put o.dst (.slice (some ad) n c')) w') : wpList Try.prog ops Q (o :: rest) a w := by
  refine wpList_plain hgd fun K' hK' => ?_
  obtain ⟨ad, n, c', w', hr, h2, h3, h4⟩ := h.more hP c o.type
  unfold Oper.wp execOp
  simp only [ho, resolve, invoke, builtin, Sem.run_bind, Sem.run_pure, Result.andThen_ok, List.map_toArray, List.map_cons, List.map_nil, hs, hx, hr]
  exact hK' _ _ (hK ad n c' w' h2 h3 (Lib.hid h4))
theorem play_start {w0 w2 w3 : World} {mo : Int} {N : Nat} (H : List Int → Int) (h : Laid w2 w3 mo N) (hb : Below w0.heap.size w0 w2) : Play w0 (w3.alloc (.cells #[.slice none 0 0] 41)) (w2.heap.size + 1) mo N H 0 0 0 [] [] w3.heap.size (.slice none 0 0) [] := by
  have hs1 := hb.size
  have hs2 := h.2.2
  have ka := h.ks H w0.heap.size (by omega)
  exact ⟨_, {
    k := ⟨0, ka.keep (by simp) (fun k hk => Below.heap_alloc w3 _ k hk.2), by omega, by omega⟩
    lo := fun x hx => by omega
    be := (hb.trans (h.2.1.mono hs1)).alloc (by omega) _
    mh := heap_alloc_new w3 _
    mf := fun hc => by omega
    mlo := by omega
    mw := Or.inl ⟨rfl, rfl⟩
    vf := fun g hg => by cases hg
    gs := fun p hp => by simp at hp }⟩
end Go.Proofs.Ytebldhppnacdjab
