/- Two keeps of one list, in blocks of their own: each act on one of them. -/
import Derived.Test.YtebldhppnacdjabKx
set_option linter.unusedVariables false
namespace Go.Proofs.Ytebldhppnacdjab
open Go.RowKit
/-- a keep that shows P, its counts at most s. -/
def One (w0 w : World) (F : Nat → Prop) (K : Nat) (mo : Int) (N : Nat) (H : List Int → Int) (s : Nat) (P : List (List Int × Int)) : Prop :=
  ∃ n f m : Int, KS w w0.heap.size F K mo N H n f m P ∧ (0 ≤ n ∧ n ≤ s) ∧ (0 ≤ f ∧ f ≤ s) ∧ (0 ≤ m ∧ m ≤ s)
theorem One.keep {w0 w w' : World} {F : Nat → Prop} {K : Nat} {mo : Int} {N : Nat} {H : List Int → Int} {s s' : Nat} {P : List (List Int × Int)} (h : One w0 w F K mo N H s P) (hs : s ≤ s') (hsz : w.heap.size ≤ w'.heap.size) (hfr : ∀ k, F k → w'.heap[k]? = w.heap[k]?) : One w0 w' F K mo N H s' P := by
  obtain ⟨n, f, m, h1, h2, h3, h4⟩ := h
  exact ⟨n, f, m, h1.keep hsz hfr, ⟨h2.1, by omega⟩, ⟨h3.1, by omega⟩, ⟨h4.1, by omega⟩⟩
theorem One.lt {w0 w : World} {F : Nat → Prop} {K : Nat} {mo : Int} {N : Nat} {H : List Int → Int} {s : Nat} {P : List (List Int × Int)} (h : One w0 w F K mo N H s P) : ∀ k, F k → k < w.heap.size := by
  obtain ⟨n, f, m, h1, -⟩ := h
  exact h1.lt
structure Core (w0 w : World) (FA FB : Nat → Prop) (KA KB : Nat) (mo : Int) (s : Nat) (PA PB : List (List Int × Int)) (X : Nat) (o : Obj) : Prop where
  a : One w0 w FA KA mo 13 keepHashes.hashI s PA
  b : One w0 w FB KB mo 9 (fun _ => 7) s PB
  dj : ∀ x, FA x → ¬ FB x
  lo : ∀ x, FA x ∨ FB x → w0.heap.size ≤ x
  be : Below w0.heap.size w0 w
  xh : w.heap[X]? = some o
  xa : ¬ FA X
  xb : ¬ FB X
def Two (w0 w : World) (KA KB : Nat) (mo : Int) (s : Nat) (PA PB : List (List Int × Int)) (X : Nat) (o : Obj) : Prop := ∃ FA FB, Core w0 w FA FB KA KB mo s PA PB X o
theorem Core.stepA {w0 w w' : World} {FA FB F' : Nat → Prop} {KA KB : Nat} {mo : Int} {s s' : Nat} {PA PB P' : List (List Int × Int)} {X : Nat} {o : Obj} (h : Core w0 w FA FB KA KB mo s PA PB X o) (hs : s ≤ s') (ha : One w0 w' F' KA mo 13 keepHashes.hashI s' P') (hl : Left w0.heap.size FA w F' w') : Core w0 w' F' FB KA KB mo s' P' PB X o := by
  have hX : X < w.heap.size := (Array.getElem?_eq_some_iff.1 h.xh).1
  exact {
    a := ha
    b := h.b.keep hs hl.1.size (fun k hk => hl.2.1 k (h.b.lt k hk) (fun hc => h.dj k hc hk))
    dj := fun x hx hx2 => by
      rcases hl.2.2 x hx with h1 | h1
      · exact h.dj x h1 hx2
      · have := h.b.lt x hx2; omega
    lo := fun x hx => by
      rcases hx with hx | hx
      · rcases hl.2.2 x hx with h1 | h1
        · exact h.lo x (Or.inl h1)
        · have := h.be.size; omega
      · exact h.lo x (Or.inr hx)
    be := h.be.trans hl.1
    xh := (hl.2.1 X hX h.xa).trans h.xh
    xa := fun hc => by
      rcases hl.2.2 X hc with h1 | h1
      · exact h.xa h1
      · omega
    xb := h.xb }
theorem Core.stepB {w0 w w' : World} {FA FB F' : Nat → Prop} {KA KB : Nat} {mo : Int} {s s' : Nat} {PA PB P' : List (List Int × Int)} {X : Nat} {o : Obj} (h : Core w0 w FA FB KA KB mo s PA PB X o) (hs : s ≤ s') (hb : One w0 w' F' KB mo 9 (fun _ => 7) s' P') (hl : Left w0.heap.size FB w F' w') : Core w0 w' FA F' KA KB mo s' PA P' X o := by
  have hX : X < w.heap.size := (Array.getElem?_eq_some_iff.1 h.xh).1
  exact {
    a := h.a.keep hs hl.1.size (fun k hk => hl.2.1 k (h.a.lt k hk) (fun hc => h.dj k hk hc))
    b := hb
    dj := fun x hx hx2 => by
      rcases hl.2.2 x hx2 with h1 | h1
      · exact h.dj x hx h1
      · have := h.a.lt x hx; omega
    lo := fun x hx => by
      rcases hx with hx | hx
      · exact h.lo x (Or.inl hx)
      · rcases hl.2.2 x hx with h1 | h1
        · exact h.lo x (Or.inr h1)
        · have := h.be.size; omega
    be := h.be.trans hl.1
    xh := (hl.2.1 X hX h.xb).trans h.xh
    xa := h.xa
    xb := fun hc => by
      rcases hl.2.2 X hc with h1 | h1
      · exact h.xb h1
      · omega }
/-- a new block takes the other's place. -/
theorem Two.alloc {w0 w : World} {KA KB : Nat} {mo : Int} {s : Nat} {PA PB : List (List Int × Int)} {X : Nat} {o : Obj} (h : Two w0 w KA KB mo s PA PB X o) (o' : Obj) : Two w0 (w.alloc o') KA KB mo s PA PB w.heap.size o' := by
  obtain ⟨FA, FB, h⟩ := h
  exact ⟨FA, FB, {
    a := h.a.keep (Nat.le_refl _) (by simp) (fun k hk => Below.heap_alloc w o' k (h.a.lt k hk))
    b := h.b.keep (Nat.le_refl _) (by simp) (fun k hk => Below.heap_alloc w o' k (h.b.lt k hk))
    dj := h.dj
    lo := h.lo
    be := h.be.alloc h.be.size o'
    xh := heap_alloc_new w o'
    xa := fun hc => by have := h.a.lt _ hc; omega
    xb := fun hc => by have := h.b.lt _ hc; omega }⟩
theorem Two.be {w0 w : World} {KA KB : Nat} {mo : Int} {s : Nat} {PA PB : List (List Int × Int)} {X : Nat} {o : Obj} (h : Two w0 w KA KB mo s PA PB X o) : Below w0.heap.size w0 w := by
  obtain ⟨FA, FB, h⟩ := h
  exact h.be
theorem Two.xh {w0 w : World} {KA KB : Nat} {mo : Int} {s : Nat} {PA PB : List (List Int × Int)} {X : Nat} {o : Obj} (h : Two w0 w KA KB mo s PA PB X o) : w.heap[X]? = some o := by
  obtain ⟨FA, FB, h⟩ := h
  exact h.xh
theorem two_putA (w0 w : World) (KA KB : Nat) (mo : Int) (s : Nat) (PA PB : List (List Int × Int)) (X : Nat) (o : Obj) (key : Value) (l : List Int) (x : Int) (h : Two w0 w KA KB mo s PA PB X o) (hkr : Row w0 key l) (hl : Byt l) (hll : l.length ≤ 100) (hP : PA.length ≤ 9999) (hmo : 1 ≤ mo) (hs : s ≤ 9999) :
    Calls Try.prog 10 #[.pointer (some ⟨KA, 0, none⟩), key, .int .i64 x] w fun e w' => e = .returned (.int .i64 0) ∧ Two w0 w' KA KB mo (s + 1) (aPut mo PA l x) PB X o := by
  obtain ⟨FA, FB, h⟩ := h
  obtain ⟨n, f, m, h1, h2, h3, h4⟩ := h.a
  refine (put_ks13 w w0.heap.size FA KA mo keepHashes.hashI n f m PA key l x h1 hashes13 (hkr.below h.be) hl hll (fun g hg hc => by have := h.lo g (Or.inl hc); have := hkr.ltk g hg; omega) hP hmo (by omega)).mono ?_
  rintro e w' ⟨rfl, F', h5, h6⟩
  exact ⟨rfl, F', FB, h.stepA (by omega) ⟨_, _, _, h5, by omega, by omega, by omega⟩ h6⟩
theorem two_getA_some (w0 w : World) (KA KB : Nat) (mo : Int) (s : Nat) (PA PB : List (List Int × Int)) (X : Nat) (o : Obj) (key : Value) (l : List Int) (x : Int) (h : Two w0 w KA KB mo s PA PB X o) (hkr : Row w0 key l) (hl : Byt l) (hll : l.length ≤ 100) (hP : PA.length ≤ 9999) (hs : s ≤ 9999) (hx : aFind PA l = some x) :
    Calls Try.prog 11 #[.pointer (some ⟨KA, 0, none⟩), key] w fun e w' => e = .returned (.tuple #[.int .i64 x, .bool true]) ∧ Two w0 w' KA KB mo (s + 1) (aDel PA l ++ [(l, x)]) PB X o := by
  obtain ⟨FA, FB, h⟩ := h
  obtain ⟨n, f, m, h1, h2, h3, h4⟩ := h.a
  refine (get_ks13_some w w0.heap.size FA KA mo keepHashes.hashI n f m PA key l x h1 hashes13 (hkr.below h.be) hl hll hP (by omega) (by omega) hx).mono ?_
  rintro e w' ⟨rfl, F', h5, h6⟩
  exact ⟨rfl, F', FB, h.stepA (by omega) ⟨_, _, _, h5, by omega, by omega, by omega⟩ h6⟩
theorem two_getA_none (w0 w : World) (KA KB : Nat) (mo : Int) (s : Nat) (PA PB : List (List Int × Int)) (X : Nat) (o : Obj) (key : Value) (l : List Int) (h : Two w0 w KA KB mo s PA PB X o) (hkr : Row w0 key l) (hl : Byt l) (hll : l.length ≤ 100) (hP : PA.length ≤ 9999) (hs : s ≤ 9999) (hx : aFind PA l = none) :
    Calls Try.prog 11 #[.pointer (some ⟨KA, 0, none⟩), key] w fun e w' => e = .returned (.tuple #[.int .i64 0, .bool false]) ∧ Two w0 w' KA KB mo (s + 1) PA PB X o := by
  obtain ⟨FA, FB, h⟩ := h
  obtain ⟨n, f, m, h1, h2, h3, h4⟩ := h.a
  refine (get_ks13_none w w0.heap.size FA KA mo keepHashes.hashI n f m PA key l h1 hashes13 (hkr.below h.be) hl hll hP (by omega) hx).mono ?_
  rintro e w' ⟨rfl, F', h5, h6⟩
  exact ⟨rfl, F', FB, h.stepA (by omega) ⟨_, _, _, h5, by omega, by omega, by omega⟩ h6⟩
theorem two_lenA (w0 w : World) (KA KB : Nat) (mo : Int) (s : Nat) (PA PB : List (List Int × Int)) (X : Nat) (o : Obj) (h : Two w0 w KA KB mo s PA PB X o) : Calls Try.prog 12 #[.pointer (some ⟨KA, 0, none⟩)] w fun e w' => e = .returned (.int .i64 PA.length) ∧ w = w' := by
  obtain ⟨FA, FB, h⟩ := h
  obtain ⟨n, f, m, h1, -⟩ := h.a
  exact len_ks w _ _ _ _ _ _ _ _ _ _ h1
theorem two_putB (w0 w : World) (KA KB : Nat) (mo : Int) (s : Nat) (PA PB : List (List Int × Int)) (X : Nat) (o : Obj) (key : Value) (l : List Int) (x : Int) (h : Two w0 w KA KB mo s PA PB X o) (hkr : Row w0 key l) (hl : Byt l) (hll : l.length ≤ 100) (hP : PB.length ≤ 9999) (hmo : 1 ≤ mo) (hs : s ≤ 9999) :
    Calls Try.prog 10 #[.pointer (some ⟨KB, 0, none⟩), key, .int .i64 x] w fun e w' => e = .returned (.int .i64 0) ∧ Two w0 w' KA KB mo (s + 1) PA (aPut mo PB l x) X o := by
  obtain ⟨FA, FB, h⟩ := h
  obtain ⟨n, f, m, h1, h2, h3, h4⟩ := h.b
  refine (put_ks9 w w0.heap.size FB KB mo (fun _ => 7) n f m PB key l x h1 hashes9 (hkr.below h.be) hl hll (fun g hg hc => by have := h.lo g (Or.inr hc); have := hkr.ltk g hg; omega) hP hmo (by omega)).mono ?_
  rintro e w' ⟨rfl, F', h5, h6⟩
  exact ⟨rfl, FA, F', h.stepB (by omega) ⟨_, _, _, h5, by omega, by omega, by omega⟩ h6⟩
theorem two_getB_some (w0 w : World) (KA KB : Nat) (mo : Int) (s : Nat) (PA PB : List (List Int × Int)) (X : Nat) (o : Obj) (key : Value) (l : List Int) (x : Int) (h : Two w0 w KA KB mo s PA PB X o) (hkr : Row w0 key l) (hl : Byt l) (hll : l.length ≤ 100) (hP : PB.length ≤ 9999) (hs : s ≤ 9999) (hx : aFind PB l = some x) :
    Calls Try.prog 11 #[.pointer (some ⟨KB, 0, none⟩), key] w fun e w' => e = .returned (.tuple #[.int .i64 x, .bool true]) ∧ Two w0 w' KA KB mo (s + 1) PA (aDel PB l ++ [(l, x)]) X o := by
  obtain ⟨FA, FB, h⟩ := h
  obtain ⟨n, f, m, h1, h2, h3, h4⟩ := h.b
  refine (get_ks9_some w w0.heap.size FB KB mo (fun _ => 7) n f m PB key l x h1 hashes9 (hkr.below h.be) hl hll hP (by omega) (by omega) hx).mono ?_
  rintro e w' ⟨rfl, F', h5, h6⟩
  exact ⟨rfl, FA, F', h.stepB (by omega) ⟨_, _, _, h5, by omega, by omega, by omega⟩ h6⟩
theorem two_getB_none (w0 w : World) (KA KB : Nat) (mo : Int) (s : Nat) (PA PB : List (List Int × Int)) (X : Nat) (o : Obj) (key : Value) (l : List Int) (h : Two w0 w KA KB mo s PA PB X o) (hkr : Row w0 key l) (hl : Byt l) (hll : l.length ≤ 100) (hP : PB.length ≤ 9999) (hs : s ≤ 9999) (hx : aFind PB l = none) :
    Calls Try.prog 11 #[.pointer (some ⟨KB, 0, none⟩), key] w fun e w' => e = .returned (.tuple #[.int .i64 0, .bool false]) ∧ Two w0 w' KA KB mo (s + 1) PA PB X o := by
  obtain ⟨FA, FB, h⟩ := h
  obtain ⟨n, f, m, h1, h2, h3, h4⟩ := h.b
  refine (get_ks9_none w w0.heap.size FB KB mo (fun _ => 7) n f m PB key l h1 hashes9 (hkr.below h.be) hl hll hP (by omega) hx).mono ?_
  rintro e w' ⟨rfl, F', h5, h6⟩
  exact ⟨rfl, FA, F', h.stepB (by omega) ⟨_, _, _, h5, by omega, by omega, by omega⟩ h6⟩
theorem two_lenB (w0 w : World) (KA KB : Nat) (mo : Int) (s : Nat) (PA PB : List (List Int × Int)) (X : Nat) (o : Obj) (h : Two w0 w KA KB mo s PA PB X o) : Calls Try.prog 12 #[.pointer (some ⟨KB, 0, none⟩)] w fun e w' => e = .returned (.int .i64 PB.length) ∧ w = w' := by
  obtain ⟨FA, FB, h⟩ := h
  obtain ⟨n, f, m, h1, -⟩ := h.b
  exact len_ks w _ _ _ _ _ _ _ _ _ _ h1
theorem aFind_append (P : List (List Int × Int)) (l : List Int) (x : Int) (h : aFind P l = none) : aFind (P ++ [(l, x)]) l = some x := by
  unfold aFind at h ⊢
  rw [List.find?_append]
  cases hf : P.find? fun q => decide (q.1 = l) with
  | some q => rw [hf] at h; cases h
  | none => simp
theorem aFind_del (P : List (List Int × Int)) (l : List Int) : aFind (aDel P l) l = none := by
  unfold aFind aDel
  rw [List.find?_eq_none.2]
  · rfl
  · intro q hq hc
    have := List.mem_filter.1 hq
    simp at this hc
    exact this.2 hc
theorem aFind_tail {P : List (List Int × Int)} {l : List Int} (h : aFind P l = none) : aFind P.tail l = none := by
  unfold aFind at h ⊢
  cases P with
  | nil => exact h
  | cons a P =>
    rw [List.find?_cons] at h
    cases hd : decide (a.1 = l) with
    | true => rw [hd] at h; cases h
    | false => rw [hd] at h; exact h
theorem aFind_put (mo : Int) (P : List (List Int × Int)) (l : List Int) (x : Int) : aFind (aPut mo P l x) l = some x := by
  unfold aPut
  cases h : aFind P l with
  | some y => exact aFind_append _ _ _ (aFind_del P l)
  | none =>
    refine aFind_append _ _ _ ?_
    split
    · exact aFind_tail h
    · exact h
theorem aDel_len (P : List (List Int × Int)) (l : List Int) : (aDel P l).length ≤ P.length := List.length_filter_le _ _
theorem aPut_len (mo : Int) (P : List (List Int × Int)) (l : List Int) (x : Int) : (aPut mo P l x).length ≤ P.length + 1 := by
  unfold aPut
  cases h : aFind P l with
  | some y =>
    have := aDel_len P l
    simp; omega
  | none =>
    simp only [List.length_append, List.length_cons, List.length_nil]
    split
    · rw [List.length_tail]; omega
    · omega
end Go.Proofs.Ytebldhppnacdjab
