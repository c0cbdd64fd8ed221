/- A keep's invariant: where a key is; what 'at' and the map say of it. -/
import Derived.Test.YtebldhppnacdjabKt
import Derived.Test.YtebldhppnacdjabKi
import Derived.Test.YtebldhppnacdjabKHashes
set_option linter.unusedVariables false
namespace Go.Proofs.Ytebldhppnacdjab
open Go.RowKit
/-- what was found for a key. -/
def aFind (P : List (List Int × Int)) (l : List Int) : Option Int := (P.find? fun q => decide (q.1 = l)).map (·.2)
theorem aFind_some : ∀ {L : List Ent} {e : Ent}, L.Pairwise (fun e e' => e.kb ≠ e'.kb) → e ∈ L → aFind (L.map pr) e.kb = some e.x
  | [], e, _, h => by simp at h
  | a :: L, e, hd, h => by
    rw [List.pairwise_cons] at hd
    unfold aFind
    rw [List.map_cons, List.find?_cons]
    rcases List.mem_cons.1 h with rfl | h1
    · simp [pr]
    · have h2 := hd.1 e h1
      have : decide ((pr a).1 = e.kb) = false := decide_eq_false h2
      rw [this]
      exact aFind_some hd.2 h1
theorem aFind_none {L : List Ent} {l : List Int} (h : ∀ e ∈ L, e.kb ≠ l) : aFind (L.map pr) l = none := by
  unfold aFind
  rw [List.find?_eq_none.2]
  · rfl
  · intro q hq
    obtain ⟨e, he, rfl⟩ := List.mem_map.1 hq
    exact fun hc => h e he (of_decide_eq_true hc)
theorem aFind_mem {L : List Ent} {l : List Int} {x : Int} (h : aFind (L.map pr) l = some x) (hd : L.Pairwise (fun e e' => e.kb ≠ e'.kb)) : ∃ e ∈ L, e.kb = l ∧ e.x = x := by
  by_cases hc : ∃ e ∈ L, e.kb = l
  · obtain ⟨e, he, hk⟩ := hc
    refine ⟨e, he, hk, ?_⟩
    have := aFind_some hd he
    rw [hk, h] at this
    exact (Option.some.inj this).symm
  · rw [aFind_none (fun e he hk => hc ⟨e, he, hk⟩)] at h
    cases h
theorem aFind_no {L : List Ent} {l : List Int} (h : aFind (L.map pr) l = none) (hd : L.Pairwise (fun e e' => e.kb ≠ e'.kb)) : ∀ e ∈ L, e.kb ≠ l := fun e he hk => by
  have := aFind_some hd he
  rw [hk, h] at this
  cases this
section
variable {w w' : World} {base : Nat} {F : Nat → Prop} {K M : Nat} {mo : Int} {N : Nat} {H : List Int → Int} {now f f' m m' : Int} {es : Array MapEntry} {c : Nat} {BL : List Bk} {L : List Ent}
theorem KParts.at_call (h : KParts w base F K M mo N H now f m es c BL L) (hlen : L.length ≤ 99999) {b : Bk} (hb : b ∈ BL) (hf : ∀ k, F k → k ≠ K → w'.heap[k]? = w.heap[k]?) (hsz : w.heap.size ≤ w'.heap.size) {key : Value} {l : List Int} (hkr : Row w' key l) :
    Calls Try.prog 18 #[b.v, key] w' fun e w'' => e = .returned (.int .i64 (idx l b.E)) ∧ Below w'.heap.size w' w'' := by
  obtain ⟨g, cap, h1, h2, h3, h4⟩ := h.bin hlen b hb
  obtain ⟨g', cap', i1, i2, i3, i4, i5, i6⟩ := h.bok b hb
  have hg : g' = g := by rw [h1] at i1; simp at i1; exact i1.1.symm
  subst hg
  refine at_any w' b.v key l b.E (by omega) (Or.inr ⟨g', cap, h1, Nat.lt_of_lt_of_le h2 hsz, fun k e he => ?_⟩) hkr
  obtain ⟨c0, c1, c2, c3⟩ := h4 k e he
  obtain ⟨-, -, -, hkb⟩ := h.ent b hb e (List.mem_of_getElem? he)
  have hblk := hf g' i2 i3
  refine ⟨?_, ?_, ?_, c3.at (fun g hg => hf g (hkb g hg).1 (hkb g hg).2.1) hsz⟩
  · rw [← c0]; exact World.cell?_of_block (w := w) (a := ⟨g', k * 3, none⟩) hblk
  · rw [← c1]; exact World.cell?_of_block (w := w) (a := ⟨g', k * 3 + 1, none⟩) hblk
  · rw [← c2]; exact World.cell?_of_block (w := w) (a := ⟨g', k * 3 + 2, none⟩) hblk
theorem KParts.idx_here (h : KParts w base F K M mo N H now f m es c BL L) {b : Bk} (hb : b ∈ BL) {j : Nat} {e : Ent} (hj : b.E[j]? = some e) {l : List Int} (hl : Byt l) (hk : e.kb = l) : idx l b.E = j := by
  refine idx_drop l b.E j e hj (fun i e' hi he' => ?_) ((keyEq_iff (by rw [hk]; exact hl) hl).2 hk)
  have hbe := (h.ent b hb e' (List.mem_of_getElem? he')).2.1
  refine keyEq_no hbe hl (fun hc => ?_)
  -- two places of one key in the list
  have hd : (BL.flatMap (·.E)).Pairwise (fun e e' => e.kb ≠ e'.kb) := (h.perm.pairwise_iff (fun h => h.symm)).1 h.dif
  obtain ⟨B1, B2, rfl⟩ := List.append_of_mem hb
  rw [List.flatMap_append, List.flatMap_cons, List.pairwise_append] at hd
  have hd2 := (List.pairwise_append.1 hd.2.1).1
  have hi2 := (List.getElem?_eq_some_iff.1 he').1
  have hj2 := (List.getElem?_eq_some_iff.1 hj).1
  have := List.pairwise_iff_getElem.1 hd2 i j hi2 hj2 hi
  rw [(List.getElem?_eq_some_iff.1 he').2, (List.getElem?_eq_some_iff.1 hj).2, hk] at this
  exact this hc
theorem KParts.idx_gone (h : KParts w base F K M mo N H now f m es c BL L) {b : Bk} (hb : b ∈ BL) {l : List Int} (hl : Byt l) (hk : ∀ e ∈ L, e.kb ≠ l) : idx l b.E = -1 := by
  refine idx_none l b.E (fun j e he => ?_)
  have hm := List.mem_of_getElem? he
  exact keyEq_no (h.ent b hb e hm).2.1 hl (hk e (h.mem_L hb hm))
/-- what the map says of a hash that no bucket has. -/
theorem KParts.no_key (h : KParts w base F K M mo N H now f m es c BL L) {hh : Int} (hno : ∀ b ∈ BL, b.h ≠ hh) : ∀ e ∈ es.toList, e.key ≠ .int .u64 hh := fun e he hc => by
  obtain ⟨b, hb, hk, -⟩ := bk_of h.map he
  rw [hk] at hc
  simp at hc
  exact hno b hb hc
end
/-- a keep that shows a list. -/
def KS (w : World) (base : Nat) (F : Nat → Prop) (K : Nat) (mo : Int) (N : Nat) (H : List Int → Int) (now f m : Int) (P : List (List Int × Int)) : Prop :=
  ∃ M es c BL L, KParts w base F K M mo N H now f m es c BL L ∧ P = L.map pr
/-- what an act on it leaves alone. -/
def Left (base : Nat) (F : Nat → Prop) (w : World) (F' : Nat → Prop) (w' : World) : Prop :=
  Below base w w' ∧ (∀ k, k < w.heap.size → ¬ F k → w'.heap[k]? = w.heap[k]?) ∧ ∀ k, F' k → F k ∨ w.heap.size ≤ k
theorem KS.keep {w w' : World} {base : Nat} {F : Nat → Prop} {K : Nat} {mo : Int} {N : Nat} {H : List Int → Int} {now f m : Int} {P : List (List Int × Int)} (h : KS w base F K mo N H now f m P) (hsz : w.heap.size ≤ w'.heap.size) (hfr : ∀ k, F k → w'.heap[k]? = w.heap[k]?) : KS w' base F K mo N H now f m P := by
  obtain ⟨M, es, c, BL, L, hp, rfl⟩ := h
  exact ⟨M, es, c, BL, L, hp.mono hsz (fun k hk _ => hfr k hk) (hp.kg.1.of (hfr K hp.fK)) (Int.le_refl _), rfl⟩
theorem KS.len {w : World} {base : Nat} {F : Nat → Prop} {K : Nat} {mo : Int} {N : Nat} {H : List Int → Int} {now f m : Int} {P : List (List Int × Int)} (h : KS w base F K mo N H now f m P) : ∃ M, KC w K M mo N P.length now f m := by
  obtain ⟨M, es, c, BL, L, hp, rfl⟩ := h
  exact ⟨M, by rw [List.length_map]; exact hp.kg.1⟩
theorem KS.lt {w : World} {base : Nat} {F : Nat → Prop} {K : Nat} {mo : Int} {N : Nat} {H : List Int → Int} {now f m : Int} {P : List (List Int × Int)} (h : KS w base F K mo N H now f m P) : ∀ k, F k → k < w.heap.size := by
  obtain ⟨M, es, c, BL, L, hp, rfl⟩ := h
  exact hp.fl
/-- the hash's contract. -/
abbrev Hashes (N : Nat) (H : List Int → Int) : Prop := ∀ (w : World) (key : Value) (l : List Int), Row w key l → Byt l → l.length ≤ 100 → Calls Try.prog N #[key] w fun e w' => e = .returned (.int .u64 (H l)) ∧ w = w'
end Go.Proofs.Ytebldhppnacdjab
