/- drive: the plain parts: the best so far of what has been seen; Delete of any entry. -/
import Derived.Test.YtebldhppnacdjabKn
set_option linter.unusedVariables false
namespace Go.Proofs.Ytebldhppnacdjab
open Go.RowKit Go.MapKept
/-- a bucket: its hash, the slice, its entries. -/
structure Bk where
  h : Int
  v : Value
  E : List Ent
/-- a bucket as it lies. -/
def BkIn (w : World) (b : Bk) : Prop :=
  ∃ g cap, b.v = .slice (some ⟨g, 0, none⟩) b.E.length cap ∧ g < w.heap.size ∧ b.E.length ≤ 99999 ∧ ∀ k e, b.E[k]? = some e → w.cell? ⟨g, k * 3, none⟩ = some e.kv ∧ w.cell? ⟨g, k * 3 + 1, none⟩ = some (.int .i64 e.x) ∧ w.cell? ⟨g, k * 3 + 2, none⟩ = some (.int .i64 e.last) ∧ Row w e.kv e.kb
theorem BkIn.bucket {w : World} {b : Bk} (h : BkIn w b) : Bucket w b.v b.E := by
  obtain ⟨g, cap, h1, h2, -, h3⟩ := h
  exact Or.inr ⟨g, cap, h1, h2, h3⟩
/-- the best of what has been seen. -/
def Best (BL : List Bk) (vis : Int → Nat → Prop) (bk pl la : Int) : Prop :=
  (pl = -1 ∧ ∀ b ∈ BL, ∀ (i : Nat) e, b.E[i]? = some e → ¬ vis b.h i) ∨
  (∃ b ∈ BL, ∃ (i : Nat) (e : Ent), b.E[i]? = some e ∧ bk = b.h ∧ pl = i ∧ la = e.last ∧ ∀ b' ∈ BL, ∀ (i' : Nat) e', b'.E[i']? = some e' → vis b'.h i' → e.last ≤ e'.last)
theorem Best.congr {BL : List Bk} {v1 v2 : Int → Nat → Prop} {bk pl la : Int} (h : Best BL v1 bk pl la) (hv : ∀ b ∈ BL, ∀ (i : Nat) e, b.E[i]? = some e → (v1 b.h i ↔ v2 b.h i)) : Best BL v2 bk pl la := by
  rcases h with ⟨h1, h2⟩ | ⟨b, hb, i, e, h1, h2, h3, h4, h5⟩
  · exact Or.inl ⟨h1, fun b hb i e he hc => h2 b hb i e he ((hv b hb i e he).2 hc)⟩
  · exact Or.inr ⟨b, hb, i, e, h1, h2, h3, h4, fun b' hb' i' e' he' hc => h5 b' hb' i' e' he' ((hv b' hb' i' e' he').2 hc)⟩
/-- one more is seen: it is the best. -/
theorem Best.new {BL : List Bk} {v1 : Int → Nat → Prop} {bk pl la : Int} (h : Best BL v1 bk pl la) (hh : ∀ b ∈ BL, ∀ b' ∈ BL, b.h = b'.h → b = b') {b : Bk} (hb : b ∈ BL) {k : Nat} {e : Ent} (he : b.E[k]? = some e) (hlt : pl < 0 ∨ e.last < la) :
    Best BL (fun h i => v1 h i ∨ (h = b.h ∧ i < k + 1 ∧ k ≤ i)) b.h k e.last := by
  refine Or.inr ⟨b, hb, k, e, he, rfl, rfl, rfl, fun b' hb' i' e' he' hc => ?_⟩
  rcases hc with hc | ⟨h1, h2, h3⟩
  · rcases h with ⟨hp, hn⟩ | ⟨b0, hb0, i0, e0, h1, h2, h3, h4, h5⟩
    · exact absurd hc (hn b' hb' i' e' he')
    · have := h5 b' hb' i' e' he' hc
      rcases hlt with hlt | hlt <;> omega
  · have : b' = b := hh b' hb' b hb h1
    subst this
    have : i' = k := by omega
    subst this
    rw [he] at he'
    cases he'
    exact Int.le_refl _
/-- one more is seen: it is not. -/
theorem Best.old {BL : List Bk} {v1 : Int → Nat → Prop} {bk pl la : Int} (h : Best BL v1 bk pl la) (hh : ∀ b ∈ BL, ∀ b' ∈ BL, b.h = b'.h → b = b') {b : Bk} (hb : b ∈ BL) {k : Nat} {e : Ent} (he : b.E[k]? = some e) (hge : ¬ pl < 0) (hla : ¬ e.last < la) :
    Best BL (fun h i => v1 h i ∨ (h = b.h ∧ i < k + 1 ∧ k ≤ i)) bk pl la := by
  rcases h with ⟨hp, hn⟩ | ⟨b0, hb0, i0, e0, h1, h2, h3, h4, h5⟩
  · omega
  · refine Or.inr ⟨b0, hb0, i0, e0, h1, h2, h3, h4, fun b' hb' i' e' he' hc => ?_⟩
    rcases hc with hc | ⟨g1, g2, g3⟩
    · exact h5 b' hb' i' e' he' hc
    · have : b' = b := hh b' hb' b hb g1
      subst this
      have : i' = k := by omega
      subst this
      rw [he] at he'
      cases he'
      omega
/-- what has been seen, of whole buckets. -/
def visO (es : Array MapEntry) (seen : Array Nat) (h : Int) (i : Nat) : Prop := ∃ x ∈ es.toList, x.key = .int .u64 h ∧ seen.contains x.born = true
theorem Best.start (es : Array MapEntry) (BL : List Bk) : Best BL (visO es #[]) 0 (-1) 0 :=
  Or.inl ⟨rfl, fun b hb i e he hc => by
    obtain ⟨x, -, -, h⟩ := hc
    simp at h⟩
/-- behind a bucket's last entry. -/
theorem Best.turn {es : Array MapEntry} {BL : List Bk} {seen : Array Nat} {bk pl la : Int} {b : Bk} {n : Nat} (h : Best BL (fun h i => visO es seen h i ∨ (h = b.h ∧ i < n)) bk pl la) (hn : b.E.length ≤ n) (hh : ∀ b ∈ BL, ∀ b' ∈ BL, b.h = b'.h → b = b') (hb : b ∈ BL) (hK : Keys es)
    {x : MapEntry} (hx : x ∈ es.toList) (hk : x.key = .int .u64 b.h) (hbn : (es.toList.map (·.born)).Nodup) : Best BL (visO es (seen.push x.born)) bk pl la := by
  refine h.congr fun b' hb' i e he => ⟨fun hc => ?_, fun hc => ?_⟩
  · rcases hc with ⟨y, hy, hyk, hys⟩ | ⟨h1, h2⟩
    · exact ⟨y, hy, hyk, by rw [contains_push, hys]; rfl⟩
    · exact ⟨x, hx, by rw [h1]; exact hk, by rw [contains_push, beq_self_eq_true, Bool.or_true]⟩
  · obtain ⟨y, hy, hyk, hys⟩ := hc
    rw [contains_push] at hys
    cases hs : seen.contains y.born with
    | true => exact Or.inl ⟨y, hy, hyk, hs⟩
    | false =>
      rw [hs, Bool.false_or] at hys
      have : y = x := born_inj hbn hy hx (beq_iff_eq.1 hys)
      subst this
      have hbb : b'.h = b.h := by rw [hk] at hyk; simpa using hyk.symm
      have : b' = b := hh b' hb' b hb hbb
      subst this
      exact Or.inr ⟨rfl, by have := (List.getElem?_eq_some_iff.1 he).1; omega⟩
/-- all has been seen. -/
theorem Best.all {es : Array MapEntry} {BL : List Bk} {seen : Array Nat} {bk pl la : Int} (h : Best BL (visO es seen) bk pl la) (hs : (leftOf es seen).size = 0) (hmap : es.toList.map (fun e => (e.key, e.val)) = BL.map (fun b => (.int .u64 b.h, b.v))) (hne : ∃ b ∈ BL, b.E ≠ []) :
    ∃ b ∈ BL, ∃ (i : Nat) (e : Ent), b.E[i]? = some e ∧ bk = b.h ∧ pl = i ∧ la = e.last ∧ ∀ b' ∈ BL, ∀ (i' : Nat) e', b'.E[i']? = some e' → e.last ≤ e'.last := by
  have hv : ∀ b ∈ BL, ∀ i, visO es seen b.h i := fun b hb i => by
    have : (Value.int .u64 b.h, b.v) ∈ es.toList.map (fun e => (e.key, e.val)) := by rw [hmap]; exact List.mem_map.2 ⟨b, hb, rfl⟩
    obtain ⟨x, hx, hxe⟩ := List.mem_map.1 this
    exact ⟨x, hx, (Prod.mk.inj hxe).1, all_seen es seen hs x hx⟩
  rcases h with ⟨hp, hn⟩ | ⟨b, hb, i, e, h1, h2, h3, h4, h5⟩
  · obtain ⟨b, hb, hbe⟩ := hne
    cases hE : b.E with
    | nil => exact absurd hE hbe
    | cons e r => exact absurd (hv b hb 0) (hn b hb 0 e (by rw [hE]; rfl))
  · exact ⟨b, hb, i, e, h1, h2, h3, h4, fun b' hb' i' e' he' => h5 b' hb' i' e' he' (hv b' hb' i')⟩
theorem own_parts {w : World} {base g n cap : Nat} {xs : List Value} (h : w.ownsRow base 55 3 (.slice (some ⟨g, 0, none⟩) n cap) n xs) : n ≤ cap ∧ cap ≤ maxLen ∧ g < w.heap.size := by
  rcases h.2 with ⟨h', _⟩ | ⟨g', cap', cur, h', e1, e2, e3, e4, -⟩
  · simp at h'
  · simp only [Value.slice.injEq, Option.some.injEq, Addr.mk.injEq, and_true, true_and] at h'
    obtain ⟨rfl, rfl⟩ := h'
    exact ⟨e3, e4, (Array.getElem?_eq_some_iff.1 e2).1⟩
/-- slices.Delete of any one entry. -/
theorem del_any (w : World) (g n cap i base : Nat) (xs : List Value) (hi : i < n) (hn : n ≤ 100000) (hone : ∀ u ∈ xs, u.oneCell' = true) (hown : w.ownsRow base 55 3 (.slice (some ⟨g, 0, none⟩) n cap) n xs) :
    Calls Try.prog 24 #[.slice (some ⟨g, 0, none⟩) n cap, .int .i64 (i : Int), .int .i64 ((i : Int) + 1)] w fun e w' => e = .returned (.slice (some ⟨g, 0, none⟩) (n - 1) cap) ∧ Below base w w' ∧ w'.ownsRow base 55 3 (.slice (some ⟨g, 0, none⟩) (n - 1) cap) (n - 1) (xs.take (i * 3) ++ xs.drop ((i + 1) * 3)) ∧ (∀ k, k ≠ g → w'.heap[k]? = w.heap[k]?) := by
  obtain ⟨hc, hm, -⟩ := own_parts hown
  rcases Nat.lt_or_ge (i + 1) n with h | h
  · exact del_mid w g n cap i base xs h hn hc hm hone hown
  · obtain rfl : n = i + 1 := by omega
    have hx : xs.take (i * 3) ++ xs.drop ((i + 1) * 3) = xs.take (i * 3) := by rw [List.drop_eq_nil_of_le (by rw [hown.1]; omega), List.append_nil]
    rw [hx, Nat.add_sub_cancel]
    rcases Nat.lt_or_ge (i + 1) cap with h2 | h2
    · exact del_last_room w g cap i base xs hn h2 hm hown
    · obtain rfl : cap = i + 1 := by omega
      exact del_last_full w g i base xs hn hm hown
end Go.Proofs.Ytebldhppnacdjab
