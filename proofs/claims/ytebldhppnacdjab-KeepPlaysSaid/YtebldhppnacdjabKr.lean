/- A keep's invariant: one bucket turned. -/
import Derived.Test.YtebldhppnacdjabKq
set_option linter.unusedVariables false
namespace Go.Proofs.Ytebldhppnacdjab
open Go.RowKit
theorem pw_mid {α : Type} {R : α → α → Prop} {B1 bs bs' B2 : List α} (h : (B1 ++ bs ++ B2).Pairwise R) (hl : bs'.length ≤ 1) (h1 : ∀ a ∈ B1, ∀ b ∈ bs', R a b) (h2 : ∀ b ∈ bs', ∀ a ∈ B2, R b a) : (B1 ++ bs' ++ B2).Pairwise R := by
  rw [List.pairwise_append, List.pairwise_append] at h ⊢
  obtain ⟨⟨p1, -, p3⟩, p4, p5⟩ := h
  refine ⟨⟨p1, ?_, h1⟩, p4, fun a ha b hb => ?_⟩
  · match bs', hl with
    | [], _ => exact List.Pairwise.nil
    | [x], _ => simp
    | _ :: _ :: _, hl => simp at hl
  · rcases List.mem_append.1 ha with ha | ha
    · exact p5 a (List.mem_append.2 (Or.inl ha)) b hb
    · exact h2 a ha b hb
theorem mem_mid {α : Type} {B1 bs B2 : List α} {b : α} : b ∈ B1 ++ bs ++ B2 ↔ b ∈ B1 ++ B2 ∨ b ∈ bs := by
  simp only [List.mem_append]
  constructor
  · rintro ((h | h) | h)
    · exact Or.inl (Or.inl h)
    · exact Or.inr h
    · exact Or.inl (Or.inr h)
  · rintro ((h | h) | h)
    · exact Or.inl (Or.inl h)
    · exact Or.inr h
    · exact Or.inl (Or.inr h)
theorem pw_out {α : Type} {R : α → α → Prop} (hR : ∀ a b, R a b → R b a) {B1 bs B2 : List α} (h : (B1 ++ bs ++ B2).Pairwise R) {a b : α} (ha : a ∈ B1 ++ B2) (hb : b ∈ bs) : R a b := by
  rw [List.pairwise_append, List.pairwise_append] at h
  obtain ⟨⟨-, -, p3⟩, -, p5⟩ := h
  rcases List.mem_append.1 ha with h1 | h1
  · exact p3 a h1 b hb
  · exact hR _ _ (p5 b (List.mem_append.2 (Or.inr hb)) a h1)
theorem KParts.rebuild {w w' : World} {base : Nat} {F : Nat → Prop} {K M : Nat} {mo : Int} {N : Nat} {H : List Int → Int} {now now' f f' m m' : Int} {es es' : Array MapEntry} {c c' : Nat} {B1 bs bs' B2 : List Bk} {L L' : List Ent}
    (h : KParts w base F K M mo N H now f m es c (B1 ++ bs ++ B2) L) (hsz : w.heap.size ≤ w'.heap.size)
    (hfr : ∀ k, k < w.heap.size → k ≠ K → k ≠ M → (∀ b ∈ bs, b.v.ownBlock ≠ some k) → w'.heap[k]? = w.heap[k]?)
    (kg' : KeepG w' K M mo N (L'.length : Int) now' f' m' es' c') (old' : ∀ x ∈ es'.toList, x.born < c') (nd' : (es'.toList.map (·.born)).Nodup)
    (map' : es'.toList.map (fun e => (e.key, e.val)) = (B1 ++ bs' ++ B2).map (fun b => (.int .u64 b.h, b.v))) (one : bs'.length ≤ 1)
    (bok' : ∀ b ∈ bs', (∃ g cap, b.v = .slice (some ⟨g, 0, none⟩) b.E.length cap ∧ g ≠ K ∧ g ≠ M ∧ g < w'.heap.size ∧ ((∃ b0 ∈ bs, b0.v.ownBlock = some g) ∨ w.heap.size ≤ g) ∧ b.E ≠ [] ∧ w'.ownsRow base 55 3 b.v b.E.length (b.E.flatMap Ent.cells)) ∧ ∀ b0 ∈ B1 ++ B2, b.h ≠ b0.h)
    (ent' : ∀ b ∈ bs', ∀ e ∈ b.E, (∃ b0 ∈ bs, b0.h = b.h ∧ ∃ e0 ∈ b0.E, e0.kv = e.kv ∧ e0.kb = e.kb) ∨ (Row w' e.kv e.kb ∧ Byt e.kb ∧ H e.kb = b.h ∧ ∀ g, e.kv.ownBlock = some g → w.heap.size ≤ g ∧ g < w'.heap.size ∧ b.v.ownBlock ≠ some g))
    (perm' : L'.Perm ((B1 ++ bs' ++ B2).flatMap (·.E))) (asc' : L'.Pairwise (fun e e' => e.last < e'.last)) (dif' : L'.Pairwise (fun e e' => e.kb ≠ e'.kb)) (lst' : ∀ e ∈ L', e.last ≤ now') :
    KParts w' base (fun k => F k ∨ (w.heap.size ≤ k ∧ k < w'.heap.size)) K M mo N H now' f' m' es' c' (B1 ++ bs' ++ B2) L' := by
  have hin : ∀ b ∈ bs', ∀ g, b.v.ownBlock = some g → g ≠ K ∧ g ≠ M ∧ g < w'.heap.size ∧ ((∃ b0 ∈ bs, b0.v.ownBlock = some g) ∨ w.heap.size ≤ g) := fun b hb g hg => by
    obtain ⟨⟨g', cap, h1, h2, h3, h4, h5, -⟩, -⟩ := bok' b hb
    rw [h1] at hg
    cases hg
    exact ⟨h2, h3, h4, h5⟩
  have hout : ∀ b ∈ B1 ++ B2, ∀ g, b.v.ownBlock = some g → g < w.heap.size ∧ g ≠ K ∧ g ≠ M ∧ (∀ b1 ∈ bs, b1.v.ownBlock ≠ some g) := fun b hb g hg => by
    obtain ⟨g', cap, h1, h2, h3, h4, -⟩ := h.bok b (mem_mid.2 (Or.inl hb))
    rw [h1] at hg
    cases hg
    refine ⟨h.fl g' h2, h3, h4, fun b1 hb1 he => ?_⟩
    have := pw_out (R := fun b b' : Bk => b.v.ownBlock ≠ b'.v.ownBlock) (fun a b h => h.symm) h.bl hb hb1
    rw [he, h1] at this
    exact this rfl
  have hdif : ∀ b ∈ B1 ++ B2, ∀ b' ∈ bs', b.v.ownBlock ≠ b'.v.ownBlock := fun b hb b' hb' he => by
    obtain ⟨⟨g, cap, h1, -, -, -, h5, -⟩, -⟩ := bok' b' hb'
    rw [h1] at he
    obtain ⟨a1, -, -, a4⟩ := hout b hb g he
    rcases h5 with ⟨b0, hb0, h6⟩ | h5
    · exact a4 b0 hb0 h6
    · omega
  have hkey : ∀ b ∈ B1 ++ bs ++ B2, ∀ e ∈ b.E, Row w' e.kv e.kb ∧ Byt e.kb ∧ H e.kb = b.h ∧ ∀ g, e.kv.ownBlock = some g → (F g ∨ (w.heap.size ≤ g ∧ g < w'.heap.size)) ∧ g ≠ K ∧ g ≠ M ∧ ∀ b' ∈ B1 ++ bs' ++ B2, b'.v.ownBlock ≠ some g := fun b hb e he => by
    obtain ⟨h1, h2, h3, h4⟩ := h.ent b hb e he
    refine ⟨h1.at (fun g hg => ?_) hsz, h2, h3, fun g hg => ?_⟩
    · obtain ⟨a1, a2, a3, a4⟩ := h4 g hg
      exact hfr g (h.fl g a1) a2 a3 (fun b0 hb0 => a4 b0 (mem_mid.2 (Or.inr hb0)))
    · obtain ⟨a1, a2, a3, a4⟩ := h4 g hg
      refine ⟨Or.inl a1, a2, a3, fun b' hb' hc => ?_⟩
      rcases mem_mid.1 hb' with hb' | hb'
      · exact a4 b' (mem_mid.2 (Or.inl hb')) hc
      · obtain ⟨-, -, -, h5⟩ := hin b' hb' g hc
        rcases h5 with ⟨b0, hb0, h6⟩ | h5
        · exact a4 b0 (mem_mid.2 (Or.inr hb0)) h6
        · have := h.fl g a1; omega
  exact {
    kg := kg'
    bK := h.bK
    bM := h.bM
    bw := Nat.le_trans h.bw hsz
    fK := Or.inl h.fK
    fM := Or.inl h.fM
    fl := fun k hk => by
      rcases hk with hk | hk
      · exact Nat.lt_of_lt_of_le (h.fl k hk) hsz
      · exact hk.2
    old := old'
    nd := nd'
    map := map'
    bok := fun b hb => by
      rcases mem_mid.1 hb with hb | hb
      · obtain ⟨g, cap, h1, h2, h3, h4, h5, h6⟩ := h.bok b (mem_mid.2 (Or.inl hb))
        obtain ⟨a1, a2, a3, a4⟩ := hout b hb g (by rw [h1]; rfl)
        exact ⟨g, cap, h1, Or.inl h2, h3, h4, h5, ownsRow_mono h6 (fun g' hg' => by rw [h1] at hg'; cases hg'; exact hfr g a1 a2 a3 a4)⟩
      · obtain ⟨⟨g, cap, h1, h2, h3, h4, h5, h6, h7⟩, -⟩ := bok' b hb
        refine ⟨g, cap, h1, ?_, h2, h3, h6, h7⟩
        rcases h5 with ⟨b0, hb0, h8⟩ | h5
        · obtain ⟨g0, cap0, i1, i2, -⟩ := h.bok b0 (mem_mid.2 (Or.inr hb0))
          rw [i1] at h8
          cases h8
          exact Or.inl i2
        · exact Or.inr ⟨h5, h4⟩
    hs := pw_mid h.hs one (fun a ha b hb => ((bok' b hb).2 a (List.mem_append.2 (Or.inl ha))).symm) (fun b hb a ha => (bok' b hb).2 a (List.mem_append.2 (Or.inr ha)))
    bl := pw_mid h.bl one (fun a ha b hb => hdif a (List.mem_append.2 (Or.inl ha)) b hb) (fun b hb a ha => (hdif a (List.mem_append.2 (Or.inr ha)) b hb).symm)
    ent := fun b hb e he => by
      rcases mem_mid.1 hb with hb | hb
      · exact hkey b (mem_mid.2 (Or.inl hb)) e he
      · rcases ent' b hb e he with ⟨b0, hb0, hh, e0, he0, hkv, hkb⟩ | ⟨h1, h2, h3, h4⟩
        · have := hkey b0 (mem_mid.2 (Or.inr hb0)) e0 he0
          rw [hkv, hkb, hh] at this
          exact this
        · refine ⟨h1, h2, h3, fun g hg => ?_⟩
          obtain ⟨a1, a2, a3⟩ := h4 g hg
          have hK := h.fl K h.fK
          have hM := h.fl M h.fM
          refine ⟨Or.inr ⟨a1, a2⟩, by omega, by omega, fun b' hb' hc => ?_⟩
          rcases mem_mid.1 hb' with hb' | hb'
          · have := (hout b' hb' g hc).1
            omega
          · have : b' = b := by
              match bs', one with
              | [], _ => simp at hb
              | [x], _ => simp at hb hb'; rw [hb, hb']
              | _ :: _ :: _, hl => simp at hl
            rw [this] at hc
            exact a3 hc
    perm := perm'
    asc := asc'
    dif := dif'
    lst := lst' }
end Go.Proofs.Ytebldhppnacdjab
