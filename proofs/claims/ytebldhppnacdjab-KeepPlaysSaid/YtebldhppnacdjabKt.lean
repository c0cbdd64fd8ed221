/- A keep's invariant: one entry more. -/
import Derived.Test.YtebldhppnacdjabKs
set_option linter.unusedVariables false
namespace Go.Proofs.Ytebldhppnacdjab
open Go.RowKit
section
variable {w w' : World} {base : Nat} {F : Nat → Prop} {K M : Nat} {mo : Int} {N : Nat} {H : List Int → Int} {now f f' m m' : Int} {es : Array MapEntry} {c : Nat} {BL : List Bk} {L : List Ent}
theorem KParts.addA (h : KParts w base F K M mo N H now f m es c BL L) {b : Bk} (hb : b ∈ BL) {l : List Int} (hh : b.h = H l) (hl : Byt l) (hnew : ∀ e ∈ L, e.kb ≠ l) {j : Nat} {me : MapEntry} (hj : es.toList[j]? = some me) (hk : me.key = .int .u64 b.h) (hlast : ∀ e ∈ L, e.last < now) {x : Int}
    (PE : PutEnd base K M mo N (L.length : Int) now f m x l w b.v b.E.length (b.E.flatMap Ent.cells) (fun v' => es.modify j fun e => { e with key := .int .u64 b.h, val := v' }) c w') :
    ∃ es' BL' L', KParts w' base (fun k => F k ∨ (w.heap.size ≤ k ∧ k < w'.heap.size)) K M mo N H now f m es' c BL' L' ∧ L'.map pr = L.map pr ++ [(l, x)] := by
  obtain ⟨hB, hfr, g, cap, k', kg, hown, hgv, hgK, hgM, hgl, hrow, hkf⟩ := PE
  have hK := h.keys
  obtain ⟨B1, B2, hBL⟩ := List.append_of_mem hb
  rw [mid_eq] at hBL
  subst hBL
  obtain ⟨hT1, hT2⟩ := es_split hK h.map hj hk
  have hes : (es.modify j fun e => { e with key := .int .u64 b.h, val := .slice (some ⟨g, 0, none⟩) (b.E.length + 1) cap }).toList = es.toList.take j ++ { me with key := .int .u64 b.h, val := .slice (some ⟨g, 0, none⟩) (b.E.length + 1) cap } :: es.toList.drop (j + 1) := by
    rw [toList_modify hj, set_at hj]
  have hsp := split_at hj
  obtain ⟨en, hen⟩ : ∃ en, en = (⟨k', l, x, now⟩ : Ent) := ⟨_, rfl⟩
  have hcells : b.E.flatMap Ent.cells ++ [k', .int .i64 x, .int .i64 now] = (b.E ++ [en]).flatMap Ent.cells := by
    rw [List.flatMap_append, hen]; simp [Ent.cells]
  rw [hcells] at hown
  refine ⟨es.modify j fun e => { e with key := .int .u64 b.h, val := .slice (some ⟨g, 0, none⟩) (b.E.length + 1) cap }, B1 ++ [{ b with v := .slice (some ⟨g, 0, none⟩) (b.E.length + 1) cap, E := b.E ++ [en] }] ++ B2, L ++ [en], h.rebuild (bs := [b]) hB.size (fun k k1 k2 k3 k4 => hfr k k1 k2 k3 (k4 b (by simp))) ?_ ?_ ?_ ?_ (by simp) ?_ ?_ ?_ ?_ ?_ ?_, ?_⟩
  · have : (((L ++ [en]).length : Nat) : Int) = (L.length : Int) + 1 := by rw [List.length_append]; simp
    rw [this]; exact kg
  · intro a ha
    rw [hes] at ha
    rcases List.mem_append.1 ha with ha | ha
    · exact h.old a (List.mem_of_mem_take ha)
    · rcases List.mem_cons.1 ha with rfl | ha
      · exact h.old me (List.mem_of_getElem? hj)
      · exact h.old a (List.mem_of_mem_drop ha)
  · rw [hes]
    have h2 := h.nd
    rw [hsp] at h2
    simpa using h2
  · rw [hes, List.map_append, List.map_cons, hT1, hT2]; simp
  · intro b0 hb0
    simp only [List.mem_singleton] at hb0
    subst hb0
    refine ⟨⟨g, cap, by simp, hgK, hgM, hgl, ?_, by simp, ?_⟩, fun b0 hb0 => ?_⟩
    · rcases hgv with h1 | h1
      · exact Or.inl ⟨b, by simp, h1⟩
      · exact Or.inr h1
    · have : (b.E ++ [en]).length = b.E.length + 1 := by simp
      show w'.ownsRow base 55 3 _ (b.E ++ [en]).length _
      rw [this]; exact hown
    · exact (pw_out (R := fun b b' : Bk => b.h ≠ b'.h) (fun a b h => h.symm) h.hs (b := b) hb0 (List.mem_singleton.2 rfl)).symm
  · intro b0 hb0 e he
    simp only [List.mem_singleton] at hb0
    subst hb0
    rcases List.mem_append.1 he with h1 | h1
    · exact Or.inl ⟨b, by simp, rfl, e, h1, rfl, rfl⟩
    · simp only [List.mem_singleton] at h1
      subst h1
      rw [hen]
      refine Or.inr ⟨hrow, hl, hh.symm, fun g4 h4 => ?_⟩
      obtain ⟨a1, a2, a3⟩ := hkf g4 h4
      exact ⟨a1, a2, fun hc => a3 (Option.some.inj (show some g = some g4 from hc)).symm⟩
  · have h1 := h.perm
    rw [flat3] at h1 ⊢
    have := perm_more (e' := en) (L := L) (X := B1.flatMap (·.E) ++ b.E) (Y := B2.flatMap (·.E)) (by simpa [List.append_assoc] using h1)
    simpa [List.append_assoc] using this
  · exact pw_snoc h.asc (fun a ha => by rw [hen]; exact hlast a ha)
  · exact pw_snoc h.dif (fun a ha => by rw [hen]; exact hnew a ha)
  · intro a ha
    rcases List.mem_append.1 ha with h1 | h1
    · exact h.lst a h1
    · simp only [List.mem_singleton] at h1
      rw [h1, hen]; exact Int.le_refl _
  · rw [List.map_append, hen]; rfl
theorem KParts.addB (h : KParts w base F K M mo N H now f m es c BL L) {l : List Int} (hno : ∀ b ∈ BL, b.h ≠ H l) (hl : Byt l) (hnew : ∀ e ∈ L, e.kb ≠ l) (hlast : ∀ e ∈ L, e.last < now) {x : Int}
    (PE : PutEnd base K M mo N (L.length : Int) now f m x l w (.slice none 0 0) 0 [] (fun v' => es.push ⟨.int .u64 (H l), v', c⟩) (c + 1) w') :
    ∃ es' BL' L', KParts w' base (fun k => F k ∨ (w.heap.size ≤ k ∧ k < w'.heap.size)) K M mo N H now f m es' (c + 1) BL' L' ∧ L'.map pr = L.map pr ++ [(l, x)] := by
  obtain ⟨hB, hfr, g, cap, k', kg, hown, hgv, hgK, hgM, hgl, hrow, hkf⟩ := PE
  have h0 : KParts w base F K M mo N H now f m es c (BL ++ [] ++ []) L := by simpa using h
  obtain ⟨en, hen⟩ : ∃ en, en = (⟨k', l, x, now⟩ : Ent) := ⟨_, rfl⟩
  have hcells : ([] : List Value) ++ [k', .int .i64 x, .int .i64 now] = [en].flatMap Ent.cells := by
    rw [hen]; simp [Ent.cells]
  rw [hcells] at hown
  have hgw : w.heap.size ≤ g := by
    rcases hgv with h1 | h1
    · cases h1
    · exact h1
  refine ⟨es.push ⟨.int .u64 (H l), .slice (some ⟨g, 0, none⟩) (0 + 1) cap, c⟩, BL ++ [⟨H l, .slice (some ⟨g, 0, none⟩) (0 + 1) cap, [en]⟩] ++ [], L ++ [en], h0.rebuild (bs := []) hB.size (fun k k1 k2 k3 k4 => hfr k k1 k2 k3 (fun hc => by cases hc)) ?_ ?_ ?_ ?_ (by simp) ?_ ?_ ?_ ?_ ?_ ?_, ?_⟩
  · have : (((L ++ [en]).length : Nat) : Int) = (L.length : Int) + 1 := by rw [List.length_append]; simp
    rw [this]; exact kg
  · intro a ha
    rw [Array.toList_push] at ha
    rcases List.mem_append.1 ha with ha | ha
    · have := h.old a ha; omega
    · simp only [List.mem_singleton] at ha
      subst ha
      exact Nat.lt_succ_self c
  · rw [Array.toList_push, List.map_append]
    have hnd := h.nd
    unfold List.Nodup at hnd ⊢
    refine pw_snoc hnd (fun a ha => ?_)
    obtain ⟨e, he, rfl⟩ := List.mem_map.1 ha
    have := h.old e he
    show e.born ≠ c
    omega
  · rw [Array.toList_push, List.map_append, h.map]; simp
  · intro b0 hb0
    simp only [List.mem_singleton] at hb0
    subst hb0
    refine ⟨⟨g, cap, rfl, hgK, hgM, hgl, Or.inr hgw, by simp, hown⟩, fun b0 hb0 => ?_⟩
    exact (hno b0 (by simpa using hb0)).symm
  · intro b0 hb0 e he
    simp only [List.mem_singleton] at hb0
    subst hb0
    simp only [List.mem_singleton] at he
    subst he
    rw [hen]
    refine Or.inr ⟨hrow, hl, rfl, fun g4 h4 => ?_⟩
    obtain ⟨a1, a2, a3⟩ := hkf g4 h4
    exact ⟨a1, a2, fun hc => a3 (Option.some.inj (show some g = some g4 from hc)).symm⟩
  · have h1 := h.perm
    have := perm_more (e' := en) (L := L) (X := BL.flatMap (·.E)) (Y := []) (by simpa using h1)
    simpa [List.flatMap_append] using this
  · exact pw_snoc h.asc (fun a ha => by rw [hen]; exact hlast a ha)
  · exact pw_snoc h.dif (fun a ha => by rw [hen]; exact hnew a ha)
  · intro a ha
    rcases List.mem_append.1 ha with h1 | h1
    · exact h.lst a h1
    · simp only [List.mem_singleton] at h1
      rw [h1, hen]; exact Int.le_refl _
  · rw [List.map_append, hen]; rfl
end
end Go.Proofs.Ytebldhppnacdjab
