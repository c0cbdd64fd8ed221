/- A keep's invariant: an entry found, or put anew; one driven out; one more. -/
import Derived.Test.YtebldhppnacdjabKr
set_option linter.unusedVariables false
namespace Go.Proofs.Ytebldhppnacdjab
open Go.RowKit
def pr (e : Ent) : List Int × Int := (e.kb, e.x)
/-- the list without a key. -/
def aDel (P : List (List Int × Int)) (l : List Int) : List (List Int × Int) := P.filter fun q => decide (q.1 ≠ l)
theorem aDel_split {L1 L2 : List Ent} {e : Ent} (hd : (L1 ++ e :: L2).Pairwise (fun e e' => e.kb ≠ e'.kb)) : aDel ((L1 ++ e :: L2).map pr) e.kb = (L1 ++ L2).map pr := by
  rw [List.pairwise_append, List.pairwise_cons] at hd
  obtain ⟨-, ⟨h2, -⟩, h3⟩ := hd
  unfold aDel
  rw [List.map_append, List.map_cons, List.filter_append, List.filter_cons, List.map_append]
  have e0 : decide ((pr e).1 ≠ e.kb) = false := by simp [pr]
  rw [e0, if_neg (by decide)]
  congr 1
  · refine List.filter_eq_self.2 (fun q hq => ?_)
    obtain ⟨a, ha, rfl⟩ := List.mem_map.1 hq
    exact decide_eq_true (h3 a ha e (by simp))
  · refine List.filter_eq_self.2 (fun q hq => ?_)
    obtain ⟨a, ha, rfl⟩ := List.mem_map.1 hq
    exact decide_eq_true (fun hc => h2 a ha (show e.kb = a.kb from hc.symm))
theorem perm_less {α : Type} {L1 L2 X Y : List α} {e : α} (h : (L1 ++ e :: L2).Perm (X ++ e :: Y)) : (L1 ++ L2).Perm (X ++ Y) :=
  List.Perm.cons_inv ((List.perm_middle.symm.trans h).trans List.perm_middle)
theorem perm_swap {α : Type} {L1 L2 X Y : List α} {e e' : α} (h : (L1 ++ e :: L2).Perm (X ++ e :: Y)) : (L1 ++ L2 ++ [e']).Perm (X ++ e' :: Y) :=
  ((List.perm_append_comm (l₁ := L1 ++ L2) (l₂ := [e'])).trans (List.Perm.cons e' (perm_less (L1 := L1) (L2 := L2) (X := X) (Y := Y) (e := e) h))).trans List.perm_middle.symm
theorem perm_more {α : Type} {L X Y : List α} {e' : α} (h : L.Perm (X ++ Y)) : (L ++ [e']).Perm (X ++ e' :: Y) :=
  ((List.perm_append_comm (l₁ := L) (l₂ := [e'])).trans (List.Perm.cons e' h)).trans List.perm_middle.symm
theorem flat3 (B1 B2 : List Bk) (b : Bk) : (B1 ++ [b] ++ B2).flatMap (·.E) = B1.flatMap (·.E) ++ (b.E ++ B2.flatMap (·.E)) := by
  simp [List.flatMap_append, List.flatMap_cons, List.append_assoc]
theorem mid_eq {α : Type} (B1 B2 : List α) (b : α) : B1 ++ b :: B2 = B1 ++ [b] ++ B2 := by simp
theorem pw_snoc {α : Type} {R : α → α → Prop} {L : List α} {e : α} (h : L.Pairwise R) (he : ∀ a ∈ L, R a e) : (L ++ [e]).Pairwise R := by
  rw [List.pairwise_append]
  refine ⟨h, by simp, fun a ha b hb => ?_⟩
  simp only [List.mem_singleton] at hb
  subst hb
  exact he a ha
section
variable {w w' : World} {base : Nat} {F : Nat → Prop} {K M : Nat} {mo : Int} {N : Nat} {H : List Int → Int} {now f f' m m' : Int} {es : Array MapEntry} {c : Nat} {BL : List Bk} {L : List Ent}
theorem KParts.mem_L (h : KParts w base F K M mo N H now f m es c BL L) {b : Bk} (hb : b ∈ BL) {e : Ent} (he : e ∈ b.E) : e ∈ L := h.perm.mem_iff.2 (List.mem_flatMap.2 ⟨b, hb, he⟩)
theorem KParts.of_L (h : KParts w base F K M mo N H now f m es c BL L) {e : Ent} (he : e ∈ L) : ∃ b ∈ BL, e ∈ b.E := List.mem_flatMap.1 (h.perm.mem_iff.1 he)
theorem KParts.swap (h : KParts w base F K M mo N H now f m es c BL L) {b : Bk} (hb : b ∈ BL) {j : Nat} {e : Ent} (hj : b.E[j]? = some e) {g cap : Nat} (hv : b.v = .slice (some ⟨g, 0, none⟩) b.E.length cap) (x' : Int) (hsz : w.heap.size ≤ w'.heap.size)
    (hfr : ∀ k, k < w.heap.size → k ≠ K → k ≠ g → w'.heap[k]? = w.heap[k]?) (kg' : KeepG w' K M mo N (L.length : Int) (now + 1) f' m' es c)
    (hown : w'.ownsRow base 55 3 b.v b.E.length ((b.E.set j { e with x := x', last := now + 1 }).flatMap Ent.cells)) :
    ∃ BL' L', KParts w' base (fun k => F k ∨ (w.heap.size ≤ k ∧ k < w'.heap.size)) K M mo N H (now + 1) f' m' es c BL' L' ∧ L'.map pr = aDel (L.map pr) e.kb ++ [(e.kb, x')] := by
  have heb : e ∈ b.E := List.mem_of_getElem? hj
  have heL := h.mem_L hb heb
  obtain ⟨L1, L2, hL⟩ := List.append_of_mem heL
  obtain ⟨B1, B2, hB⟩ := List.append_of_mem hb
  rw [mid_eq] at hB
  subst hB hL
  obtain ⟨e', he'⟩ : ∃ e', e' = ({ e with x := x', last := now + 1 } : Ent) := ⟨_, rfl⟩
  rw [← he'] at hown
  have hkb : e'.kb = e.kb := by rw [he']
  have hkv : e'.kv = e.kv := by rw [he']
  have hla : e'.last = now + 1 := by rw [he']
  have hsub : (L1 ++ L2).Sublist (L1 ++ e :: L2) := List.Sublist.append_left (List.sublist_cons_self _ _) _
  have hset := set_at hj e'
  have hspl := split_at hj
  refine ⟨B1 ++ [{ b with E := b.E.set j e' }] ++ B2, L1 ++ L2 ++ [e'], h.rebuild hsz (fun k k1 k2 k3 k4 => hfr k k1 k2 (fun e => k4 b (by simp) (by rw [hv, e]; rfl))) ?_ h.old h.nd ?_ (by simp) ?_ ?_ ?_ ?_ ?_ ?_, ?_⟩
  · have : (L1 ++ L2 ++ [e']).length = (L1 ++ e :: L2).length := by simp only [List.length_append, List.length_cons, List.length_nil]; omega
    rw [this]; exact kg'
  · rw [h.map]; simp
  · intro b0 hb0
    simp only [List.mem_singleton] at hb0
    subst hb0
    obtain ⟨g', cap', h1, h2, h3, h4, h5, h6⟩ := h.bok b (by simp)
    refine ⟨⟨g', cap', by simpa using h1, h3, h4, Nat.lt_of_lt_of_le (h.fl g' h2) hsz, Or.inl ⟨b, by simp, by rw [h1]; rfl⟩, ?_, ?_⟩, fun b0 hb0 => ?_⟩
    · show b.E.set j e' ≠ []
      rw [hset]; simp
    · simpa using hown
    · exact (pw_out (R := fun b b' : Bk => b.h ≠ b'.h) (fun a b h => h.symm) h.hs (b := b) hb0 (List.mem_singleton.2 rfl)).symm
  · intro b0 hb0 e0 he0
    simp only [List.mem_singleton] at hb0
    subst hb0
    refine Or.inl ⟨b, by simp, rfl, ?_⟩
    rcases List.mem_or_eq_of_mem_set he0 with h1 | rfl
    · exact ⟨e0, h1, rfl, rfl⟩
    · exact ⟨e, heb, hkv.symm, hkb.symm⟩
  · have h1 := h.perm
    rw [flat3] at h1 ⊢
    show (L1 ++ L2 ++ [e']).Perm (B1.flatMap (·.E) ++ (b.E.set j e' ++ B2.flatMap (·.E)))
    rw [hset]
    rw [hspl] at h1
    have := perm_swap (e' := e') (L1 := L1) (L2 := L2) (X := B1.flatMap (·.E) ++ b.E.take j) (Y := b.E.drop (j + 1) ++ B2.flatMap (·.E)) (e := e) (by simpa [List.append_assoc] using h1)
    simpa [List.append_assoc] using this
  · exact pw_snoc (h.asc.sublist hsub) (fun a ha => by rw [hla]; have := h.lst a (hsub.subset ha); omega)
  · refine pw_snoc (h.dif.sublist hsub) (fun a ha => ?_)
    rw [hkb]
    have hd := h.dif
    rw [List.pairwise_append, List.pairwise_cons] at hd
    obtain ⟨-, ⟨h2, -⟩, h3⟩ := hd
    rcases List.mem_append.1 ha with h1 | h1
    · exact h3 a h1 e (by simp)
    · exact (h2 a h1).symm
  · intro a ha
    rcases List.mem_append.1 ha with h1 | h1
    · have := h.lst a (hsub.subset h1); omega
    · simp only [List.mem_singleton] at h1
      rw [h1, hla]; exact Int.le_refl _
  · rw [aDel_split h.dif, List.map_append]
    show _ ++ [pr e'] = _
    rw [he']
    rfl
/-- the map's entry of a bucket. -/
theorem es_split {es : Array MapEntry} {B1 B2 : List Bk} {b : Bk} (hK : Keys es) (hmap : es.toList.map (fun e => (e.key, e.val)) = (B1 ++ [b] ++ B2).map (fun b => (.int .u64 b.h, b.v))) {j : Nat} {me : MapEntry} (hj : es.toList[j]? = some me) (hk : me.key = .int .u64 b.h) :
    (es.toList.take j).map (fun e => (e.key, e.val)) = B1.map (fun b => (Value.int .u64 b.h, b.v)) ∧ (es.toList.drop (j + 1)).map (fun e => (e.key, e.val)) = B2.map (fun b => (Value.int .u64 b.h, b.v)) := by
  have h1 : (es.toList.map (fun e => (e.key, e.val)))[B1.length]? = some (Value.int .u64 b.h, b.v) := by rw [hmap]; simp
  rw [List.getElem?_map] at h1
  cases he : es.toList[B1.length]? with
  | none => rw [he] at h1; simp at h1
  | some me' =>
    rw [he] at h1
    simp only [Option.map_some, Option.some.injEq, Prod.mk.injEq] at h1
    have hjb : j = B1.length := hK.2 j B1.length me me' hj he (by rw [hk, h1.1])
    subst hjb
    constructor
    · rw [List.map_take, hmap]; simp
    · rw [List.map_drop, hmap, List.map_append, List.map_append, List.append_assoc, List.drop_append]; simp
theorem KParts.less (h : KParts w base F K M mo N H now f m es c BL L) {b : Bk} (hb : b ∈ BL) {i : Nat} {e0 : Ent} (hi : b.E[i]? = some e0) (hmin : ∀ b' ∈ BL, ∀ (i' : Nat) e', b'.E[i']? = some e' → e0.last ≤ e'.last) {g cap : Nat} (hv : b.v = .slice (some ⟨g, 0, none⟩) b.E.length cap)
    {j : Nat} {me : MapEntry} (hj : es.toList[j]? = some me) (hk : me.key = .int .u64 b.h) (hsz : w.heap.size ≤ w'.heap.size) (hfr : ∀ k, k < w.heap.size → k ≠ K → k ≠ M → k ≠ g → w'.heap[k]? = w.heap[k]?)
    (hown : w'.ownsRow base 55 3 (.slice (some ⟨g, 0, none⟩) (b.E.length - 1) cap) (b.E.length - 1) ((b.E.flatMap Ent.cells).take (i * 3) ++ (b.E.flatMap Ent.cells).drop ((i + 1) * 3)))
    (kg' : KeepG w' K M mo N ((L.length : Int) - 1) now f m (lessMap es j b.h (.slice (some ⟨g, 0, none⟩) (b.E.length - 1) cap) (decide (b.E.length = 1))) c) :
    ∃ es' BL' L', KParts w' base (fun k => F k ∨ (w.heap.size ≤ k ∧ k < w'.heap.size)) K M mo N H now f m es' c BL' L' ∧ L' = L.tail := by
  have heb : e0 ∈ b.E := List.mem_of_getElem? hi
  have heL := h.mem_L hb heb
  have hK := h.keys
  have hspl := split_at hi
  obtain ⟨B1, B2, hB⟩ := List.append_of_mem hb
  rw [mid_eq] at hB
  -- it is the list's first
  obtain ⟨L2, hL⟩ : ∃ L2, L = e0 :: L2 := by
    cases hL : L with
    | nil => rw [hL] at heL; simp at heL
    | cons a L2 =>
      rw [hL] at heL
      rcases List.mem_cons.1 heL with h1 | h1
      · exact ⟨L2, by rw [h1]⟩
      · have ha := h.asc
        rw [hL, List.pairwise_cons] at ha
        have h2 := ha.1 e0 h1
        obtain ⟨b', hb', he'⟩ := h.of_L (e := a) (by rw [hL]; simp)
        obtain ⟨i', hi'⟩ := List.getElem?_of_mem he'
        have := hmin b' hb' i' a hi'
        omega
  subst hB hL
  obtain ⟨hT1, hT2⟩ := es_split hK h.map hj hk
  have hlen : (((e0 :: L2).length : Int) - 1) = (L2.length : Int) := by simp
  rw [hlen] at kg'
  have hE : (b.E.flatMap Ent.cells).take (i * 3) ++ (b.E.flatMap Ent.cells).drop ((i + 1) * 3) = (b.E.take i ++ b.E.drop (i + 1)).flatMap Ent.cells := by
    rw [cells_take, cells_drop, List.flatMap_append]
  rw [hE] at hown
  have hperm : L2.Perm (B1.flatMap (·.E) ++ ((b.E.take i ++ b.E.drop (i + 1)) ++ B2.flatMap (·.E))) := by
    have h1 := h.perm
    rw [flat3, hspl] at h1
    have := perm_less (L1 := []) (L2 := L2) (X := B1.flatMap (·.E) ++ b.E.take i) (Y := b.E.drop (i + 1) ++ B2.flatMap (·.E)) (e := e0) (by simpa [List.append_assoc] using h1)
    simpa [List.append_assoc] using this
  have hil : i < b.E.length := (List.getElem?_eq_some_iff.1 hi).1
  have hlen2 : (b.E.take i ++ b.E.drop (i + 1)).length = b.E.length - 1 := by simp; omega
  have hasc := (List.pairwise_cons.1 h.asc).2
  have hdif := (List.pairwise_cons.1 h.dif).2
  have hlst : ∀ e ∈ L2, e.last ≤ now := fun e he => h.lst e (by simp [he])
  have hmod := toList_modify hj (fun e => { e with key := .int .u64 b.h, val := .slice (some ⟨g, 0, none⟩) (b.E.length - 1) cap })
  have hsp := split_at hj
  by_cases h1 : b.E.length = 1
  · rw [decide_eq_true h1] at kg'
    have hes : (lessMap es j b.h (.slice (some ⟨g, 0, none⟩) (b.E.length - 1) cap) true).toList = es.toList.take j ++ es.toList.drop (j + 1) := by
      unfold lessMap
      rw [if_pos rfl]
      have hjs : j < (es.modify j fun e => { e with key := .int .u64 b.h, val := .slice (some ⟨g, 0, none⟩) (b.E.length - 1) cap }).size := by
        rw [Array.size_modify]
        have := (List.getElem?_eq_some_iff.1 hj).1
        simpa using this
      unfold Array.eraseIdxIfInBounds
      rw [dif_pos hjs, Array.toList_eraseIdx, hmod, List.eraseIdx_eq_take_drop_succ, List.take_set_of_le (Nat.le_refl _), List.drop_set_of_lt (by omega)]
    have hsubE : (es.toList.take j ++ es.toList.drop (j + 1)).Sublist es.toList := by
      conv => rhs; rw [hsp]
      exact List.Sublist.append_left (List.sublist_cons_self _ _) _
    have he : b.E.take i ++ b.E.drop (i + 1) = [] := List.length_eq_zero_iff.1 (by rw [hlen2]; omega)
    rw [he] at hperm
    refine ⟨_, B1 ++ [] ++ B2, L2, h.rebuild (bs := [b]) (bs' := []) hsz (fun k k1 k2 k3 k4 => hfr k k1 k2 k3 (fun e => k4 b (by simp) (by rw [hv, e]; rfl))) kg' ?_ ?_ ?_ (by simp) (by simp) (by simp) ?_ hasc hdif hlst, by simp⟩
    · intro x hx
      rw [hes] at hx
      exact h.old x (hsubE.subset hx)
    · rw [hes]
      exact (hsubE.map _).nodup h.nd
    · rw [hes, List.map_append, hT1, hT2]; simp
    · simpa using hperm
  · rw [decide_eq_false h1] at kg'
    have hes : (lessMap es j b.h (.slice (some ⟨g, 0, none⟩) (b.E.length - 1) cap) false).toList = es.toList.take j ++ { me with key := .int .u64 b.h, val := .slice (some ⟨g, 0, none⟩) (b.E.length - 1) cap } :: es.toList.drop (j + 1) := by
      unfold lessMap
      rw [if_neg (by decide), hmod, set_at hj]
    refine ⟨_, B1 ++ [{ b with v := .slice (some ⟨g, 0, none⟩) (b.E.length - 1) cap, E := b.E.take i ++ b.E.drop (i + 1) }] ++ B2, L2, h.rebuild (bs := [b]) hsz (fun k k1 k2 k3 k4 => hfr k k1 k2 k3 (fun e => k4 b (by simp) (by rw [hv, e]; rfl))) kg' ?_ ?_ ?_ (by simp) ?_ ?_ ?_ hasc hdif hlst, by simp⟩
    · intro x hx
      rw [hes] at hx
      rcases List.mem_append.1 hx with hx | hx
      · exact h.old x (List.mem_of_mem_take hx)
      · rcases List.mem_cons.1 hx with rfl | hx
        · exact h.old me (List.mem_of_getElem? hj)
        · exact h.old x (List.mem_of_mem_drop hx)
    · rw [hes]
      have h2 := h.nd
      rw [hsp] at h2
      simpa using h2
    · rw [hes, List.map_append, List.map_cons, hT1, hT2]; simp
    · intro b0 hb0
      simp only [List.mem_singleton] at hb0
      subst hb0
      obtain ⟨g', cap', i1, i2, i3, i4, i5, i6⟩ := h.bok b (by simp)
      have : g' = g := by rw [hv] at i1; simp at i1; exact i1.1.symm
      subst this
      refine ⟨⟨g', cap, ?_, i3, i4, Nat.lt_of_lt_of_le (h.fl g' i2) hsz, Or.inl ⟨b, by simp, by rw [hv]; rfl⟩, ?_, ?_⟩, fun b0 hb0 => ?_⟩
      · rw [hlen2]
      · intro hc
        have hc2 : b.E.take i ++ b.E.drop (i + 1) = [] := hc
        rw [hc2] at hlen2
        simp only [List.length_nil] at hlen2
        omega
      · rw [hlen2]; exact hown
      · exact (pw_out (R := fun b b' : Bk => b.h ≠ b'.h) (fun a b h => h.symm) h.hs (b := b) hb0 (List.mem_singleton.2 rfl)).symm
    · intro b0 hb0 e he
      simp only [List.mem_singleton] at hb0
      subst hb0
      refine Or.inl ⟨b, by simp, rfl, e, ?_, rfl, rfl⟩
      rcases List.mem_append.1 he with h2 | h2
      · exact List.mem_of_mem_take h2
      · exact List.mem_of_mem_drop h2
    · rw [flat3]; exact hperm
end
end Go.Proofs.Ytebldhppnacdjab
