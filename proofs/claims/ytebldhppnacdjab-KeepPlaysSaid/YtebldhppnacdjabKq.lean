/- A keep's invariant: what it shows; the plain parts. -/
import Derived.Test.YtebldhppnacdjabKp
import Derived.Lib.Bytes
set_option linter.unusedVariables false
namespace Go.Proofs.Ytebldhppnacdjab
open Go.RowKit
/-- numbers of bytes. -/
def Byt (l : List Int) : Prop := ∀ x ∈ l, 0 ≤ x ∧ x < 256
theorem bytesOf_inj : ∀ (l1 l2 : List Int), Byt l1 → Byt l2 → Lib.bytesOf l1 = Lib.bytesOf l2 → l1 = l2
  | [], [], _, _, _ => rfl
  | [], _ :: _, _, _, h => by simp [Lib.bytesOf] at h
  | _ :: _, [], _, _, h => by simp [Lib.bytesOf] at h
  | a :: l1, b :: l2, h1, h2, h => by
    simp only [Lib.bytesOf, List.map_cons, List.cons.injEq] at h
    obtain ⟨ha, hr⟩ := h
    have a1 := h1 a (by simp)
    have b1 := h2 b (by simp)
    have : a.toNat = b.toNat := by
      have := congrArg UInt8.toNat ha
      simp only [UInt8.toNat_ofNat'] at this
      omega
    rw [bytesOf_inj l1 l2 (fun x hx => h1 x (by simp [hx])) (fun x hx => h2 x (by simp [hx])) hr]
    congr 1
    omega
theorem keyEq_iff {l1 l2 : List Int} (h1 : Byt l1) (h2 : Byt l2) : keyEq l1 l2 = true ↔ l1 = l2 := by
  unfold keyEq
  rw [Lib.strOfNums_toList, Lib.strOfNums_toList, beq_iff_eq]
  exact ⟨bytesOf_inj l1 l2 h1 h2, fun h => by rw [h]⟩
theorem keyEq_no {l1 l2 : List Int} (h1 : Byt l1) (h2 : Byt l2) (h : l1 ≠ l2) : keyEq l1 l2 = false := by
  cases hc : keyEq l1 l2 with
  | false => rfl
  | true => exact absurd ((keyEq_iff h1 h2).1 hc) h
theorem cells_length : ∀ (E : List Ent), (E.flatMap Ent.cells).length = E.length * 3
  | [] => rfl
  | e :: E => by
    rw [List.flatMap_cons, List.length_append, cells_length E, List.length_cons]
    show 3 + _ = _
    omega
theorem cells_at : ∀ (E : List Ent) (j : Nat) (e : Ent), E[j]? = some e → (E.flatMap Ent.cells)[j * 3]? = some e.kv ∧ (E.flatMap Ent.cells)[j * 3 + 1]? = some (.int .i64 e.x) ∧ (E.flatMap Ent.cells)[j * 3 + 2]? = some (.int .i64 e.last)
  | [], j, e, h => by simp at h
  | a :: E, 0, e, h => by
    simp at h; subst h
    exact ⟨rfl, rfl, rfl⟩
  | a :: E, j + 1, e, h => by
    have := cells_at E j e (by simpa using h)
    have hs : ∀ i, (List.flatMap Ent.cells (a :: E))[i + 3]? = (List.flatMap Ent.cells E)[i]? := fun i => rfl
    have e0 : (j + 1) * 3 = j * 3 + 3 := by omega
    rw [e0, hs, show j * 3 + 3 + 1 = j * 3 + 1 + 3 by omega, hs, show j * 3 + 3 + 2 = j * 3 + 2 + 3 by omega, hs]
    exact this
theorem cells_set2 (y : Int) : ∀ (E : List Ent) (j : Nat) (e : Ent), E[j]? = some e → (E.flatMap Ent.cells).set (j * 3 + 2) (.int .i64 y) = (E.set j { e with last := y }).flatMap Ent.cells
  | [], j, e, h => by simp at h
  | a :: E, 0, e, h => by
    simp at h; subst h
    rfl
  | a :: E, j + 1, e, h => by
    have := cells_set2 y E j e (by simpa using h)
    rw [List.set_cons_succ, List.flatMap_cons, List.flatMap_cons, ← this]
    rw [show (j + 1) * 3 + 2 = j * 3 + 2 + 3 by omega]
    rfl
theorem cells_set1 (y : Int) : ∀ (E : List Ent) (j : Nat) (e : Ent), E[j]? = some e → (E.flatMap Ent.cells).set (j * 3 + 1) (.int .i64 y) = (E.set j { e with x := y }).flatMap Ent.cells
  | [], j, e, h => by simp at h
  | a :: E, 0, e, h => by
    simp at h; subst h
    rfl
  | a :: E, j + 1, e, h => by
    have := cells_set1 y E j e (by simpa using h)
    rw [List.set_cons_succ, List.flatMap_cons, List.flatMap_cons, ← this]
    rw [show (j + 1) * 3 + 1 = j * 3 + 1 + 3 by omega]
    rfl
theorem cells_take : ∀ (E : List Ent) (i : Nat), (E.flatMap Ent.cells).take (i * 3) = (E.take i).flatMap Ent.cells
  | [], i => by simp
  | a :: E, 0 => by simp
  | a :: E, i + 1 => by
    rw [List.take_succ_cons, List.flatMap_cons, List.flatMap_cons, ← cells_take E i, show (i + 1) * 3 = i * 3 + 3 by omega]
    rfl
theorem cells_drop : ∀ (E : List Ent) (i : Nat), (E.flatMap Ent.cells).drop (i * 3) = (E.drop i).flatMap Ent.cells
  | [], i => by simp
  | a :: E, 0 => by simp
  | a :: E, i + 1 => by
    rw [List.drop_succ_cons, ← cells_drop E i, show (i + 1) * 3 = i * 3 + 3 by omega]
    rfl
theorem split_at {α : Type} {E : List α} {j : Nat} {e : α} (h : E[j]? = some e) : E = E.take j ++ e :: E.drop (j + 1) := by
  obtain ⟨hl, rfl⟩ := List.getElem?_eq_some_iff.1 h
  rw [List.getElem_cons_drop, List.take_append_drop]
theorem set_at {α : Type} {E : List α} {j : Nat} {e : α} (h : E[j]? = some e) (e' : α) : E.set j e' = E.take j ++ e' :: E.drop (j + 1) := by
  have hl := (List.getElem?_eq_some_iff.1 h).1
  rw [List.set_eq_take_append_cons_drop, if_pos hl]
/-- a bucket as it is owned. -/
def BOk (w : World) (base : Nat) (F : Nat → Prop) (K M : Nat) (b : Bk) : Prop :=
  ∃ g cap, b.v = .slice (some ⟨g, 0, none⟩) b.E.length cap ∧ F g ∧ g ≠ K ∧ g ≠ M ∧ b.E ≠ [] ∧ w.ownsRow base 55 3 b.v b.E.length (b.E.flatMap Ent.cells)
/-- an entry's key as it is owned. -/
def EOk (w : World) (F : Nat → Prop) (K M : Nat) (H : List Int → Int) (BL : List Bk) (b : Bk) (e : Ent) : Prop :=
  Row w e.kv e.kb ∧ Byt e.kb ∧ H e.kb = b.h ∧ ∀ g, e.kv.ownBlock = some g → F g ∧ g ≠ K ∧ g ≠ M ∧ ∀ b' ∈ BL, b'.v.ownBlock ≠ some g
structure KParts (w : World) (base : Nat) (F : Nat → Prop) (K M : Nat) (mo : Int) (N : Nat) (H : List Int → Int) (now f m : Int) (es : Array MapEntry) (c : Nat) (BL : List Bk) (L : List Ent) : Prop where
  kg : KeepG w K M mo N (L.length : Int) now f m es c
  bK : base ≤ K
  bM : base ≤ M
  bw : base ≤ w.heap.size
  fK : F K
  fM : F M
  fl : ∀ k, F k → k < w.heap.size
  old : ∀ x ∈ es.toList, x.born < c
  nd : (es.toList.map (·.born)).Nodup
  map : es.toList.map (fun e => (e.key, e.val)) = BL.map (fun b => (.int .u64 b.h, b.v))
  bok : ∀ b ∈ BL, BOk w base F K M b
  hs : BL.Pairwise (fun b b' => b.h ≠ b'.h)
  bl : BL.Pairwise (fun b b' => b.v.ownBlock ≠ b'.v.ownBlock)
  ent : ∀ b ∈ BL, ∀ e ∈ b.E, EOk w F K M H BL b e
  perm : L.Perm (BL.flatMap (·.E))
  asc : L.Pairwise (fun e e' => e.last < e'.last)
  dif : L.Pairwise (fun e e' => e.kb ≠ e'.kb)
  lst : ∀ e ∈ L, e.last ≤ now
theorem pw_mem {α : Type} {R : α → α → Prop} (hR : ∀ a b, R a b → R b a) : ∀ {l : List α}, l.Pairwise R → ∀ a ∈ l, ∀ b ∈ l, a = b ∨ R a b
  | [], _, a, ha, _, _ => by simp at ha
  | x :: l, h, a, ha, b, hb => by
    rw [List.pairwise_cons] at h
    rcases List.mem_cons.1 ha with e1 | h1
    · rcases List.mem_cons.1 hb with e2 | h2
      · exact Or.inl (e1.trans e2.symm)
      · exact Or.inr (by rw [e1]; exact h.1 b h2)
    · rcases List.mem_cons.1 hb with e2 | h2
      · exact Or.inr (by rw [e2]; exact hR _ _ (h.1 a h1))
      · exact pw_mem hR h.2 a h1 b h2
theorem KParts.hinj {w : World} {base : Nat} {F : Nat → Prop} {K M : Nat} {mo : Int} {N : Nat} {H : List Int → Int} {now f m : Int} {es : Array MapEntry} {c : Nat} {BL : List Bk} {L : List Ent} (h : KParts w base F K M mo N H now f m es c BL L) : ∀ b ∈ BL, ∀ b' ∈ BL, b.h = b'.h → b = b' := fun b hb b' hb' he => by
  rcases pw_mem (R := fun b b' : Bk => b.h ≠ b'.h) (fun a b h => h.symm) h.hs b hb b' hb' with h1 | h1
  · exact h1
  · exact absurd he h1
theorem keys_of_map {es : Array MapEntry} {BL : List Bk} (hmap : es.toList.map (fun e => (e.key, e.val)) = BL.map (fun b => (.int .u64 b.h, b.v))) (hs : BL.Pairwise (fun b b' => b.h ≠ b'.h)) : Keys es := by
  have hat : ∀ (i : Nat) (e : MapEntry), es.toList[i]? = some e → ∃ b, BL[i]? = some b ∧ e.key = .int .u64 b.h ∧ e.val = b.v := fun i e he => by
    have h1 : (es.toList.map (fun e => (e.key, e.val)))[i]? = some (e.key, e.val) := by rw [List.getElem?_map, he]; rfl
    rw [hmap, List.getElem?_map] at h1
    cases hb : BL[i]? with
    | none => rw [hb] at h1; simp at h1
    | some b =>
      rw [hb] at h1
      simp only [Option.map_some, Option.some.injEq, Prod.mk.injEq] at h1
      exact ⟨b, rfl, h1.1.symm, h1.2.symm⟩
  refine ⟨fun e he => ?_, fun i j e e' h1 h2 h3 => ?_⟩
  · obtain ⟨i, hi⟩ := List.getElem?_of_mem he
    obtain ⟨b, -, h, -⟩ := hat i e hi
    rw [h]
    exact isKeyH _
  · obtain ⟨b, b1, b2, -⟩ := hat i e h1
    obtain ⟨b', b1', b2', -⟩ := hat j e' h2
    rw [b2, b2'] at h3
    simp only [Value.int.injEq, true_and] at h3
    rcases Nat.lt_trichotomy i j with h | h | h
    · exact absurd h3 (List.pairwise_iff_getElem.1 hs i j (List.getElem?_eq_some_iff.1 b1).1 (List.getElem?_eq_some_iff.1 b1').1 h |> fun q => by rw [(List.getElem?_eq_some_iff.1 b1).2, (List.getElem?_eq_some_iff.1 b1').2] at q; exact q)
    · exact h
    · exact absurd h3.symm (List.pairwise_iff_getElem.1 hs j i (List.getElem?_eq_some_iff.1 b1').1 (List.getElem?_eq_some_iff.1 b1).1 h |> fun q => by rw [(List.getElem?_eq_some_iff.1 b1).2, (List.getElem?_eq_some_iff.1 b1').2] at q; exact q)
theorem KParts.keys {w : World} {base : Nat} {F : Nat → Prop} {K M : Nat} {mo : Int} {N : Nat} {H : List Int → Int} {now f m : Int} {es : Array MapEntry} {c : Nat} {BL : List Bk} {L : List Ent} (h : KParts w base F K M mo N H now f m es c BL L) : Keys es := keys_of_map h.map h.hs
/-- the worlds in which nothing of a keep's has turned. -/
theorem KParts.mono {w w' : World} {base : Nat} {F : Nat → Prop} {K M : Nat} {mo : Int} {N : Nat} {H : List Int → Int} {now now' f f' m m' : Int} {es : Array MapEntry} {c : Nat} {BL : List Bk} {L : List Ent} (h : KParts w base F K M mo N H now f m es c BL L)
    (hsz : w.heap.size ≤ w'.heap.size) (hfr : ∀ k, F k → k ≠ K → w'.heap[k]? = w.heap[k]?) (hk : KC w' K M mo N (L.length : Int) now' f' m') (hnow : now ≤ now') : KParts w' base F K M mo N H now' f' m' es c BL L where
  kg := ⟨hk, (hfr M h.fM h.kg.2.2.symm).trans h.kg.2.1, h.kg.2.2⟩
  bK := h.bK
  bM := h.bM
  bw := Nat.le_trans h.bw hsz
  fK := h.fK
  fM := h.fM
  fl := fun k hk => Nat.lt_of_lt_of_le (h.fl k hk) hsz
  old := h.old
  nd := h.nd
  map := h.map
  bok := fun b hb => by
    obtain ⟨g, cap, h1, h2, h3, h4, h5, h6⟩ := h.bok b hb
    exact ⟨g, cap, h1, h2, h3, h4, h5, ownsRow_mono h6 (fun g' hg' => by rw [h1] at hg'; cases hg'; exact hfr g h2 h3)⟩
  hs := h.hs
  bl := h.bl
  ent := fun b hb e he => by
    obtain ⟨h1, h2, h3, h4⟩ := h.ent b hb e he
    exact ⟨h1.at (fun g hg => hfr g (h4 g hg).1 (h4 g hg).2.1) hsz, h2, h3, h4⟩
  perm := h.perm
  asc := h.asc
  dif := h.dif
  lst := fun e he => Int.le_trans (h.lst e he) hnow
theorem len_le (b : Bk) : ∀ BL : List Bk, b ∈ BL → b.E.length ≤ (BL.flatMap (·.E)).length
  | [], h => by simp at h
  | a :: BL, h => by
    rw [List.flatMap_cons, List.length_append]
    rcases List.mem_cons.1 h with rfl | h
    · omega
    · have := len_le b BL h
      omega
/-- the buckets as 'at' and 'drive' want them. -/
theorem KParts.bin {w : World} {base : Nat} {F : Nat → Prop} {K M : Nat} {mo : Int} {N : Nat} {H : List Int → Int} {now f m : Int} {es : Array MapEntry} {c : Nat} {BL : List Bk} {L : List Ent} (h : KParts w base F K M mo N H now f m es c BL L) (hl : L.length ≤ 99999) : ∀ b ∈ BL, BkIn w b := fun b hb => by
  obtain ⟨g, cap, h1, h2, h3, h4, h5, h6⟩ := h.bok b hb
  have hlen : b.E.length ≤ L.length := by
    rw [h.perm.length_eq]
    exact len_le b BL hb
  refine ⟨g, cap, h1, h.fl g h2, by omega, fun k e he => ?_⟩
  have hk := (List.getElem?_eq_some_iff.1 he).1
  obtain ⟨c0, c1, c2⟩ := cells_at b.E k e he
  rw [h1] at h6
  exact ⟨by rw [h6.cellAt (k * 3) (by omega)]; exact c0, by rw [h6.cellAt (k * 3 + 1) (by omega)]; exact c1, by rw [h6.cellAt (k * 3 + 2) (by omega)]; exact c2, (h.ent b hb e (List.mem_of_getElem? he)).1⟩
end Go.Proofs.Ytebldhppnacdjab
