/- Plain: classes of heads that are alike; the normal graph, by definition. -/
import Derived.Test.YtifilhkkgkihpaaGreatDoorAs15
import Derived.Test.YtifilhkkgkihpaaGreatDoorAs16
set_option linter.unusedSimpArgs false
set_option linter.unusedVariables false
set_option linter.unusedSimpArgs false
set_option linter.unusedVariables false
namespace Go.Proofs.YtifilhkkgkihpaaGreatDoor
open Go.RowKit
section
variable {HS : List Hd}
theorem ok_kids (hok : OkHeads HS) {i : Nat} {h : Hd} (hi : HS[i]? = some h) : ∀ k ∈ h.KS, 0 ≤ k ∧ k < (HS.length : Int) := by
  have hz2 := hok h (List.mem_of_getElem? hi)
  simp only [headB, Bool.and_eq_true, List.all_eq_true, decide_eq_true_eq] at hz2
  exact hz2.1.2
theorem bis_refl (i : Nat) : Bis HS HS i i := ⟨Eq, ⟨fun i k x h hx hh e => by subst e; rw [hx] at hh; cases hh; exact ⟨rfl, rfl, rfl, rfl⟩, fun i k x h hx hh e n a b ha hb => by subst e; rw [hx] at hh; cases hh; rw [ha] at hb; cases hb; rfl⟩, rfl⟩
theorem bis_symm {i k : Nat} (h : Bis HS HS i k) : Bis HS HS k i := by
  obtain ⟨R, hR, h1⟩ := h
  refine ⟨fun a b => R b a, ⟨fun i k x h hx hh e => ?_, fun i k x h hx hh e n a b ha hb => hR.kid k i h x hh hx e n b a hb ha⟩, h1⟩
  obtain ⟨p1, p2, p3, p4⟩ := hR.pl k i h x hh hx e
  exact ⟨p1.symm, p2.symm, p3.symm, p4.symm⟩
theorem bis_trans (hok : OkHeads HS) {i j k : Nat} (hj : j < HS.length) (h : Bis HS HS i j) (h' : Bis HS HS j k) : Bis HS HS i k := by
  obtain ⟨R, hR, h1⟩ := h
  obtain ⟨R', hR', h1'⟩ := h'
  refine ⟨fun a b => ∃ c, c < HS.length ∧ R a c ∧ R' c b, ⟨fun i k x y hx hy e => ?_, fun i k x y hx hy e n a b ha hb => ?_⟩, j, hj, h1, h1'⟩
  · obtain ⟨c, hc, e1, e2⟩ := e
    obtain ⟨z, hz⟩ : ∃ z, HS[c]? = some z := ⟨_, List.getElem?_eq_getElem hc⟩
    obtain ⟨p1, p2, p3, p4⟩ := hR.pl i c x z hx hz e1
    obtain ⟨q1, q2, q3, q4⟩ := hR'.pl c k z y hz hy e2
    exact ⟨p1.trans q1, p2.trans q2, p3.trans q3, p4.trans q4⟩
  · obtain ⟨c, hc, e1, e2⟩ := e
    obtain ⟨z, hz⟩ : ∃ z, HS[c]? = some z := ⟨_, List.getElem?_eq_getElem hc⟩
    have p4 := (hR.pl i c x z hx hz e1).2.2.2
    obtain ⟨d, hd⟩ : ∃ d, z.KS[n]? = some d := ⟨_, List.getElem?_eq_getElem (by rw [← p4]; exact (List.getElem?_eq_some_iff.1 ha).1)⟩
    have hr := ok_kids hok hz d (List.mem_of_getElem? hd)
    exact ⟨d.toNat, by omega, hR.kid i c x z hx hz e1 n a d ha hd, hR'.kid c k z y hz hy e2 n d b hd hb⟩
/-- the number of the class: the least that is alike. -/
noncomputable def clF (HS : List Hd) (i : Nat) : Nat := (List.range HS.length).findIdx (fun j => @decide (Bis HS HS i j) (Classical.propDecidable _))
theorem clF_at {i : Nat} (hi : i < HS.length) : clF HS i < HS.length ∧ Bis HS HS i (clF HS i) := by
  have h1 : clF HS i < (List.range HS.length).length := by
    unfold clF
    refine List.findIdx_lt_length_of_exists ⟨i, List.mem_range.2 hi, ?_⟩
    exact @decide_eq_true _ (Classical.propDecidable _) (bis_refl i)
  have h1' : (List.range HS.length).findIdx (fun j => @decide (Bis HS HS i j) (Classical.propDecidable _)) < (List.range HS.length).length := h1
  have h2 := @List.findIdx_getElem _ (fun j => @decide (Bis HS HS i j) (Classical.propDecidable _)) (List.range HS.length) h1'
  have h3 := @of_decide_eq_true _ (Classical.propDecidable _) h2
  simp only [List.getElem_range] at h3
  exact ⟨by simpa using h1, h3⟩
theorem clF_eq (hok : OkHeads HS) {i k : Nat} (hi : i < HS.length) (hk : k < HS.length) : clF HS i = clF HS k ↔ Bis HS HS i k := by
  constructor
  · intro e
    obtain ⟨a1, a2⟩ := clF_at hi
    obtain ⟨b1, b2⟩ := clF_at hk
    rw [e] at a1 a2
    exact bis_trans hok a1 a2 (bis_symm b2)
  · intro h
    unfold clF
    congr 1
    funext j
    have : Bis HS HS i j ↔ Bis HS HS k j := ⟨fun h2 => bis_trans hok hi (bis_symm h) h2, fun h2 => bis_trans hok hk h h2⟩
    exact decide_eq_decide.2 this
noncomputable def clL (HS : List Hd) : List Nat := (List.range HS.length).map (clF HS)
theorem clL_get {i : Nat} (hi : i < HS.length) : (clL HS).getD i 0 = clF HS i := by
  unfold clL
  rw [List.getD_eq_getElem?_getD, List.getElem?_map, List.getElem?_range hi]
  rfl
theorem kids_map {α : Type} {f : Int → α} : ∀ (A B : List Int), A.length = B.length → (∀ (n : Nat) a b, A[n]? = some a → B[n]? = some b → f a = f b) → A.map f = B.map f := by
  intro A B hl h
  refine List.ext_getElem? fun n => ?_
  rw [List.getElem?_map, List.getElem?_map]
  cases ha : A[n]? with
  | none =>
    have : B[n]? = none := by
      rw [List.getElem?_eq_none_iff] at ha ⊢
      omega
    rw [this]
  | some a =>
    obtain ⟨b, hb⟩ : ∃ b, B[n]? = some b := ⟨_, List.getElem?_eq_getElem (by have := (List.getElem?_eq_some_iff.1 ha).1; omega)⟩
    rw [hb]
    exact congrArg some (h n a b ha hb)
theorem clL_all (hok : OkHeads HS) : (clL HS).length = HS.length ∧ (∀ i, i < HS.length → (clL HS).getD i 0 < HS.length) ∧ Stands HS (clL HS) ∧ Coarse HS (clL HS) := by
  refine ⟨by simp [clL], fun i hi => by rw [clL_get hi]; exact (clF_at hi).1, fun i j h k hi hj e => ?_, fun R hR i j hi hj hr => ?_⟩
  · have hil := (List.getElem?_eq_some_iff.1 hi).1
    have hjl := (List.getElem?_eq_some_iff.1 hj).1
    rw [clL_get hil, clL_get hjl] at e
    have hb := (clF_eq hok hil hjl).1 e
    obtain ⟨p1, p2, p3, p4⟩ := (bis_rel HS HS).pl i j h k hi hj hb
    refine ⟨p1, p2, p3, kids_map _ _ p4 fun n a b ha hb2 => ?_⟩
    have r1 := ok_kids hok hi a (List.mem_of_getElem? ha)
    have r2 := ok_kids hok hj b (List.mem_of_getElem? hb2)
    rw [clL_get (by omega), clL_get (by omega)]
    exact (clF_eq hok (by omega) (by omega)).2 ((bis_rel HS HS).kid i j h k hi hj hb n a b ha hb2)
  · rw [clL_get hi, clL_get hj]
    refine (clF_eq hok hi hj).2 ⟨R, ⟨fun i k x h hx hh e => ?_, fun i k x h hx hh e n a b ha hb => (hR i k x h e hx hh).2.2.2.2 n a b ha hb⟩, hr⟩
    obtain ⟨p1, p2, p3, p4, _⟩ := hR i k x h e hx hh
    exact ⟨p1, p2, p3, p4⟩
theorem cl_bis (hok : OkHeads HS) {cl : List Nat} (hst : Stands HS cl) (hco : Coarse HS cl) {i j : Nat} (hi : i < HS.length) (hj : j < HS.length) : cl.getD i 0 = cl.getD j 0 ↔ Bis HS HS i j := by
  constructor
  · intro e
    refine ⟨fun i j => i < HS.length ∧ j < HS.length ∧ cl.getD i 0 = cl.getD j 0, ⟨fun i k x h hx hh e => ?_, fun i k x h hx hh e n a b ha hb => ?_⟩, hi, hj, e⟩
    · obtain ⟨s1, s2, s3, s4⟩ := hst i k x h hx hh e.2.2
      exact ⟨s1, s2, s3, by simpa using congrArg List.length s4⟩
    · have s4 := (hst i k x h hx hh e.2.2).2.2.2
      have h1 := congrArg (fun l => l[n]?) s4
      simp only [List.getElem?_map, ha, hb, Option.map_some, Option.some.injEq] at h1
      have r1 := ok_kids hok hx a (List.mem_of_getElem? ha)
      have r2 := ok_kids hok hh b (List.mem_of_getElem? hb)
      exact ⟨by omega, by omega, h1⟩
  · intro h
    obtain ⟨R, hR, h1⟩ := h
    refine hco R (fun i j x y hr hx hy => ?_) i j hi hj h1
    obtain ⟨p1, p2, p3, p4⟩ := hR.pl i j x y hx hy hr
    exact ⟨p1, p2, p3, p4, fun n a b ha hb => hR.kid i j x y hx hy hr n a b ha hb⟩
theorem idxN_map (g : Nat → Nat) : ∀ (l : List Nat) (c : Nat), (∀ a ∈ l, g a = g c → a = c) → idxN (l.map g) (g c) = idxN l c
  | [], c, _ => rfl
  | a :: l, c, h => by
    rw [List.map_cons]
    unfold idxN
    by_cases ha : a = c
    · rw [if_pos (by rw [ha]), if_pos ha]
    · rw [if_neg (fun e => ha (h a (List.mem_cons_self ..) e)), if_neg ha, idxN_map g l c (fun b hb => h b (List.mem_cons_of_mem _ hb))]
theorem NPl.turn (hok : OkHeads HS) {cl cl' : List Nat} {root : Nat} {ord : List Nat} {OS : List Hd} (h : NPl HS cl root ord OS []) (hst : Stands HS cl) (hco : Coarse HS cl) (hst' : Stands HS cl') (hco' : Coarse HS cl') (hroot : root < HS.length) (hb : ∀ i, i < HS.length → cl'.getD i 0 < 100) : ∃ ord', NPl HS cl' root ord' OS [] ∧ ord'.length = ord.length := by
  have hex : ∀ c : Nat, ∃ d : Nat, ∀ k, k < HS.length → cl.getD k 0 = c → cl'.getD k 0 = d := fun c => by
    by_cases hc : ∃ k, k < HS.length ∧ cl.getD k 0 = c
    · obtain ⟨k, hk, rfl⟩ := hc
      exact ⟨cl'.getD k 0, fun m hm e => (cl_bis hok hst' hco' hm hk).2 ((cl_bis hok hst hco hm hk).1 e)⟩
    · exact ⟨0, fun k hk e => absurd ⟨k, hk, e⟩ hc⟩
  obtain ⟨g, hg⟩ := Classical.axiomOfChoice hex
  have hg2 : ∀ k, k < HS.length → cl'.getD k 0 = g (cl.getD k 0) := fun k hk => hg _ k hk rfl
  have hinj : ∀ a ∈ ord, ∀ k, k < HS.length → g a = g (cl.getD k 0) → a = cl.getD k 0 := fun a ha k hk e => by
    obtain ⟨m, hm, rfl⟩ := h.of a ha
    rw [← hg2 m hm, ← hg2 k hk] at e
    exact (cl_bis hok hst hco hm hk).2 ((cl_bis hok hst' hco' hm hk).1 e)
  have hix : ∀ k, k < HS.length → idxN (ord.map g) (cl'.getD k 0) = idxN ord (cl.getD k 0) := fun k hk => by
    rw [hg2 k hk]
    exact idxN_map g ord _ (fun a ha e => hinj a ha k hk e)
  refine ⟨ord.map g, ⟨by simpa using h.le, fun k x hx => ?_, by simpa using h.grow, ?_, fun c hc => ?_, ?_, fun c hc => ?_, h.fwd⟩, by simp⟩
  · obtain ⟨r, y, h1, h2, h3, h4, h5, h6, h7⟩ := (h.heads k x hx).of
    have hrl := (List.getElem?_eq_some_iff.1 h1).1
    have hkl : k < ord.length := Nat.lt_of_lt_of_le (List.getElem?_eq_some_iff.1 hx).1 h.le
    have hky : ∀ q ∈ y.KS, q.toNat < HS.length := fun q hq => by have := ok_kids hok h1 q hq; omega
    refine ⟨r, y, h1, ?_, h3, h4, h5, ?_, fun q hq => ?_⟩
    · rw [hg2 r hrl, h2, List.getD_eq_getElem?_getD, List.getD_eq_getElem?_getD, List.getElem?_map, List.getElem?_eq_getElem hkl]
      rfl
    · rw [h6]
      refine List.map_congr_left fun q hq => ?_
      unfold posN
      rw [hix _ (hky q hq)]
    · rw [hix _ (hky q hq)]
      exact h7 q hq
  · have : (ord.map g).Nodup := by
      rw [List.nodup_iff_pairwise_ne, List.pairwise_map]
      refine List.Pairwise.imp_of_mem ?_ (List.nodup_iff_pairwise_ne.1 h.nodup)
      intro a b ha hb2 hne e
      obtain ⟨k, hk, rfl⟩ := h.of b hb2
      exact hne (hinj a ha k hk e)
    exact this
  · obtain ⟨a, ha, rfl⟩ := List.mem_map.1 hc
    obtain ⟨k, hk, rfl⟩ := h.of a ha
    rw [← hg2 k hk]
    exact hb k hk
  · rw [List.getElem?_map, h.first, hg2 root hroot]
    rfl
  · obtain ⟨a, ha, rfl⟩ := List.mem_map.1 hc
    obtain ⟨k, hk, rfl⟩ := h.of a ha
    exact ⟨k, hk, hg2 k hk⟩
/-- OS is the normal graph of HS from root on. -/
def NormF (HS : List Hd) (root : Nat) (OS : List Hd) : Prop := ∃ (cl ord : List Nat), Stands HS cl ∧ Coarse HS cl ∧ NPl HS cl root ord OS [] ∧ OS.length = ord.length
theorem NormF.one (hok : OkHeads HS) (hl : HS.length ≤ 100) {root : Nat} (hroot : root < HS.length) {OS OS' : List Hd} (h : NormF HS root OS) (h' : NormF HS root OS') : Alk OS OS' := by
  obtain ⟨cl, ord, a1, a2, a3, a4⟩ := h
  obtain ⟨cl', ord', b1, b2, b3, b4⟩ := h'
  obtain ⟨c1, c2, c3, c4⟩ := clL_all hok
  obtain ⟨o1, p1, p2⟩ := a3.turn hok a1 a2 c3 c4 hroot (fun i hi => by have := c2 i hi; omega)
  obtain ⟨o2, q1, q2⟩ := b3.turn hok b1 b2 c3 c4 hroot (fun i hi => by have := c2 i hi; omega)
  exact (p1.one q1 c3 (by omega) (by omega)).1
end
end Go.Proofs.YtifilhkkgkihpaaGreatDoor
