/- Plain: what is asked, and is to be asked still: the greatest set that stands under what each member asks. -/
import Derived.Test.YtifilhkkgkihpaaGreatDoorAs05
set_option linter.unusedSimpArgs false
set_option linter.unusedVariables false
set_option linter.unusedSimpArgs false
set_option linter.unusedVariables false
namespace Go.Proofs.YtifilhkkgkihpaaGreatDoor
open Go.RowKit
/-- each member of S asks something, and all of it is in S. -/
def Clo {α : Type} (F : α → Option (List α)) (S : α → Prop) : Prop := ∀ p, S p → ∃ l, F p = some l ∧ ∀ q ∈ l, S q
/-- p is in some such set. -/
def Cst {α : Type} (F : α → Option (List α)) (p : α) : Prop := ∃ S, Clo F S ∧ S p
theorem Cst.clo {α : Type} (F : α → Option (List α)) : Clo F (Cst F) := fun p ⟨S, hS, hp⟩ => by
  obtain ⟨l, h1, h2⟩ := hS p hp
  exact ⟨l, h1, fun q hq => ⟨S, hS, h2 q hq⟩⟩
theorem Cst.not {α : Type} {F : α → Option (List α)} {p : α} (h : F p = none) : ¬ Cst F p := fun ⟨S, hS, hp⟩ => by
  obtain ⟨l, h1, _⟩ := hS p hp
  rw [h] at h1
  cases h1
theorem Cst.ask {α : Type} {F : α → Option (List α)} {p : α} {l : List α} (h : F p = some l) (hc : Cst F p) : ∀ q ∈ l, Cst F q := by
  obtain ⟨l', h1, h2⟩ := Cst.clo F p hc
  rw [h] at h1
  cases h1
  exact h2
/-- the work under way: what was asked (seen), what is to be asked still (left), what is being asked (now). -/
structure Wrk {α : Type} (F : α → Option (List α)) (root : α) (seen left : List α) (now : Option (α × List α)) : Prop where
  rt : root ∈ seen
  lf : ∀ p ∈ left, p ∈ seen
  nd : ∀ p ∈ seen, Cst F root → Cst F p
  dn : ∀ p ∈ seen, p ∈ left ∨ (∃ l, now = some (p, l)) ∨ ∃ l, F p = some l ∧ ∀ q ∈ l, q ∈ seen
  nw : ∀ p l, now = some (p, l) → p ∈ seen ∧ ∀ q ∈ l, q ∈ seen
theorem Wrk.start {α : Type} (F : α → Option (List α)) (root : α) : Wrk F root [root] [root] none where
  rt := by simp
  lf p hp := hp
  nd p hp h := by
    obtain rfl : p = root := by simpa using hp
    exact h
  dn p hp := .inl hp
  nw p l h := by cases h
theorem Wrk.take {α : Type} {F : α → Option (List α)} {root p : α} {seen left : List α} (h : Wrk F root seen (left ++ [p]) none) : Wrk F root seen left (some (p, [])) where
  rt := h.rt
  lf q hq := h.lf q (by simp [hq])
  nd := h.nd
  dn q hq := by
    rcases h.dn q hq with h1 | ⟨l, h1⟩ | h1
    · rcases List.mem_append.1 h1 with h2 | h2
      · exact .inl h2
      · obtain rfl : q = p := by simpa using h2
        exact .inr (.inl ⟨[], rfl⟩)
    · cases h1
    · exact .inr (.inr h1)
  nw q l e := by
    injection e with e
    injection e with e1 e2
    subst e1
    subst e2
    exact ⟨h.lf p (by simp), fun q hq => by cases hq⟩
/-- something that was asked already. -/
theorem Wrk.old {α : Type} {F : α → Option (List α)} {root p q : α} {seen left l : List α} (h : Wrk F root seen left (some (p, l))) (hq : q ∈ seen) : Wrk F root seen left (some (p, l ++ [q])) where
  rt := h.rt
  lf := h.lf
  nd := h.nd
  dn r hr := by
    rcases h.dn r hr with h1 | ⟨l', h1⟩ | h1
    · exact .inl h1
    · injection h1 with h1
      injection h1 with h1 h2
      subst h1
      exact .inr (.inl ⟨_, rfl⟩)
    · exact .inr (.inr h1)
  nw r l' e := by
    injection e with e
    injection e with e1 e2
    subst e1
    subst e2
    obtain ⟨h1, h2⟩ := h.nw p l rfl
    refine ⟨h1, fun s hs => ?_⟩
    rcases List.mem_append.1 hs with hs | hs
    · exact h2 s hs
    · obtain rfl : s = q := by simpa using hs
      exact hq
/-- something new is asked: it must be needed. -/
theorem Wrk.fresh {α : Type} {F : α → Option (List α)} {root p q : α} {seen left l m : List α} (h : Wrk F root seen left (some (p, l))) (hF : F p = some m) (hq : q ∈ m) : Wrk F root (q :: seen) (left ++ [q]) (some (p, l ++ [q])) where
  rt := List.mem_cons_of_mem _ h.rt
  lf r hr := by
    rcases List.mem_append.1 hr with hr | hr
    · exact List.mem_cons_of_mem _ (h.lf r hr)
    · simp at hr; simp [hr]
  nd r hr hc := by
    rcases List.mem_cons.1 hr with rfl | hr
    · exact Cst.ask hF (h.nd p (h.nw p l rfl).1 hc) r hq
    · exact h.nd r hr hc
  dn r hr := by
    rcases List.mem_cons.1 hr with rfl | hr
    · exact .inl (by simp)
    · rcases h.dn r hr with h1 | ⟨l', h1⟩ | ⟨l', h1, h2⟩
      · exact .inl (by simp [h1])
      · injection h1 with h1
        injection h1 with h1 h2
        subst h1
        exact .inr (.inl ⟨_, rfl⟩)
      · exact .inr (.inr ⟨l', h1, fun s hs => List.mem_cons_of_mem _ (h2 s hs)⟩)
  nw r l' e := by
    injection e with e
    injection e with e1 e2
    subst e1
    subst e2
    obtain ⟨h1, h2⟩ := h.nw p l rfl
    refine ⟨List.mem_cons_of_mem _ h1, fun s hs => ?_⟩
    rcases List.mem_append.1 hs with hs | hs
    · exact List.mem_cons_of_mem _ (h2 s hs)
    · simp at hs; simp [hs]
theorem Wrk.fin {α : Type} {F : α → Option (List α)} {root p : α} {seen left l m : List α} (h : Wrk F root seen left (some (p, l))) (hF : F p = some m) (hm : ∀ q ∈ m, q ∈ l) : Wrk F root seen left none where
  rt := h.rt
  lf := h.lf
  nd := h.nd
  dn r hr := by
    rcases h.dn r hr with h1 | ⟨l', h1⟩ | h1
    · exact .inl h1
    · injection h1 with h1
      injection h1 with h1 h2
      subst h1
      exact .inr (.inr ⟨m, hF, fun q hq => (h.nw p l rfl).2 q (hm q hq)⟩)
    · exact .inr (.inr h1)
  nw r l' e := by cases e
theorem Wrk.yes {α : Type} {F : α → Option (List α)} {root : α} {seen : List α} (h : Wrk F root seen [] none) : Cst F root := by
  refine ⟨fun p => p ∈ seen, fun p hp => ?_, h.rt⟩
  rcases h.dn p hp with h1 | ⟨l, h1⟩ | h1
  · cases h1
  · cases h1
  · exact h1
theorem Wrk.no {α : Type} {F : α → Option (List α)} {root p : α} {seen left l : List α} (h : Wrk F root seen left (some (p, l))) (hF : F p = none) : ¬ Cst F root := fun hc => Cst.not hF (h.nd p (h.nw p l rfl).1 hc)
/-- what was asked and what is left, behind one ask more. -/
def askS {α : Type} [DecidableEq α] (SL : List α × List α) (q : α) : List α × List α := if q ∈ SL.1 then SL else (q :: SL.1, SL.2 ++ [q])
theorem Wrk.asks {α : Type} [DecidableEq α] {F : α → Option (List α)} {root p : α} {m : List α} (hF : F p = some m) : ∀ (qs l : List α) (SL : List α × List α), Wrk F root SL.1 SL.2 (some (p, l)) → (∀ q ∈ qs, q ∈ m) → Wrk F root (qs.foldl askS SL).1 (qs.foldl askS SL).2 (some (p, l ++ qs))
  | [], l, SL, h, _ => by simpa using h
  | q :: qs, l, SL, h, hm => by
    have h1 : Wrk F root (askS SL q).1 (askS SL q).2 (some (p, l ++ [q])) := by
      unfold askS
      by_cases hq : q ∈ SL.1
      · rw [if_pos hq]; exact h.old hq
      · rw [if_neg hq]; exact h.fresh hF (hm q (by simp))
    have h2 := Wrk.asks hF qs (l ++ [q]) (askS SL q) h1 (fun r hr => hm r (by simp [hr]))
    simpa using h2
/-- each was asked once; what is left was asked; all may be. -/
structure WkN {α : Type} (ok : α → Prop) (SL : List α × List α) : Prop where
  ndS : SL.1.Nodup
  ndL : SL.2.Nodup
  okS : ∀ p ∈ SL.1, ok p
  sub : ∀ p ∈ SL.2, p ∈ SL.1
theorem WkN.ask {α : Type} [DecidableEq α] {ok : α → Prop} {SL : List α × List α} (h : WkN ok SL) {q : α} (hq : ok q) : WkN ok (askS SL q) := by
  unfold askS
  by_cases hm : q ∈ SL.1
  · rw [if_pos hm]; exact h
  · rw [if_neg hm]
    refine ⟨List.nodup_cons.2 ⟨hm, h.ndS⟩, ?_, fun p hp => ?_, fun p hp => ?_⟩
    · refine List.nodup_append.2 ⟨h.ndL, by simp, fun a ha b hb e => ?_⟩
      simp at hb
      exact hm (by rw [← hb, ← e]; exact h.sub a ha)
    · rcases List.mem_cons.1 hp with rfl | hp
      · exact hq
      · exact h.okS p hp
    · rcases List.mem_append.1 hp with hp | hp
      · exact List.mem_cons_of_mem _ (h.sub p hp)
      · simp at hp; simp [hp]
theorem WkN.asks {α : Type} [DecidableEq α] {ok : α → Prop} : ∀ (qs : List α) (SL : List α × List α), WkN ok SL → (∀ q ∈ qs, ok q) → WkN ok (qs.foldl askS SL)
  | [], SL, h, _ => h
  | q :: qs, SL, h, hq => WkN.asks qs (askS SL q) (h.ask (hq q (by simp))) (fun r hr => hq r (by simp [hr]))
/-- a measure: it goes down with each pair that is taken. -/
def meaS {α : Type} (cap : Nat) (SL : List α × List α) : Nat := 2 * (cap - SL.1.length) + SL.2.length
theorem meaS_asks {α : Type} [DecidableEq α] {ok : α → Prop} {cap : Nat} (hc : ∀ SL : List α × List α, WkN ok SL → SL.1.length ≤ cap) : ∀ (qs : List α) (SL : List α × List α), WkN ok SL → (∀ q ∈ qs, ok q) → meaS cap (qs.foldl askS SL) ≤ meaS cap SL
  | [], SL, _, _ => Nat.le_refl _
  | q :: qs, SL, h, hq => by
    refine Nat.le_trans (meaS_asks hc qs (askS SL q) (h.ask (hq q (by simp))) (fun r hr => hq r (by simp [hr]))) ?_
    have h1 := hc _ (h.ask (hq q (by simp)))
    unfold askS at h1 ⊢
    by_cases hm : q ∈ SL.1
    · rw [if_pos hm]; exact Nat.le_refl _
    · rw [if_neg hm] at h1 ⊢
      unfold meaS
      simp only [List.length_cons, List.length_append, List.length_nil] at h1 ⊢
      omega
theorem WkN.start {α : Type} {ok : α → Prop} : WkN ok (([], []) : List α × List α) := ⟨by simp, by simp, fun p hp => by simp at hp, fun p hp => by simp at hp⟩
theorem WkN.take {α : Type} {ok : α → Prop} {S L : List α} {x : α} (h : WkN ok (S, L ++ [x])) : WkN ok (S, L) := ⟨h.ndS, (List.nodup_append.1 h.ndL).1, h.okS, fun p hp => h.sub p (by simp [hp])⟩
end Go.Proofs.YtifilhkkgkihpaaGreatDoor
