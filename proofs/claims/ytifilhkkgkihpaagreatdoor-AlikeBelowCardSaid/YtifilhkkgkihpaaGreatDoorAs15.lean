/- Plain: there is but one normal graph. -/
import Derived.Test.YtifilhkkgkihpaaGreatDoorAs13
set_option linter.unusedSimpArgs false
set_option linter.unusedVariables false
set_option linter.unusedSimpArgs false
set_option linter.unusedVariables false
namespace Go.Proofs.YtifilhkkgkihpaaGreatDoor
open Go.RowKit
/-- numbers of classes: two rows of numbers, told from two orders that begin alike. -/
theorem pos_same {ord ord' : List Nat} (hn : ord.Nodup) (hn' : ord'.Nodup) : ∀ (Cs : List Nat) (c c1 c1' : Nat), ord.take c = ord'.take c → c ≤ ord.length → c ≤ ord'.length →
    (∀ a ∈ Cs, (idxN ord a).isSome = true) → (∀ a ∈ Cs, (idxN ord' a).isSome = true) → growF (Cs.map (posN ord)) c = some c1 → growF (Cs.map (posN ord')) c = some c1' →
    Cs.map (posN ord) = Cs.map (posN ord') ∧ c1 = c1' ∧ ord.take c1 = ord'.take c1 ∧ c1 ≤ ord.length ∧ c1 ≤ ord'.length
  | [], c, c1, c1', ht, h1, h2, _, _, g1, g2 => by
    simp only [List.map_nil, growF, Option.some.injEq] at g1 g2
    subst g1
    subst g2
    exact ⟨rfl, rfl, ht, h1, h2⟩
  | a :: l, c, c1, c1', ht, h1, h2, hs, hs', g1, g2 => by
    obtain ⟨p, hp⟩ := Option.isSome_iff_exists.1 (hs a (List.mem_cons_self ..))
    obtain ⟨p', hp'⟩ := Option.isSome_iff_exists.1 (hs' a (List.mem_cons_self ..))
    have ea : posN ord a = (p : Int) := by unfold posN; rw [hp]; rfl
    have ea' : posN ord' a = (p' : Int) := by unfold posN; rw [hp']; rfl
    have hat := idxN_some ord a p hp
    have hat' := idxN_some ord' a p' hp'
    have hcut : ∀ q, q < c → ord[q]? = ord'[q]? := fun q hq => by
      have := congrArg (fun l => l[q]?) ht
      simpa [List.getElem?_take, hq] using this
    have hsl : ∀ x ∈ l, (idxN ord x).isSome = true := fun x hx => hs x (List.mem_cons_of_mem _ hx)
    have hsl' : ∀ x ∈ l, (idxN ord' x).isSome = true := fun x hx => hs' x (List.mem_cons_of_mem _ hx)
    rw [List.map_cons, ea] at g1
    rw [List.map_cons, ea'] at g2
    have inj : ∀ q, ord[q]? = some a → q = p := fun q hq => (List.getElem?_inj (List.getElem?_eq_some_iff.1 hq).1 hn).1 (hq.trans hat.symm)
    have inj' : ∀ q, ord'[q]? = some a → q = p' := fun q hq => (List.getElem?_inj (List.getElem?_eq_some_iff.1 hq).1 hn').1 (hq.trans hat'.symm)
    unfold growF at g1 g2
    by_cases hpc : p < c
    · have e : p = p' := inj' p ((hcut p hpc).symm.trans hat)
      rw [if_pos (by omega)] at g1
      rw [if_pos (by omega)] at g2
      obtain ⟨r1, r2⟩ := pos_same hn hn' l c c1 c1' ht h1 h2 hsl hsl' g1 g2
      exact ⟨by rw [List.map_cons, List.map_cons, ea, ea', e, r1], r2⟩
    · by_cases hpc' : p' < c
      · have e : p' = p := inj p' ((hcut p' hpc').trans hat')
        omega
      · rw [if_neg (by omega)] at g1 g2
        by_cases h3 : (p : Int) = c
        · by_cases h4 : (p' : Int) = c
          · rw [if_pos h3] at g1
            rw [if_pos h4] at g2
            have e : p = c := by omega
            have e' : p' = c := by omega
            subst e
            subst e'
            have hl1 := (List.getElem?_eq_some_iff.1 hat).1
            have hl2 := (List.getElem?_eq_some_iff.1 hat').1
            obtain ⟨r1, r2⟩ := pos_same hn hn' l (p' + 1) c1 c1' (by rw [List.take_add_one, List.take_add_one, ht, hat, hat']) (by omega) (by omega) hsl hsl' g1 g2
            exact ⟨by rw [List.map_cons, List.map_cons, ea, ea', r1], r2⟩
          · rw [if_neg h4] at g2
            cases g2
        · rw [if_neg h3] at g1
          cases g1
section
variable {HS : List Hd} {cl : List Nat} {root : Nat} {ord ord' : List Nat} {OS OS' : List Hd}
theorem NHead.same (hst : Stands HS cl) {c : Nat} {x x' : Hd} (h : NHead HS cl ord c x) (h' : NHead HS cl ord' c x') :
    ∃ Cs : List Nat, x'.kd = x.kd ∧ x'.op = x.op ∧ x'.NS = x.NS ∧ x.KS = Cs.map (posN ord) ∧ x'.KS = Cs.map (posN ord') ∧ (∀ a ∈ Cs, (idxN ord a).isSome = true) ∧ (∀ a ∈ Cs, (idxN ord' a).isSome = true) := by
  obtain ⟨r, y, h1, h2, h3, h4, h5, h6, h7⟩ := h.of
  obtain ⟨r', y', h1', h2', h3', h4', h5', h6', h7'⟩ := h'.of
  obtain ⟨s1, s2, s3, s4⟩ := hst r r' y y' h1 h1' (h2.trans h2'.symm)
  refine ⟨y.KS.map (fun k => cl.getD k.toNat 0), by rw [h3, h3', s1], by rw [h4, h4', s2], by rw [h5, h5', s3], by rw [h6, List.map_map]; rfl, by rw [h6', s4, List.map_map]; rfl, fun a ha => ?_, fun a ha => ?_⟩
  · obtain ⟨k, hk, rfl⟩ := List.mem_map.1 ha
    exact h7 k hk
  · rw [s4] at ha
    obtain ⟨k, hk, rfl⟩ := List.mem_map.1 ha
    exact h7' k hk
theorem NPl.upto (h : NPl HS cl root ord OS []) (h' : NPl HS cl root ord' OS' []) (hst : Stands HS cl) : ∀ k, k ≤ OS.length → k ≤ OS'.length →
    (OS.take k).map (fun x => x.KS) = (OS'.take k).map (fun x => x.KS) ∧ (∀ i x x', i < k → OS[i]? = some x → OS'[i]? = some x' → x'.kd = x.kd ∧ x'.op = x.op ∧ x'.NS = x.NS ∧ x'.KS = x.KS) ∧ ∃ c, growF ((OS.take k).flatMap (fun x => x.KS)) 1 = some c ∧ ord.take c = ord'.take c ∧ c ≤ ord.length ∧ c ≤ ord'.length := by
  intro k
  induction k with
  | zero =>
    intro _ _
    have f1 := h.first
    have f2 := h'.first
    have l1 := (List.getElem?_eq_some_iff.1 f1).1
    have l2 := (List.getElem?_eq_some_iff.1 f2).1
    refine ⟨by simp, fun i _ _ hi => by omega, 1, by simp [growF], ?_, l1, l2⟩
    rw [List.take_add_one, List.take_add_one, f1, f2]
    rfl
  | succ k ih =>
    intro hk hk'
    obtain ⟨i1, i2, c, i3, i4, i5, i6⟩ := ih (by omega) (by omega)
    obtain ⟨x, hx⟩ : ∃ x, OS[k]? = some x := ⟨_, List.getElem?_eq_getElem (by omega)⟩
    obtain ⟨x', hx'⟩ : ∃ x, OS'[k]? = some x := ⟨_, List.getElem?_eq_getElem (by omega)⟩
    obtain ⟨d, hd, hkd⟩ := h.fwd k (by omega)
    rw [i3] at hd
    cases hd
    have hcls : ord.getD k 0 = ord'.getD k 0 := by
      have := congrArg (fun l => l[k]?) i4
      simp only [List.getElem?_take, if_pos hkd] at this
      rw [List.getD_eq_getElem?_getD, List.getD_eq_getElem?_getD, this]
    obtain ⟨Cs, e1, e2, e3, e4, e5, e6, e7⟩ := NHead.same hst (h.heads k x hx) (by rw [hcls]; exact h'.heads k x' hx')
    have ex : OS.take (k + 1) = OS.take k ++ [x] := by rw [List.take_add_one, hx]; rfl
    have ex' : OS'.take (k + 1) = OS'.take k ++ [x'] := by rw [List.take_add_one, hx']; rfl
    have i3' : growF ((OS'.take k).flatMap (fun x => x.KS)) 1 = some c := by
      rw [← i3, List.flatMap_def, List.flatMap_def, i1]
    have hg : ∀ (O : List Hd) (y : Hd) (o : List Nat), NPl HS cl root o O [] → O[k]? = some y → growF ((O.take k).flatMap (fun x => x.KS)) 1 = some c → ∃ c1, growF y.KS c = some c1 := fun O y o hN hy hc => by
      have hG := hN.grow
      rw [List.append_nil] at hG
      have hsp : O = O.take k ++ y :: O.drop (k + 1) := by
        rw [← List.getElem?_eq_some_iff.1 hy |>.2, ← List.drop_eq_getElem_cons, List.take_append_drop]
      rw [hsp, List.flatMap_append, growF_app, hc, List.flatMap_cons] at hG
      have hG2 : growF (y.KS ++ (O.drop (k + 1)).flatMap (fun x => x.KS)) c = some o.length := hG
      rw [growF_app] at hG2
      cases hc1 : growF y.KS c with
      | none => rw [hc1] at hG2; cases hG2
      | some c1 => exact ⟨c1, rfl⟩
    obtain ⟨c1, g1⟩ := hg OS x ord h hx i3
    obtain ⟨c1', g1'⟩ := hg OS' x' ord' h' hx' i3'
    have g2 := g1
    have g2' := g1'
    rw [e4] at g2
    rw [e5] at g2'
    obtain ⟨r1, r2, r3, r4, r5⟩ := pos_same h.nodup h'.nodup Cs c c1 c1' i4 i5 i6 e6 e7 g2 g2'
    have eK : x'.KS = x.KS := by rw [e4, e5, r1]
    refine ⟨by rw [ex, ex', List.map_append, List.map_append, i1]; simp [eK], fun i y y' hi hy hy' => ?_, c1, ?_, r3, r4, r5⟩
    · rcases Nat.lt_or_ge i k with h9 | h9
      · exact i2 i y y' h9 hy hy'
      · obtain rfl : i = k := by omega
        rw [hx] at hy
        rw [hx'] at hy'
        cases hy
        cases hy'
        exact ⟨e1, e2, e3, eK⟩
    · rw [ex, List.flatMap_append, growF_app, i3]
      simpa using g1
theorem NPl.short (h : NPl HS cl root ord OS []) (h' : NPl HS cl root ord' OS' []) (hst : Stands HS cl) (hl : OS.length = ord.length) (hle : OS.length ≤ OS'.length) : OS'.length ≤ OS.length := by
  rcases Nat.lt_or_ge OS.length OS'.length with h9 | h9
  · exfalso
    obtain ⟨i1, _, c, i3, _⟩ := h.upto h' hst OS.length (Nat.le_refl _) hle
    obtain ⟨c', h2, h3⟩ := h'.fwd OS.length h9
    have h4 := h.grow
    rw [List.append_nil] at h4
    rw [List.take_length] at i1
    rw [List.flatMap_def, ← i1, ← List.flatMap_def, h4] at h2
    cases h2
    omega
  · exact h9
/-- the normal graph is one: its heads are the same, and in the same order. -/
theorem NPl.one (h : NPl HS cl root ord OS []) (h' : NPl HS cl root ord' OS' []) (hst : Stands HS cl) (hl : OS.length = ord.length) (hl' : OS'.length = ord'.length) : Alk OS OS' ∧ ord' = ord := by
  have hlen : OS'.length = OS.length := by
    rcases Nat.le_total OS.length OS'.length with h9 | h9
    · exact Nat.le_antisymm (h.short h' hst hl h9) h9
    · exact Nat.le_antisymm h9 (h'.short h hst hl' h9)
  obtain ⟨i1, i2, c, i3, i4, i5, i6⟩ := h.upto h' hst OS.length (Nat.le_refl _) (by omega)
  refine ⟨⟨hlen, fun i x y hx hy => i2 i x y (List.getElem?_eq_some_iff.1 hx).1 hx hy⟩, ?_⟩
  have hG := h.grow
  rw [List.append_nil] at hG
  rw [List.take_length, hG] at i3
  cases i3
  rw [List.take_of_length_le (Nat.le_refl _), List.take_of_length_le (by omega)] at i4
  exact i4.symm
end
end Go.Proofs.YtifilhkkgkihpaaGreatDoor
