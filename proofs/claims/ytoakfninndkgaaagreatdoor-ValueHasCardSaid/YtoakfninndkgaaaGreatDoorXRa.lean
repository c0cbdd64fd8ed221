/- A law on regions that draw their order: a load may be taken first if it comes ahead of a milestone (operation k), although a later operation writes its cell. -/
import Derived.Deep.RegionHeld3
set_option linter.unusedVariables false
namespace Go.Proofs.YtoakfninndkgaaaGreatDoor.Val
section
variable {P : Program} {ops : Array Oper} {Q : Exit → Act → World → Prop} {md : Region.Mode} {S T : World → Prop} {k : Nat}
/-- whatever order is picked; and S holds behind each operation till operation k has come up. -/
def wpAnyM (P : Program) (md : Region.Mode) (ops : Array Oper) (Q : Exit → Act → World → Prop) (S : World → Prop) (k : Nat) : Nat → Array Bool → Act → World → Prop
  | 0, listed, a, w => Region.ready md ops listed = [] ∧ Q .normal a w
  | fuel + 1, listed, a, w =>
    (Region.ready md ops listed = [] → Q .normal a w) ∧
    ∀ i ∈ Region.ready md ops listed, wpOp P ops Q i (fun a' w' => ((listed.setIfInBounds i true).getD k true = false → S w') ∧ wpAnyM P md ops Q S k fuel (listed.setIfInBounds i true) a' w') a w
theorem wpAny_of_M : ∀ (fuel : Nat) (listed : Array Bool) (a : Act) (w : World), wpAnyM P md ops Q S k fuel listed a w → wpAny P md ops Q fuel listed a w
  | 0, _, _, _, h => h
  | fuel + 1, _, _, _, h => ⟨h.1, fun i hi => wpOp_mono (fun a' w' h' => wpAny_of_M fuel _ a' w' h'.2) (h.2 i hi)⟩
theorem unlisted_back {listed : Array Bool} {i k : Nat} (h : (listed.setIfInBounds i true).getD k true = false) : listed.getD k true = false := by
  by_cases hik : i = k
  · subst hik
    exfalso
    by_cases hlt : i < listed.size
    · simp [hlt] at h
    · simp [hlt] at h
  · rw [getD_set_ne true hik] at h; exact h
theorem wpAnyM_first {i : Nat} {oi : Oper} {v : Value} {D : List Nat} (hi : ops[i]? = some oi) (hsel : ∀ (j : Nat) (o : Oper) cs b, ops[j]? = some o → o.op ≠ .select cs b)
    (hQ : ∀ c a w, Q (.panic c) (a.put oi.dst v) w → Q (.panic c) a w)
    (hcl : ∀ d ∈ D, ∀ od, ops[d]? = some od → ∃ e ∈ od.after, Region.binds md e = true ∧ (e.on = i ∨ e.on ∈ D))
    (hik : i ≠ k) (hT : (∀ w, T w) ∨ (k ∈ D ∧ ∀ w, S w → T w)) :
    ∀ (fuel : Nat) (listed : Array Bool) (a : Act) (w : World),
      (∀ j oj, ops[j]? = some oj → j ≠ i → listed.getD j true = false → (∀ e ∈ oj.after, Region.binds md e = true → e.on ≠ i) → oi.apart ops oj = true) →
      i ∈ Region.ready md ops listed → (∀ d ∈ D, listed.getD d true = false) → YieldsIf P ops T oi v a → (listed.getD k true = false → S w) →
      wpAnyM P md ops Q S k fuel (listed.setIfInBounds i true) (a.put oi.dst v) w → wpAnyM P md ops Q S k (fuel + 1) listed a w := by
  intro fuel
  induction fuel with
  | zero =>
    intro listed a w _ hr hD hy hS H
    have hTw : T w := hT.elim (fun h => h w) (fun h => h.2 w (hS (hD k h.1)))
    refine ⟨fun h => (by rw [h] at hr; cases hr), fun j hj => ?_⟩
    by_cases hji : j = i
    · subst hji; exact hy.wpOp hi hTw ⟨fun h => hS (unlisted_back h), H⟩
    · have := ready_mono hj hji
      rw [H.1] at this
      cases this
  | succ fuel ih =>
    intro listed a w hfree hr hD hy hS H
    have hTw : T w := hT.elim (fun h => h w) (fun h => h.2 w (hS (hD k h.1)))
    refine ⟨fun h => (by rw [h] at hr; cases hr), fun j hj => ?_⟩
    by_cases hji : j = i
    · subst hji; exact hy.wpOp hi hTw ⟨fun h => hS (unlisted_back h), H⟩
    · have h1 := H.2 j (ready_mono hj hji)
      obtain ⟨hjun, oj, hoj, hall⟩ := mem_ready.1 hj
      have hun : ∀ x, listed.getD x true = false → listed.getD x false = true → False := fun x h0 h1 => by
        rcases Nat.lt_or_ge x listed.size with h' | h'
        · simp [h'] at h0 h1; rw [h0] at h1; cases h1
        · simp [Array.getElem?_eq_none h'] at h1
      have hnot : ∀ e ∈ oj.after, Region.binds md e = true → e.on ≠ i := fun e he hb heq => by
        have h1 := hall e he hb
        rw [heq] at h1
        exact hun i (mem_ready.1 hr).1 h1
      have hjD : j ∉ D := fun hjD => by
        obtain ⟨e, he, hb, h2 | h2⟩ := hcl j hjD oj hoj
        · exact hnot e he hb h2
        · exact hun _ (hD _ h2) (hall e he hb)
      have h2 := wpOp_putIf hoj (hfree j oj hoj hji hjun hnot) (fun cs b => hsel i oi cs b hi) (fun cs b => hsel j oj cs b hoj) hQ hy h1
      have hfree' : ∀ k ok, ops[k]? = some ok → k ≠ i → (listed.setIfInBounds j true).getD k true = false →
          (∀ e ∈ ok.after, Region.binds md e = true → e.on ≠ i) → oi.apart ops ok = true := fun k ok hk hki hun hno => by
        refine hfree k ok hk hki ?_ hno
        by_cases hjk : j = k
        · subst hjk; exact hjun
        · rw [getD_set_ne true hjk] at hun; exact hun
      have hD' : ∀ d ∈ D, (listed.setIfInBounds j true).getD d true = false := fun d hd => by
        rw [getD_set_ne true (fun e => hjD (by rw [e]; exact hd))]; exact hD d hd
      have hSS : ∀ w', (((listed.setIfInBounds i true).setIfInBounds j true).getD k true = false → S w') → ((listed.setIfInBounds j true).getD k true = false → S w') := fun w' h hk => by
        refine h ?_
        rw [Array.setIfInBounds_comm _ _ (Ne.symm hji), getD_set_ne true hik]
        exact hk
      refine wpOp_mono (fun a' w' h3 => ⟨hSS w' h3.2.1, ih (listed.setIfInBounds j true) a' w' hfree' (ready_mono hr (Ne.symm hji)) hD' h3.1 (hSS w' h3.2.1) ?_⟩) h2
      rw [Array.setIfInBounds_comm _ _ hji]
      exact h3.2.2
/-- D waits for i: as a Bool. -/
def waits (md : Region.Mode) (ops : Array Oper) (i : Nat) (D : List Nat) : Bool := D.all fun d => match ops[d]? with
  | some od => od.after.any fun e => Region.binds md e && (e.on == i || D.contains e.on)
  | none => true
theorem waits_spec {i : Nat} {D : List Nat} (h : waits md ops i D = true) : ∀ d ∈ D, ∀ od, ops[d]? = some od → ∃ e ∈ od.after, Region.binds md e = true ∧ (e.on = i ∨ e.on ∈ D) := by
  intro d hd od hod
  have h1 := List.all_eq_true.1 h d hd
  simp only [hod, Array.any_eq_true'] at h1
  obtain ⟨e, he, h2⟩ := h1
  refine ⟨e, he, ?_⟩
  simpa using h2
/-- take what yields in whatever world. -/
theorem wpAnyM_take {i : Nat} {oi : Oper} {v : Value} {fuel : Nat} {listed : Array Bool} {a : Act} {w : World} (hi : ops[i]? = some oi)
    (hs : Region.noSelect ops = true) (hf : Region.free md ops listed i = true) (hr : (Region.ready md ops listed).contains i = true)
    (hQ : ∀ c a w, Q (.panic c) (a.put oi.dst v) w → Q (.panic c) a w) (hik : (i == k) = false) (hS : listed.getD k true = false → S w) (hy : YieldsIf P ops (fun _ => True) oi v a)
    (h : wpAnyM P md ops Q S k fuel (listed.setIfInBounds i true) (a.put oi.dst v) w) : wpAnyM P md ops Q S k (fuel + 1) listed a w :=
  wpAnyM_first (D := []) hi (Region.noSelect_spec hs) hQ (fun d hd => by cases hd) (by simpa using hik) (Or.inl fun _ => True.intro) fuel listed a w (Region.free_spec hi hf) (by simpa using hr) (fun d hd => by cases hd) hy hS h
/-- take what yields in every world that meets S, and which k waits for. -/
theorem wpAnyM_load {i : Nat} {oi : Oper} {v : Value} {fuel : Nat} {listed : Array Bool} {a : Act} {w : World} (D : List Nat) (hi : ops[i]? = some oi)
    (hs : Region.noSelect ops = true) (hf : Region.free md ops listed i = true) (hr : (Region.ready md ops listed).contains i = true)
    (hQ : ∀ c a w, Q (.panic c) (a.put oi.dst v) w → Q (.panic c) a w) (hik : (i == k) = false) (hcl : waits md ops i D = true) (hk : D.contains k = true) (hun : D.all (fun d => !listed.getD d true) = true) (hS : S w) (hy : YieldsIf P ops S oi v a)
    (h : wpAnyM P md ops Q S k fuel (listed.setIfInBounds i true) (a.put oi.dst v) w) : wpAnyM P md ops Q S k (fuel + 1) listed a w :=
  wpAnyM_first (D := D) hi (Region.noSelect_spec hs) hQ (waits_spec hcl) (by simpa using hik) (Or.inr ⟨by simpa using hk, fun _ h => h⟩) fuel listed a w (Region.free_spec hi hf) (by simpa using hr) (fun d hd => by have := List.all_eq_true.1 hun d hd; simpa using this) hy (fun _ => hS) h
/-- all have come up. -/
theorem wpAnyM_done {listed : Array Bool} {a : Act} {w : World} (hr : Region.ready md ops listed = []) (h : Q .normal a w) : ∀ fuel, wpAnyM P md ops Q S k fuel listed a w
  | 0 => ⟨hr, h⟩
  | _ + 1 => ⟨fun _ => h, by rw [hr]; simp⟩
theorem wpAnyM_all {rs : List Nat} {fuel : Nat} {listed : Array Bool} {a : Act} {w : World} (hr : Region.ready md ops listed = rs) (hne : rs ≠ [])
    (h : ∀ i ∈ rs, wpOp P ops Q i (fun a' w' => ((listed.setIfInBounds i true).getD k true = false → S w') ∧ wpAnyM P md ops Q S k fuel (listed.setIfInBounds i true) a' w') a w) : wpAnyM P md ops Q S k (fuel + 1) listed a w :=
  ⟨fun h0 => absurd (hr ▸ h0) hne, hr ▸ h⟩
/-- one alone may come up. -/
theorem wpAnyM_one {i : Nat} {o : Oper} {fuel : Nat} {listed : Array Bool} {a : Act} {w : World} (hr : Region.ready md ops listed = [i]) (ho : ops[i]? = some o)
    (h : ∀ K' : Act → World → Prop, Shut (∀ a w, ((listed.setIfInBounds i true).getD k true = false → S w) → wpAnyM P md ops Q S k fuel (listed.setIfInBounds i true) a w → K' a w) → if Region.wanted o (yielded ops a.tmps) = true then Oper.wp P o a w K' Q else K' (a.put o.dst undef) w) :
    wpAnyM P md ops Q S k (fuel + 1) listed a w :=
  wpAnyM_all hr (by simp) fun j hj => by
    have hji : j = i := by simpa using hj
    subst hji
    exact wpOp_step ho (fun K' hK => h K' (fun a w hS hW => hK a w ⟨hS, hW⟩))
/-- one of two may come up. -/
theorem wpAnyM_two {i j : Nat} {o p : Oper} {fuel : Nat} {listed : Array Bool} {a : Act} {w : World} (hr : Region.ready md ops listed = [i, j]) (ho : ops[i]? = some o) (hp : ops[j]? = some p)
    (h : ∀ K' : Act → World → Prop, Shut (∀ a w, ((listed.setIfInBounds i true).getD k true = false → S w) → wpAnyM P md ops Q S k fuel (listed.setIfInBounds i true) a w → K' a w) → if Region.wanted o (yielded ops a.tmps) = true then Oper.wp P o a w K' Q else K' (a.put o.dst undef) w)
    (h' : ∀ K' : Act → World → Prop, Shut (∀ a w, ((listed.setIfInBounds j true).getD k true = false → S w) → wpAnyM P md ops Q S k fuel (listed.setIfInBounds j true) a w → K' a w) → if Region.wanted p (yielded ops a.tmps) = true then Oper.wp P p a w K' Q else K' (a.put p.dst undef) w) :
    wpAnyM P md ops Q S k (fuel + 1) listed a w :=
  wpAnyM_all hr (by simp) fun x hx => by
    have hxx : x = i ∨ x = j := by simpa using hx
    cases hxx with
    | inl hx => subst hx; exact wpOp_step ho (fun K' hK => h K' (fun a w hS hW => hK a w ⟨hS, hW⟩))
    | inr hx => subst hx; exact wpOp_step hp (fun K' hK => h' K' (fun a w hS hW => hK a w ⟨hS, hW⟩))
theorem wp_region_M {id : Nat} {a : Act} {w : World} (S : World → Prop) (k : Nat) (hm : P.follows .mixedOrders = true)
    (h : wpAnyM P .any ops Q S k ops.size (Array.replicate ops.size false) a w.drew) : (Code.region id ops true).wp P Q a w :=
  wp_region_any hm (wpAny_of_M _ _ _ _ h)
end
end Go.Proofs.YtoakfninndkgaaaGreatDoor.Val
