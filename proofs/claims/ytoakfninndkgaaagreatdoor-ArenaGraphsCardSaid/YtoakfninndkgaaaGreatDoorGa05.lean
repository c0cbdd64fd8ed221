/- A law on regions that draw their order: a load may be taken first if it comes ahead of a milestone (operation k), although a later operation writes its cell. Walks: slices.Insert of one element in a row with room. Walks: slices.Insert of one element in a row without room. Walks: slices.Insert of one element, whatever the row; insert. Walks: BinarySearch in a row of one's own; insert, of a name that is not there. -/
import Derived.Deep.RegionHeld3
import Derived.Test.YtoakfninndkgaaaGreatDoorGa04
import Derived.WalkKit
import Derived.WalkSpells
import Derived.WalkLawsBesides
import Derived.Lib.Hide
import Derived.Laws.OwnMore
import Derived.Laws.MakeOwn
import Derived.Laws.CopyRow
import Derived.Lib.AppendZerosOnto
import Derived.Lib.Overlaps
import Derived.OwnWalk
import Derived.Carry
import Derived.OneCell
import Derived.BigRegion
import Derived.BigQuiet
import Derived.Deep.QuietTactic
import Derived.Deep.LoopGhost
import Derived.Deep.DeepCutAuto
import Derived.Deep.CutBlock
import Derived.Deep.RegionLaw
import Derived.Deep.RegionWith
set_option linter.unusedSimpArgs false
set_option linter.unusedVariables false
set_option linter.unusedVariables false
namespace Go.Proofs.YtoakfninndkgaaaGreatDoor.Val
section
variable {P : Program} {ops : Array Oper} {Q : Exit → Act → World → Prop} {md : Region.Mode} {S T : World → Prop} {k : Nat}
/-- whatever order is picked; and S holds behind each operation till operation k has come up. -/
def wpAnyM (P : Program) (md : Region.Mode) (ops : Array Oper) (Q : Exit → Act → World → Prop) (S : World → Prop) (k : Nat) : Nat → Array Bool → Act → World → Prop
  | 0, listed, a, w => Region.ready md ops listed = [] ∧ Q .normal a w
  | fuel + 1, listed, a, w =>
    (Region.ready md ops listed = [] → Q .normal a w) ∧
    ∀ i ∈ Region.ready md ops listed, wpOp P ops Q i (fun a' w' => ((listed.setIfInBounds i true).getD k true = false → S w') ∧ wpAnyM P md ops Q S k fuel (listed.setIfInBounds i true) a' w') a w
theorem wpAny_of_M : ∀ (fuel : Nat) (listed : Array Bool) (a : Act) (w : World), wpAnyM P md ops Q S k fuel listed a w → wpAny P md ops Q fuel listed a w
  | 0, _, _, _, h => h
  | fuel + 1, _, _, _, h => ⟨h.1, fun i hi => wpOp_mono (fun a' w' h' => wpAny_of_M fuel _ a' w' h'.2) (h.2 i hi)⟩
theorem unlisted_back {listed : Array Bool} {i k : Nat} (h : (listed.setIfInBounds i true).getD k true = false) : listed.getD k true = false := by
  by_cases hik : i = k
  · subst hik
    exfalso
    by_cases hlt : i < listed.size
    · simp [hlt] at h
    · simp [hlt] at h
  · rw [getD_set_ne true hik] at h; exact h
theorem wpAnyM_first {i : Nat} {oi : Oper} {v : Value} {D : List Nat} (hi : ops[i]? = some oi) (hsel : ∀ (j : Nat) (o : Oper) cs b, ops[j]? = some o → o.op ≠ .select cs b)
    (hQ : ∀ c a w, Q (.panic c) (a.put oi.dst v) w → Q (.panic c) a w)
    (hcl : ∀ d ∈ D, ∀ od, ops[d]? = some od → ∃ e ∈ od.after, Region.binds md e = true ∧ (e.on = i ∨ e.on ∈ D))
    (hik : i ≠ k) (hT : (∀ w, T w) ∨ (k ∈ D ∧ ∀ w, S w → T w)) :
    ∀ (fuel : Nat) (listed : Array Bool) (a : Act) (w : World),
      (∀ j oj, ops[j]? = some oj → j ≠ i → listed.getD j true = false → (∀ e ∈ oj.after, Region.binds md e = true → e.on ≠ i) → oi.apart ops oj = true) →
      i ∈ Region.ready md ops listed → (∀ d ∈ D, listed.getD d true = false) → YieldsIf P ops T oi v a → (listed.getD k true = false → S w) →
      wpAnyM P md ops Q S k fuel (listed.setIfInBounds i true) (a.put oi.dst v) w → wpAnyM P md ops Q S k (fuel + 1) listed a w := by
  intro fuel
  induction fuel with
  | zero =>
    intro listed a w _ hr hD hy hS H
    have hTw : T w := hT.elim (fun h => h w) (fun h => h.2 w (hS (hD k h.1)))
    refine ⟨fun h => (by rw [h] at hr; cases hr), fun j hj => ?_⟩
    by_cases hji : j = i
    · subst hji; exact hy.wpOp hi hTw ⟨fun h => hS (unlisted_back h), H⟩
    · have := ready_mono hj hji
      rw [H.1] at this
      cases this
  | succ fuel ih =>
    intro listed a w hfree hr hD hy hS H
    have hTw : T w := hT.elim (fun h => h w) (fun h => h.2 w (hS (hD k h.1)))
    refine ⟨fun h => (by rw [h] at hr; cases hr), fun j hj => ?_⟩
    by_cases hji : j = i
    · subst hji; exact hy.wpOp hi hTw ⟨fun h => hS (unlisted_back h), H⟩
    · have h1 := H.2 j (ready_mono hj hji)
      obtain ⟨hjun, oj, hoj, hall⟩ := mem_ready.1 hj
      have hun : ∀ x, listed.getD x true = false → listed.getD x false = true → False := fun x h0 h1 => by
        rcases Nat.lt_or_ge x listed.size with h' | h'
        · simp [h'] at h0 h1; rw [h0] at h1; cases h1
        · simp [Array.getElem?_eq_none h'] at h1
      have hnot : ∀ e ∈ oj.after, Region.binds md e = true → e.on ≠ i := fun e he hb heq => by
        have h1 := hall e he hb
        rw [heq] at h1
        exact hun i (mem_ready.1 hr).1 h1
      have hjD : j ∉ D := fun hjD => by
        obtain ⟨e, he, hb, h2 | h2⟩ := hcl j hjD oj hoj
        · exact hnot e he hb h2
        · exact hun _ (hD _ h2) (hall e he hb)
      have h2 := wpOp_putIf hoj (hfree j oj hoj hji hjun hnot) (fun cs b => hsel i oi cs b hi) (fun cs b => hsel j oj cs b hoj) hQ hy h1
      have hfree' : ∀ k ok, ops[k]? = some ok → k ≠ i → (listed.setIfInBounds j true).getD k true = false →
          (∀ e ∈ ok.after, Region.binds md e = true → e.on ≠ i) → oi.apart ops ok = true := fun k ok hk hki hun hno => by
        refine hfree k ok hk hki ?_ hno
        by_cases hjk : j = k
        · subst hjk; exact hjun
        · rw [getD_set_ne true hjk] at hun; exact hun
      have hD' : ∀ d ∈ D, (listed.setIfInBounds j true).getD d true = false := fun d hd => by
        rw [getD_set_ne true (fun e => hjD (by rw [e]; exact hd))]; exact hD d hd
      have hSS : ∀ w', (((listed.setIfInBounds i true).setIfInBounds j true).getD k true = false → S w') → ((listed.setIfInBounds j true).getD k true = false → S w') := fun w' h hk => by
        refine h ?_
        rw [Array.setIfInBounds_comm _ _ (Ne.symm hji), getD_set_ne true hik]
        exact hk
      refine wpOp_mono (fun a' w' h3 => ⟨hSS w' h3.2.1, ih (listed.setIfInBounds j true) a' w' hfree' (ready_mono hr (Ne.symm hji)) hD' h3.1 (hSS w' h3.2.1) ?_⟩) h2
      rw [Array.setIfInBounds_comm _ _ hji]
      exact h3.2.2
/-- D waits for i: as a Bool. -/
def waits (md : Region.Mode) (ops : Array Oper) (i : Nat) (D : List Nat) : Bool := D.all fun d => match ops[d]? with
  | some od => od.after.any fun e => Region.binds md e && (e.on == i || D.contains e.on)
  | none => true
theorem waits_spec {i : Nat} {D : List Nat} (h : waits md ops i D = true) : ∀ d ∈ D, ∀ od, ops[d]? = some od → ∃ e ∈ od.after, Region.binds md e = true ∧ (e.on = i ∨ e.on ∈ D) := by
  intro d hd od hod
  have h1 := List.all_eq_true.1 h d hd
  simp only [hod, Array.any_eq_true'] at h1
  obtain ⟨e, he, h2⟩ := h1
  refine ⟨e, he, ?_⟩
  simpa using h2
/-- take what yields in whatever world. -/
theorem wpAnyM_take {i : Nat} {oi : Oper} {v : Value} {fuel : Nat} {listed : Array Bool} {a : Act} {w : World} (hi : ops[i]? = some oi)
    (hs : Region.noSelect ops = true) (hf : Region.free md ops listed i = true) (hr : (Region.ready md ops listed).contains i = true)
    (hQ : ∀ c a w, Q (.panic c) (a.put oi.dst v) w → Q (.panic c) a w) (hik : (i == k) = false) (hS : listed.getD k true = false → S w) (hy : YieldsIf P ops (fun _ => True) oi v a)
    (h : wpAnyM P md ops Q S k fuel (listed.setIfInBounds i true) (a.put oi.dst v) w) : wpAnyM P md ops Q S k (fuel + 1) listed a w :=
  wpAnyM_first (D := []) hi (Region.noSelect_spec hs) hQ (fun d hd => by cases hd) (by simpa using hik) (Or.inl fun _ => True.intro) fuel listed a w (Region.free_spec hi hf) (by simpa using hr) (fun d hd => by cases hd) hy hS h
/-- take what yields in every world that meets S, and which k waits for. -/
theorem wpAnyM_load {i : Nat} {oi : Oper} {v : Value} {fuel : Nat} {listed : Array Bool} {a : Act} {w : World} (D : List Nat) (hi : ops[i]? = some oi)
    (hs : Region.noSelect ops = true) (hf : Region.free md ops listed i = true) (hr : (Region.ready md ops listed).contains i = true)
    (hQ : ∀ c a w, Q (.panic c) (a.put oi.dst v) w → Q (.panic c) a w) (hik : (i == k) = false) (hcl : waits md ops i D = true) (hk : D.contains k = true) (hun : D.all (fun d => !listed.getD d true) = true) (hS : S w) (hy : YieldsIf P ops S oi v a)
    (h : wpAnyM P md ops Q S k fuel (listed.setIfInBounds i true) (a.put oi.dst v) w) : wpAnyM P md ops Q S k (fuel + 1) listed a w :=
  wpAnyM_first (D := D) hi (Region.noSelect_spec hs) hQ (waits_spec hcl) (by simpa using hik) (Or.inr ⟨by simpa using hk, fun _ h => h⟩) fuel listed a w (Region.free_spec hi hf) (by simpa using hr) (fun d hd => by have := List.all_eq_true.1 hun d hd; simpa using this) hy (fun _ => hS) h
/-- all have come up. -/
theorem wpAnyM_done {listed : Array Bool} {a : Act} {w : World} (hr : Region.ready md ops listed = []) (h : Q .normal a w) : ∀ fuel, wpAnyM P md ops Q S k fuel listed a w
  | 0 => ⟨hr, h⟩
  | _ + 1 => ⟨fun _ => h, by rw [hr]; simp⟩
theorem wpAnyM_all {rs : List Nat} {fuel : Nat} {listed : Array Bool} {a : Act} {w : World} (hr : Region.ready md ops listed = rs) (hne : rs ≠ [])
    (h : ∀ i ∈ rs, wpOp P ops Q i (fun a' w' => ((listed.setIfInBounds i true).getD k true = false → S w') ∧ wpAnyM P md ops Q S k fuel (listed.setIfInBounds i true) a' w') a w) : wpAnyM P md ops Q S k (fuel + 1) listed a w :=
  ⟨fun h0 => absurd (hr ▸ h0) hne, hr ▸ h⟩
/-- one alone may come up. -/
theorem wpAnyM_one {i : Nat} {o : Oper} {fuel : Nat} {listed : Array Bool} {a : Act} {w : World} (hr : Region.ready md ops listed = [i]) (ho : ops[i]? = some o)
    (h : ∀ K' : Act → World → Prop, Shut (∀ a w, ((listed.setIfInBounds i true).getD k true = false → S w) → wpAnyM P md ops Q S k fuel (listed.setIfInBounds i true) a w → K' a w) → if Region.wanted o (yielded ops a.tmps) = true then Oper.wp P o a w K' Q else K' (a.put o.dst undef) w) :
    wpAnyM P md ops Q S k (fuel + 1) listed a w :=
  wpAnyM_all hr (by simp) fun j hj => by
    have hji : j = i := by simpa using hj
    subst hji
    exact wpOp_step ho (fun K' hK => h K' (fun a w hS hW => hK a w ⟨hS, hW⟩))
/-- one of two may come up. -/
theorem wpAnyM_two {i j : Nat} {o p : Oper} {fuel : Nat} {listed : Array Bool} {a : Act} {w : World} (hr : Region.ready md ops listed = [i, j]) (ho : ops[i]? = some o) (hp : ops[j]? = some p)
    (h : ∀ K' : Act → World → Prop, Shut (∀ a w, ((listed.setIfInBounds i true).getD k true = false → S w) → wpAnyM P md ops Q S k fuel (listed.setIfInBounds i true) a w → K' a w) → if Region.wanted o (yielded ops a.tmps) = true then Oper.wp P o a w K' Q else K' (a.put o.dst undef) w)
    (h' : ∀ K' : Act → World → Prop, Shut (∀ a w, ((listed.setIfInBounds j true).getD k true = false → S w) → wpAnyM P md ops Q S k fuel (listed.setIfInBounds j true) a w → K' a w) → if Region.wanted p (yielded ops a.tmps) = true then Oper.wp P p a w K' Q else K' (a.put p.dst undef) w) :
    wpAnyM P md ops Q S k (fuel + 1) listed a w :=
  wpAnyM_all hr (by simp) fun x hx => by
    have hxx : x = i ∨ x = j := by simpa using hx
    cases hxx with
    | inl hx => subst hx; exact wpOp_step ho (fun K' hK => h K' (fun a w hS hW => hK a w ⟨hS, hW⟩))
    | inr hx => subst hx; exact wpOp_step hp (fun K' hK => h' K' (fun a w hS hW => hK a w ⟨hS, hW⟩))
theorem wp_region_M {id : Nat} {a : Act} {w : World} (S : World → Prop) (k : Nat) (hm : P.follows .mixedOrders = true)
    (h : wpAnyM P .any ops Q S k ops.size (Array.replicate ops.size false) a w.drew) : (Code.region id ops true).wp P Q a w :=
  wp_region_any hm (wpAny_of_M _ _ _ _ h)
end
end Go.Proofs.YtoakfninndkgaaaGreatDoor.Val
set_option linter.unusedVariables false
namespace Go.Proofs.YtoakfninndkgaaaGreatDoor.Val
open Go.RowKit
theorem ins_list (cur xs new c1 c2 : List Value) (o z m : Nat) (hct : cur.take m = xs) (ho : o ≤ m) (hl : new.length = z) (hfit : m + z ≤ cur.length) (h1 : c1 = cur.take (o + z) ++ xs.drop o ++ cur.drop (o + z + (xs.drop o).length)) (h2 : c2 = c1.take o ++ new ++ c1.drop (o + new.length)) :
    c2.take (m + z) = xs.take o ++ new ++ xs.drop o ∧ c2.length = cur.length := by
  have hxl : xs.length = m := by rw [← hct, List.length_take]; omega
  have hdl : (xs.drop o).length = m - o := by rw [List.length_drop, hxl]
  have htl : (cur.take (o + z)).length = o + z := by rw [List.length_take]; omega
  have e1 : c1.take o = xs.take o := by
    rw [h1, List.append_assoc, List.take_append_of_le_length (by omega), List.take_take, Nat.min_eq_left (by omega), ← hct, List.take_take, Nat.min_eq_left ho]
  have e2 : c1.drop (o + new.length) = xs.drop o ++ cur.drop (o + z + (xs.drop o).length) := by
    rw [h1, List.append_assoc, hl]
    exact List.drop_left' htl
  rw [h2, e1, e2]
  constructor
  · rw [← List.append_assoc]
    refine List.take_left' ?_
    simp only [List.length_append, List.length_take, hl, hxl, hdl]
    omega
  · simp only [List.length_append, List.length_take, List.length_drop, hl, hxl]
    omega
theorem over9 (w : World) (B c g lb cb o : Nat) (cB cur : Array Value) (hB : w.heap[B]? = some (.cells cB 9 (0, 0))) (hg : w.heap[g]? = some (.cells cur 9 (0, 0))) (hne : B ≠ g) (hcur : cur.size ≠ 0) :
    (callFunc 80 #[.slice (some ⟨B, 0, none⟩) 1 c, .slice (some ⟨g, o, none⟩) lb cb]).run Tryz.prog w = .ok (.value (.bool false)) w := by
  have hs : ∀ (b : Nat) (cs : Array Value), w.heap[b]? = some (.cells cs 9 (0, 0)) → w.shape? b = some (9, cs.size) := fun b cs h => by
    unfold World.shape?
    rw [h]
  have hf : ∀ (o : Nat), w.frozen? ⟨B, o, none⟩ = false := fun o => frozen_of_row w B o _ 9 hB
  have hz : ∀ w, (Go.sizeOf 9).run Tryz.prog w = .ok 1 w := fun w => by kernel_rfl
  rw [run_callFunc_extern Tryz.func80 (by kernel_rfl) (by kernel_rfl) (by kernel_rfl) (e := Extern.SlicesOverlaps.overlaps Tryz.f80.params Tryz.f80.resultTypes) (by kernel_rfl)]
  have := Lib.run_overlaps_apart (P := Tryz.prog) w 35 4 9 Tryz.underlying35 1 hz ⟨B, 0, none⟩ ⟨g, o, none⟩ 1 c lb cb hne 9 9 cB.size cur.size (hs B cB hB) (hs g cur hg) hcur (hf 0) (hf _)
  have hp : Tryz.f80.params = #[35, 35] := rfl
  have hr : Tryz.f80.resultTypes = #[4] := rfl
  rw [hp, hr, this]
  rfl
set_option maxRecDepth 20000 in
set_option maxHeartbeats 2000000 in
theorem ins_room_24 (w : World) (base g n cap i B c : Nat) (xs new : List Value) (hn : n ≤ 100000) (hin : i < n) (hroom : n + 1 ≤ cap) (hown : w.ownsRow base 9 1 (.slice (some ⟨g, 0, none⟩) n cap) n xs) (hone : ∀ u ∈ xs, u.oneCell' = true) (hl : new.length = 1) (hB : w.heap[B]? = some (.cells new.toArray 9 (0, 0))) (hnone : ∀ u ∈ new, u.oneCell' = true) (hBg : B ≠ g) :
    Calls Tryz.prog 66 #[.slice (some ⟨g, 0, none⟩) n cap, .int .i64 (i : Int), .slice (some ⟨B, 0, none⟩) 1 c] w fun e w' => e = .returned (.slice (some ⟨g, 0, none⟩) (n + 1) cap) ∧ w'.ownsRow base 9 1 (.slice (some ⟨g, 0, none⟩) (n + 1) cap) (n + 1) (xs.take i ++ new ++ xs.drop i) ∧ w.grownBy w' (some g) := by
  obtain ⟨cur, hgb, hg, hcm, hcs, hct⟩ : ∃ cur, base ≤ g ∧ w.heap[g]? = some (.cells cur 9 (0, 0)) ∧ cap ≤ maxLen ∧ cur.size = cap ∧ cur.toList.take n = xs := by
    rcases hown.2 with ⟨h', _⟩ | ⟨g', cap', cur, h', e1, e2, e3, e4, e5, e6⟩
    · simp at h'
    · simp only [Value.slice.injEq, Option.some.injEq, Addr.mk.injEq, and_true, true_and] at h'
      obtain ⟨rfl, rfl⟩ := h'
      exact ⟨cur, e1, e2, e4, by simpa using e5, by simpa using e6⟩
  have hxl := hown.1
  obtain ⟨cur1, hcur1⟩ : ∃ cur1, cur1 = (cur.toList.take (i + 1) ++ xs.drop i ++ cur.toList.drop ((i + 1) + (xs.drop i).length)).toArray := ⟨_, rfl⟩
  have hdl : (xs.drop i).length = n - i := by rw [List.length_drop, hxl]; omega
  have hmin : Nat.min (n + 1 - i) (n - i) = n - i := by show (min (n + 1 - i) (n - i) : Nat) = n - i; omega
  have hc1 := fun ty => run_copy_many (P := Tryz.prog) w.drew 35 35 ty 9 1 g (i + 1) (n - i) (cap - (i + 1)) ⟨g, i, none⟩ (n + 1 - i) (cap - i) cur 9 (xs.drop i) Tryz.underlying35 (by kernel_rfl) hg (by rw [hmin]; omega)
    (fun j u hu => by
      have hadd : (⟨g, i, none⟩ : Addr).add j = ⟨g, i + j, none⟩ := by unfold Addr.add; split <;> simp_all
      have := hown.cellAt (i + j) (by have := (List.getElem?_eq_some_iff.1 hu).1; omega)
      rw [hadd]
      exact this.trans (by rw [List.getElem?_drop] at hu; exact hu)) (by rw [hdl, hcs]; omega) (fun u hu => hone u (List.mem_of_mem_drop hu))
  rw [← hcur1, hmin] at hc1
  have hg1 : (w.drew.setRow g cur1).heap[g]? = some (.cells cur1 9 (0, 0)) := setRow_heap w.drew g cur _ 9 _ hg
  have hcs1 : cur1.size = cap := by rw [hcur1]; simp [hxl, hcs]; omega
  have hB1 : (w.drew.setRow g cur1).heap[B]? = some (.cells new.toArray 9 (0, 0)) := (setRow_other w.drew g B cur1 hBg).trans hB
  obtain ⟨cur2, hcur2⟩ : ∃ cur2, cur2 = (cur1.toList.take i ++ new ++ cur1.toList.drop (i + new.length)).toArray := ⟨_, rfl⟩
  have hmin2 : Nat.min 1 (n + 1 - i) = 1 := Nat.min_eq_left (by omega)
  have hc2 := fun ty => run_copy_many (P := Tryz.prog) (w.drew.setRow g cur1) 35 35 ty 9 1 g i (n + 1 - i) (cap - i) ⟨B, 0, none⟩ 1 c cur1 9 new Tryz.underlying35 (by kernel_rfl) hg1 (by rw [hmin2]; omega) (news9 hB1) (by rw [hl, hcs1]; omega) hnone
  rw [← hcur2, hmin2] at hc2
  have hov := over9 w B c g (n - i) (cap - (i + 1)) (i + 1) new.toArray cur hB hg hBg (by rw [hcs]; omega)
  have hlist := ins_list cur.toList xs new cur1.toList cur2.toList i 1 n hct (by omega) hl (by rw [Array.length_toList]; omega) (by simp [hcur1, Nat.add_mul]) (by rw [hcur2])
  have HEND : Hid ((w.drew.setRow g cur2).ownsRow base 9 1 (.slice (some ⟨g, 0, none⟩) (n + 1) cap) (n + 1) (xs.take i ++ new ++ xs.drop i) ∧ w.grownBy (w.drew.setRow g cur2) (some g)) := Lib.hid (by
    refine ⟨⟨?_, Or.inr ⟨g, cap, cur2, rfl, hgb, setRow_heap w.drew g cur _ 9 _ hg, hroom, hcm, ?_, ?_⟩⟩, ⟨rfl, rfl, rfl, by rw [size_setRow]; exact Nat.le_refl _, fun k _ hk => setRow_other w.drew g k _ (fun e => hk (by rw [e]))⟩⟩
    · rw [← hlist.1, List.length_take, hlist.2, Array.length_toList]; omega
    · have := hlist.2
      rw [Array.length_toList, Array.length_toList] at this
      omega
    · have := hlist.1
      rw [show (n + 1) * 1 = n + 1 by omega]
      exact this)
  have i1 : (i : Int) ≤ n := by omega
  have i2 : (i : Int) ≤ cap := by omega
  have i3 : (i : Int) + 1 ≤ (n : Int) + 1 := by omega
  have i4 : (i : Int) + 1 ≤ cap := by omega
  have i5 : (n : Int) + 1 ≤ cap := by omega
  have i6 : ¬ cap = i := by omega
  have i7 : ¬ cap = i + 1 := by omega
  have i8 : ((i : Int) == (n : Int)) = false := by simp; omega
  have i9 : (0 : Int) ≤ (n : Int) + 1 := by omega
  have i10 : (0 : Int) ≤ (i : Int) + 1 := by omega
  have i11 : (i : Int) ≤ (n : Int) + 1 := by omega
  have i12 : ¬ (cap : Int) < (n : Int) + 1 := by omega
  have w1 : IntKind.i64.wrap ((n : Int) + 1) = (n : Int) + 1 := by rw [IntKind.wrap_i64]; omega
  have w2 : IntKind.i64.wrap ((i : Int) + 1) = (i : Int) + 1 := by rw [IntKind.wrap_i64]; omega
  clear hlist hown hone hB hnone hg hg1 hB1 hcs hct hcs1 hcur1 hcur2 hdl hmin hmin2 hxl hl
  go_enter Tryz.func66, Tryz.ntmps66
  go_upto_region 15 with (fail)
  go_region
  clear hc1 hov
  go_wp2
  go_ret
  refine ⟨rfl, ?_⟩
  have hend := HEND.out
  rw [List.append_assoc] at hend
  rw [setRow_setRow]
  exact hend
theorem over28 (w : World) (B c g lb cb o : Nat) (cB cur : Array Value) (hB : w.heap[B]? = some (.cells cB 70 (0, 0))) (hg : w.heap[g]? = some (.cells cur 70 (0, 0))) (hne : B ≠ g) (hcur : cur.size ≠ 0) :
    (callFunc 82 #[.slice (some ⟨B, 0, none⟩) 1 c, .slice (some ⟨g, o, none⟩) lb cb]).run Tryz.prog w = .ok (.value (.bool false)) w := by
  have hs : ∀ (b : Nat) (cs : Array Value), w.heap[b]? = some (.cells cs 70 (0, 0)) → w.shape? b = some (70, cs.size) := fun b cs h => by
    unfold World.shape?
    rw [h]
  have hf : ∀ (o : Nat), w.frozen? ⟨B, o, none⟩ = false := fun o => frozen_of_row w B o _ 70 hB
  have hz : ∀ w, (Go.sizeOf 70).run Tryz.prog w = .ok 8 w := fun w => by kernel_rfl
  rw [run_callFunc_extern Tryz.func82 (by kernel_rfl) (by kernel_rfl) (by kernel_rfl) (e := Extern.SlicesOverlaps.overlaps Tryz.f82.params Tryz.f82.resultTypes) (by kernel_rfl)]
  have := Lib.run_overlaps_apart (P := Tryz.prog) w 67 4 70 Tryz.underlying67 8 hz ⟨B, 0, none⟩ ⟨g, o, none⟩ 1 c lb cb hne 70 70 cB.size cur.size (hs B cB hB) (hs g cur hg) hcur (hf 0) (hf _)
  have hp : Tryz.f82.params = #[67, 67] := rfl
  have hr : Tryz.f82.resultTypes = #[4] := rfl
  rw [hp, hr, this]
  rfl
set_option maxRecDepth 20000 in
set_option maxHeartbeats 2000000 in
theorem ins_room_25 (w : World) (base g n cap i B c : Nat) (xs new : List Value) (hn : n ≤ 100000) (hin : i < n) (hroom : n + 1 ≤ cap) (hown : w.ownsRow base 70 8 (.slice (some ⟨g, 0, none⟩) n cap) n xs) (hone : ∀ u ∈ xs, u.oneCell' = true) (hl : new.length = 8) (hB : w.heap[B]? = some (.cells new.toArray 70 (0, 0))) (hnone : ∀ u ∈ new, u.oneCell' = true) (hBg : B ≠ g) :
    Calls Tryz.prog 67 #[.slice (some ⟨g, 0, none⟩) n cap, .int .i64 (i : Int), .slice (some ⟨B, 0, none⟩) 1 c] w fun e w' => e = .returned (.slice (some ⟨g, 0, none⟩) (n + 1) cap) ∧ w'.ownsRow base 70 8 (.slice (some ⟨g, 0, none⟩) (n + 1) cap) (n + 1) (xs.take (i * 8) ++ new ++ xs.drop (i * 8)) ∧ w.grownBy w' (some g) := by
  obtain ⟨cur, hgb, hg, hcm, hcs, hct⟩ : ∃ cur, base ≤ g ∧ w.heap[g]? = some (.cells cur 70 (0, 0)) ∧ cap ≤ maxLen ∧ cur.size = cap * 8 ∧ cur.toList.take (n * 8) = xs := by
    rcases hown.2 with ⟨h', _⟩ | ⟨g', cap', cur, h', e1, e2, e3, e4, e5, e6⟩
    · simp at h'
    · simp only [Value.slice.injEq, Option.some.injEq, Addr.mk.injEq, and_true, true_and] at h'
      obtain ⟨rfl, rfl⟩ := h'
      exact ⟨cur, e1, e2, e4, by simpa using e5, by simpa using e6⟩
  have hxl := hown.1
  obtain ⟨cur1, hcur1⟩ : ∃ cur1, cur1 = (cur.toList.take ((i + 1) * 8) ++ xs.drop (i * 8) ++ cur.toList.drop ((i + 1) * 8 + (xs.drop (i * 8)).length)).toArray := ⟨_, rfl⟩
  have hdl : (xs.drop (i * 8)).length = (n - i) * 8 := by rw [List.length_drop, hxl]; omega
  have hmin : Nat.min (n + 1 - i) (n - i) = n - i := by show (min (n + 1 - i) (n - i) : Nat) = n - i; omega
  have hc1 := fun ty => run_copy_many (P := Tryz.prog) w.drew 67 67 ty 70 8 g ((i + 1) * 8) (n - i) (cap - (i + 1)) ⟨g, i * 8, none⟩ (n + 1 - i) (cap - i) cur 70 (xs.drop (i * 8)) Tryz.underlying67 (by kernel_rfl) hg (by rw [hmin]; omega)
    (fun j u hu => by
      have hadd : (⟨g, i * 8, none⟩ : Addr).add j = ⟨g, i * 8 + j, none⟩ := by unfold Addr.add; split <;> simp_all
      have := hown.cellAt (i * 8 + j) (by have := (List.getElem?_eq_some_iff.1 hu).1; omega)
      rw [hadd]
      exact this.trans (by rw [List.getElem?_drop] at hu; exact hu)) (by rw [hdl, hcs]; omega) (fun u hu => hone u (List.mem_of_mem_drop hu))
  rw [← hcur1, hmin] at hc1
  have hg1 : (w.drew.setRow g cur1).heap[g]? = some (.cells cur1 70 (0, 0)) := setRow_heap w.drew g cur _ 70 _ hg
  have hcs1 : cur1.size = cap * 8 := by rw [hcur1]; simp [hxl, hcs]; omega
  have hB1 : (w.drew.setRow g cur1).heap[B]? = some (.cells new.toArray 70 (0, 0)) := (setRow_other w.drew g B cur1 hBg).trans hB
  obtain ⟨cur2, hcur2⟩ : ∃ cur2, cur2 = (cur1.toList.take (i * 8) ++ new ++ cur1.toList.drop (i * 8 + new.length)).toArray := ⟨_, rfl⟩
  have hmin2 : Nat.min 1 (n + 1 - i) = 1 := Nat.min_eq_left (by omega)
  have hc2 := fun ty => run_copy_many (P := Tryz.prog) (w.drew.setRow g cur1) 67 67 ty 70 8 g (i * 8) (n + 1 - i) (cap - i) ⟨B, 0, none⟩ 1 c cur1 70 new Tryz.underlying67 (by kernel_rfl) hg1 (by rw [hmin2]; omega) (news28 hB1) (by rw [hl, hcs1]; omega) hnone
  rw [← hcur2, hmin2] at hc2
  have hov := over28 w B c g (n - i) (cap - (i + 1)) ((i + 1) * 8) new.toArray cur hB hg hBg (by rw [hcs]; omega)
  have hlist := ins_list cur.toList xs new cur1.toList cur2.toList (i * 8) 8 (n * 8) hct (by omega) hl (by rw [Array.length_toList]; omega) (by simp [hcur1, Nat.add_mul]) (by rw [hcur2])
  have HEND : Hid ((w.drew.setRow g cur2).ownsRow base 70 8 (.slice (some ⟨g, 0, none⟩) (n + 1) cap) (n + 1) (xs.take (i * 8) ++ new ++ xs.drop (i * 8)) ∧ w.grownBy (w.drew.setRow g cur2) (some g)) := Lib.hid (by
    refine ⟨⟨?_, Or.inr ⟨g, cap, cur2, rfl, hgb, setRow_heap w.drew g cur _ 70 _ hg, hroom, hcm, ?_, ?_⟩⟩, ⟨rfl, rfl, rfl, by rw [size_setRow]; exact Nat.le_refl _, fun k _ hk => setRow_other w.drew g k _ (fun e => hk (by rw [e]))⟩⟩
    · rw [← hlist.1, List.length_take, hlist.2, Array.length_toList]; omega
    · have := hlist.2
      rw [Array.length_toList, Array.length_toList] at this
      omega
    · have := hlist.1
      rw [show (n + 1) * 8 = (n * 8) + 8 by omega]
      exact this)
  have i1 : (i : Int) ≤ n := by omega
  have i2 : (i : Int) ≤ cap := by omega
  have i3 : (i : Int) + 1 ≤ (n : Int) + 1 := by omega
  have i4 : (i : Int) + 1 ≤ cap := by omega
  have i5 : (n : Int) + 1 ≤ cap := by omega
  have i6 : ¬ cap = i := by omega
  have i7 : ¬ cap = i + 1 := by omega
  have i8 : ((i : Int) == (n : Int)) = false := by simp; omega
  have i9 : (0 : Int) ≤ (n : Int) + 1 := by omega
  have i10 : (0 : Int) ≤ (i : Int) + 1 := by omega
  have i11 : (i : Int) ≤ (n : Int) + 1 := by omega
  have i12 : ¬ (cap : Int) < (n : Int) + 1 := by omega
  have w1 : IntKind.i64.wrap ((n : Int) + 1) = (n : Int) + 1 := by rw [IntKind.wrap_i64]; omega
  have w2 : IntKind.i64.wrap ((i : Int) + 1) = (i : Int) + 1 := by rw [IntKind.wrap_i64]; omega
  clear hlist hown hone hB hnone hg hg1 hB1 hcs hct hcs1 hcur1 hcur2 hdl hmin hmin2 hxl hl
  go_enter Tryz.func67, Tryz.ntmps67
  go_upto_region 15 with (fail)
  go_region
  clear hc1 hov
  go_wp2
  go_ret
  refine ⟨rfl, ?_⟩
  have hend := HEND.out
  rw [List.append_assoc] at hend
  rw [setRow_setRow]
  exact hend
end Go.Proofs.YtoakfninndkgaaaGreatDoor.Val
set_option linter.unusedVariables false
namespace Go.Proofs.YtoakfninndkgaaaGreatDoor.Val
open Go.RowKit
theorem wpList_append_run {w w' : World} {ops : Array Oper} {rest : List Oper} {o : Oper} {a : Act} {Q : Exit → Act → World → Prop} (hgd : o.guard = none) (sl x : Operand) (t tn : TypeId)
    (ho : o.op = .call { callee := .builtin .append, args := #[sl, x], argTypes := #[t, tn] }) (vs vx v' : Value) (hs : a.eval sl = vs) (hx : a.eval x = vx) (hrun : ∀ ty, (Builtin.append_ #[t, tn] ty #[vs, vx]).run Tryz.prog w = .ok v' w')
    (h : wpList Tryz.prog ops Q rest (a.put o.dst v') w') : wpList Tryz.prog ops Q (o :: rest) a w := by
  refine wpList_plain hgd fun K hK => ?_
  unfold Oper.wp execOp
  simp only [ho, resolve, invoke, builtin, Sem.run_bind, Sem.run_pure, Result.andThen_ok, List.map_toArray, List.map_cons, List.map_nil, hs, hx, hrun]
  exact hK _ _ h
theorem grow_list (C0 xs new c1 c2 : List Value) (o z m : Nat) (ho : o ≤ m) (hxl : xs.length = m) (h0 : C0.take o = xs.take o) (hl : new.length = z) (hfit : m + z ≤ C0.length) (h1 : c1 = C0.take o ++ new ++ C0.drop (o + new.length)) (h2 : c2 = c1.take (o + z) ++ xs.drop o ++ c1.drop (o + z + (xs.drop o).length)) :
    c2.take (m + z) = xs.take o ++ new ++ xs.drop o ∧ c2.length = C0.length := by
  have hdl : (xs.drop o).length = m - o := by rw [List.length_drop, hxl]
  have htl : (xs.take o ++ new).length = o + z := by rw [List.length_append, List.length_take, hl]; omega
  have hc1l : c1.length = C0.length := by rw [h1, h0]; simp only [List.length_append, List.length_take, List.length_drop, hl, hxl]; omega
  have e1 : c1.take (o + z) = xs.take o ++ new := by
    rw [h1, h0]
    exact List.take_left' htl
  rw [h2, e1]
  constructor
  · refine List.take_left' ?_
    simp only [List.length_append, List.length_take, hl, hxl, hdl]
    omega
  · simp only [List.length_append, List.length_take, List.length_drop, hl, hxl, hc1l]
    omega
theorem app_zeros_24 (w : World) (base g n cap i : Nat) (xs : List Value) (hn : n ≤ 100000) (hin : i < n) (hroom : cap < n + 1) (hown : w.ownsRow base 9 1 (.slice (some ⟨g, 0, none⟩) n cap) n xs) :
    ∃ (C : Nat) (C0 : Array Value) (w1 : World), (∀ ty, (Builtin.append_ #[35, 3] ty #[.slice (some ⟨g, 0, none⟩) i cap, .int .i64 ((n : Int) + 1 - (i : Int))]).run Tryz.prog w = .ok (.slice (some ⟨w.heap.size, 0, none⟩) (n + 1) C) w1) ∧
      w1.heap[w.heap.size]? = some (.cells C0 9 (0, 0)) ∧ n + 1 ≤ C ∧ C ≤ maxLen ∧ C0.size = C ∧ C0.toList.take i = xs.take i ∧ w.grownBy w1 none := by
  obtain ⟨i0, hi, hz0, hz1, hz2⟩ := info_parts Tryz.info9
  have hxl := hown.1
  obtain ⟨k, hk⟩ : ∃ k, k = n + 1 - i := ⟨_, rfl⟩
  have hkI : (n : Int) + 1 - (i : Int) = (k : Int) := by omega
  have hik : i + k = n + 1 := by omega
  have hold : (Builtin.firstCells i0.size i (.slice (some ⟨g, 0, none⟩) i cap)).run Tryz.prog w.drew = .ok (xs.take i).toArray w.drew := by
    refine run_firstCells_some (P := Tryz.prog) w.drew i0.size i ⟨g, 0, none⟩ i cap (xs.take i) (by rw [hz1, List.length_take]; omega) (fun j u hu => ?_)
    have hadd : (⟨g, 0, none⟩ : Addr).add j = ⟨g, j, none⟩ := by unfold Addr.add; split <;> simp_all
    rw [hadd]
    rw [List.getElem?_take] at hu
    split at hu
    · have := hown.cellAt j (by have := (List.getElem?_eq_some_iff.1 hu).1; omega)
      exact this.trans hu
    · cases hu
  have hfit : Builtin.nextslicecap (i + k) cap * i0.bytes ≤ 281474976710656 := growslice_fits (by omega) (by rw [hz2]; omega)
  have happ := fun ty => Lib.run_append_grow_zeros (P := Tryz.prog) w 35 3 ty 9 i0 (.string ByteArray.empty) .i64 .i64 Tryz.underlying35 Tryz.underlying3 hi hz0 (some ⟨g, 0, none⟩) i cap (xs.take i) hold k (by omega) (by rw [hz1]; omega) (by omega) (by omega) (by rw [hz2]; omega) hfit
  rw [hik] at happ
  have hge := grownCap_ge w (n + 1) cap 9
  have hle := grownCap_le_maxLen w (n + 1) cap 9 (by unfold maxLen; omega)
  have htl : (xs.take i).length = i := by rw [List.length_take]; omega
  refine ⟨_, _, _, fun ty => by rw [hkI]; exact happ ty, heap_alloc_new w.drew _, hge, hle, ?_, ?_, ⟨rfl, rfl, rfl, by simp, fun j hj _ => Below.heap_alloc w.drew _ j hj⟩⟩
  · simp only [Array.size_append, List.size_toArray, size_zeroCells, htl]
    show i + k * 1 + (grownCap w (n + 1) cap 9 - (n + 1)) * 1 = grownCap w (n + 1) cap 9
    omega
  · simp only [Array.toList_append, List.append_assoc]
    exact List.take_left' htl
set_option maxRecDepth 20000 in
set_option maxHeartbeats 2000000 in
theorem ins_grow_24 (w : World) (base g n cap i B c : Nat) (xs new : List Value) (hn : n ≤ 100000) (hin : i < n) (hroom : cap < n + 1) (hown : w.ownsRow base 9 1 (.slice (some ⟨g, 0, none⟩) n cap) n xs) (hone : ∀ u ∈ xs, u.oneCell' = true) (hl : new.length = 1) (hB : w.heap[B]? = some (.cells new.toArray 9 (0, 0))) (hnone : ∀ u ∈ new, u.oneCell' = true) (hb : base ≤ w.heap.size) :
    Calls Tryz.prog 66 #[.slice (some ⟨g, 0, none⟩) n cap, .int .i64 (i : Int), .slice (some ⟨B, 0, none⟩) 1 c] w fun e w' => ∃ C, e = .returned (.slice (some ⟨w.heap.size, 0, none⟩) (n + 1) C) ∧ w'.ownsRow base 9 1 (.slice (some ⟨w.heap.size, 0, none⟩) (n + 1) C) (n + 1) (xs.take i ++ new ++ xs.drop i) ∧ w.grownBy w' none := by
  obtain ⟨C, C0, w1, happ, hG, hC1, hC2, hC3, hC4, hgr⟩ := app_zeros_24 w base g n cap i xs hn hin hroom hown
  obtain ⟨hgl, hcapn⟩ : g < w.heap.size ∧ n ≤ cap := by
    rcases hown.2 with ⟨h', _⟩ | ⟨g', cap', cur, h', e1, e2, e3, e4, e5, e6⟩
    · simp at h'
    · simp only [Value.slice.injEq, Option.some.injEq, Addr.mk.injEq, and_true, true_and] at h'
      obtain ⟨rfl, rfl⟩ := h'
      exact ⟨(Array.getElem?_eq_some_iff.1 e2).1, e3⟩
  have hBl : B < w.heap.size := (Array.getElem?_eq_some_iff.1 hB).1
  have hxl := hown.1
  obtain ⟨G, hGd⟩ : ∃ G, G = w.heap.size := ⟨_, rfl⟩
  rw [← hGd] at happ hG hgl hBl hb ⊢
  have hdl : (xs.drop i).length = n - i := by rw [List.length_drop, hxl]; omega
  have hB1 : w1.heap[B]? = some (.cells new.toArray 9 (0, 0)) := (hgr.block B (by omega) (by simp)).trans hB
  obtain ⟨c1, hc1d⟩ : ∃ c1, c1 = (C0.toList.take i ++ new ++ C0.toList.drop (i + new.length)).toArray := ⟨_, rfl⟩
  have hmin2 : Nat.min 1 (n + 1 - i) = 1 := Nat.min_eq_left (by omega)
  have hc1 := fun ty => run_copy_many (P := Tryz.prog) w1 35 35 ty 9 1 G i (n + 1 - i) (C - i) ⟨B, 0, none⟩ 1 c C0 9 new Tryz.underlying35 (by kernel_rfl) hG (by rw [hmin2]; omega) (news9 hB1) (by rw [hl, hC3]; omega) hnone
  rw [← hc1d, hmin2] at hc1
  have hG1 : (w1.setRow G c1).drew.heap[G]? = some (.cells c1 9 (0, 0)) := setRow_heap w1 G C0 _ 9 _ hG
  have hs1 : c1.size = C := by rw [hc1d]; simp only [List.size_toArray, List.length_append, List.length_take, List.length_drop, hl, Array.length_toList, hC3]; omega
  have hown1 : (w1.setRow G c1).drew.ownsRow base 9 1 (.slice (some ⟨g, 0, none⟩) n cap) n xs := by
    refine ⟨hown.1, ?_⟩
    rcases hown.2 with h' | ⟨g', cap', cur, h', e1, e2, e3⟩
    · exact Or.inl h'
    · simp only [Value.slice.injEq, Option.some.injEq, Addr.mk.injEq, and_true, true_and] at h'
      obtain ⟨rfl, rfl⟩ := h'
      exact Or.inr ⟨g, cap, cur, rfl, e1, (setRow_other w1 G g c1 (by omega)).trans ((hgr.block g (by omega) (by simp)).trans e2), e3⟩
  have hmin : Nat.min (n - i) (n - i) = n - i := Nat.min_eq_left (Nat.le_refl _)
  obtain ⟨c2, hc2d⟩ : ∃ c2, c2 = (c1.toList.take (i + 1) ++ xs.drop i ++ c1.toList.drop ((i + 1) + (xs.drop i).length)).toArray := ⟨_, rfl⟩
  have hc2 := fun ty => run_copy_many (P := Tryz.prog) (w1.setRow G c1).drew 35 35 ty 9 1 G (i + 1) (n - i) (C - (i + 1)) ⟨g, i, none⟩ (n - i) (cap - i) c1 9 (xs.drop i) Tryz.underlying35 (by kernel_rfl) hG1 (by rw [hmin]; omega)
    (fun j u hu => by
      have hadd : (⟨g, i, none⟩ : Addr).add j = ⟨g, i + j, none⟩ := by unfold Addr.add; split <;> simp_all
      have := hown1.cellAt (i + j) (by have := (List.getElem?_eq_some_iff.1 hu).1; omega)
      rw [hadd]
      exact this.trans (by rw [List.getElem?_drop] at hu; exact hu)) (by rw [hdl, hs1]; omega) (fun u hu => hone u (List.mem_of_mem_drop hu))
  rw [← hc2d, hmin] at hc2
  have HEND : Hid (((w1.setRow G c1).drew.setRow G c2).ownsRow base 9 1 (.slice (some ⟨G, 0, none⟩) (n + 1) C) (n + 1) (xs.take i ++ new ++ xs.drop i) ∧ w.grownBy ((w1.setRow G c1).drew.setRow G c2) none) := Lib.hid (by
    have hall := grow_list C0.toList xs new c1.toList c2.toList i 1 n (by omega) (by omega) hC4 hl (by rw [Array.length_toList, hC3]; omega) (by rw [hc1d]) (by simp [hc2d, Nat.add_mul])
    refine ⟨⟨?_, Or.inr ⟨G, C, c2, rfl, hb, setRow_heap _ G c1 _ 9 _ hG1, hC1, hC2, ?_, ?_⟩⟩, ⟨hgr.os, hgr.tape, hgr.output, ?_, fun k hk _ => ?_⟩⟩
    · rw [← hall.1, List.length_take, hall.2, Array.length_toList, hC3]; omega
    · have := hall.2
      rw [Array.length_toList, Array.length_toList] at this
      omega
    · rw [show (n + 1) * 1 = n + 1 by omega]
      exact hall.1
    · rw [size_setRow]
      show w.heap.size ≤ (w1.setRow G c1).heap.size
      rw [size_setRow]
      exact hgr.size
    · rw [setRow_other _ G k _ (by omega)]
      exact (setRow_other w1 G k c1 (by omega)).trans (hgr.block k hk (by simp)))
  have i1 : (i : Int) ≤ n := by omega
  have i2 : (i : Int) ≤ cap := by omega
  have i3 : (i : Int) + 1 ≤ (n : Int) + 1 := by omega
  have i4 : (i : Int) + 1 ≤ C := by omega
  have i5 : (n : Int) + 1 ≤ C := by omega
  have i6 : ¬ cap = i := by omega
  have i7 : ¬ C = i + 1 := by omega
  have i7b : ¬ C = i := by omega
  have i8 : ((i : Int) == (n : Int)) = false := by simp; omega
  have i10 : (0 : Int) ≤ (i : Int) + 1 := by omega
  have i11 : (i : Int) ≤ (n : Int) + 1 := by omega
  have i12 : (cap : Int) < (n : Int) + 1 := by omega
  have i13 : (i : Int) ≤ C := by omega
  have i14 : (n : Int) ≤ cap := by omega
  have w1' : IntKind.i64.wrap ((n : Int) + 1) = (n : Int) + 1 := by rw [IntKind.wrap_i64]; omega
  have w2' : IntKind.i64.wrap ((i : Int) + 1) = (i : Int) + 1 := by rw [IntKind.wrap_i64]; omega
  have w3' : IntKind.i64.wrap ((n : Int) + 1 - (i : Int)) = (n : Int) + 1 - (i : Int) := by rw [IntKind.wrap_i64]; omega
  have HAP := Lib.hid happ
  clear happ
  clear hown hone hB hnone hG hG1 hB1 hC3 hs1 hc1d hc2d hdl hmin hmin2 hxl hl hown1 hC4 hgr hGd
  go_enter Tryz.func66, Tryz.ntmps66
  go_upto_region 11 with (at_builtin; refine wpList_append_run rfl _ _ 35 3 rfl _ _ _ rfl rfl HAP.out ?_)
  go_region
  clear hc1 hc2
  go_wp2
  go_ret
  refine ⟨C, rfl, ?_⟩
  exact HEND.out
theorem app_zeros_25 (w : World) (base g n cap i : Nat) (xs : List Value) (hn : n ≤ 100000) (hin : i < n) (hroom : cap < n + 1) (hown : w.ownsRow base 70 8 (.slice (some ⟨g, 0, none⟩) n cap) n xs) :
    ∃ (C : Nat) (C0 : Array Value) (w1 : World), (∀ ty, (Builtin.append_ #[67, 3] ty #[.slice (some ⟨g, 0, none⟩) i cap, .int .i64 ((n : Int) + 1 - (i : Int))]).run Tryz.prog w = .ok (.slice (some ⟨w.heap.size, 0, none⟩) (n + 1) C) w1) ∧
      w1.heap[w.heap.size]? = some (.cells C0 70 (0, 0)) ∧ n + 1 ≤ C ∧ C ≤ maxLen ∧ C0.size = C * 8 ∧ C0.toList.take (i * 8) = xs.take (i * 8) ∧ w.grownBy w1 none := by
  obtain ⟨i0, hi, hz0, hz1, hz2⟩ := info_parts Tryz.info70
  have hxl := hown.1
  obtain ⟨k, hk⟩ : ∃ k, k = n + 1 - i := ⟨_, rfl⟩
  have hkI : (n : Int) + 1 - (i : Int) = (k : Int) := by omega
  have hik : i + k = n + 1 := by omega
  have hold : (Builtin.firstCells i0.size i (.slice (some ⟨g, 0, none⟩) i cap)).run Tryz.prog w.drew = .ok (xs.take (i * 8)).toArray w.drew := by
    refine run_firstCells_some (P := Tryz.prog) w.drew i0.size i ⟨g, 0, none⟩ i cap (xs.take (i * 8)) (by rw [hz1, List.length_take]; omega) (fun j u hu => ?_)
    have hadd : (⟨g, 0, none⟩ : Addr).add j = ⟨g, j, none⟩ := by unfold Addr.add; split <;> simp_all
    rw [hadd]
    rw [List.getElem?_take] at hu
    split at hu
    · have := hown.cellAt j (by have := (List.getElem?_eq_some_iff.1 hu).1; omega)
      exact this.trans hu
    · cases hu
  have hfit : Builtin.nextslicecap (i + k) cap * i0.bytes ≤ 281474976710656 := growslice_fits (by omega) (by rw [hz2]; omega)
  have happ := fun ty => Lib.run_append_grow_zeros (P := Tryz.prog) w 67 3 ty 70 i0 (.agg #[.int .i64 0, .int .i64 0, .int .u64 0, .string ByteArray.empty, .slice none 0 0, .slice none 0 0, .pointer none, .int .i64 0]) .i64 .i64 Tryz.underlying67 Tryz.underlying3 hi hz0 (some ⟨g, 0, none⟩) i cap (xs.take (i * 8)) hold k (by omega) (by rw [hz1]; omega) (by omega) (by omega) (by rw [hz2]; omega) hfit
  rw [hik] at happ
  have hge := grownCap_ge w (n + 1) cap 70
  have hle := grownCap_le_maxLen w (n + 1) cap 70 (by unfold maxLen; omega)
  have htl : (xs.take (i * 8)).length = i * 8 := by rw [List.length_take]; omega
  refine ⟨_, _, _, fun ty => by rw [hkI]; exact happ ty, heap_alloc_new w.drew _, hge, hle, ?_, ?_, ⟨rfl, rfl, rfl, by simp, fun j hj _ => Below.heap_alloc w.drew _ j hj⟩⟩
  · simp only [Array.size_append, List.size_toArray, size_zeroCells, htl]
    show i * 8 + k * 8 + (grownCap w (n + 1) cap 70 - (n + 1)) * 8 = grownCap w (n + 1) cap 70 * 8
    omega
  · simp only [Array.toList_append, List.append_assoc]
    exact List.take_left' htl
set_option maxRecDepth 20000 in
set_option maxHeartbeats 2000000 in
theorem ins_grow_25 (w : World) (base g n cap i B c : Nat) (xs new : List Value) (hn : n ≤ 100000) (hin : i < n) (hroom : cap < n + 1) (hown : w.ownsRow base 70 8 (.slice (some ⟨g, 0, none⟩) n cap) n xs) (hone : ∀ u ∈ xs, u.oneCell' = true) (hl : new.length = 8) (hB : w.heap[B]? = some (.cells new.toArray 70 (0, 0))) (hnone : ∀ u ∈ new, u.oneCell' = true) (hb : base ≤ w.heap.size) :
    Calls Tryz.prog 67 #[.slice (some ⟨g, 0, none⟩) n cap, .int .i64 (i : Int), .slice (some ⟨B, 0, none⟩) 1 c] w fun e w' => ∃ C, e = .returned (.slice (some ⟨w.heap.size, 0, none⟩) (n + 1) C) ∧ w'.ownsRow base 70 8 (.slice (some ⟨w.heap.size, 0, none⟩) (n + 1) C) (n + 1) (xs.take (i * 8) ++ new ++ xs.drop (i * 8)) ∧ w.grownBy w' none := by
  obtain ⟨C, C0, w1, happ, hG, hC1, hC2, hC3, hC4, hgr⟩ := app_zeros_25 w base g n cap i xs hn hin hroom hown
  obtain ⟨hgl, hcapn⟩ : g < w.heap.size ∧ n ≤ cap := by
    rcases hown.2 with ⟨h', _⟩ | ⟨g', cap', cur, h', e1, e2, e3, e4, e5, e6⟩
    · simp at h'
    · simp only [Value.slice.injEq, Option.some.injEq, Addr.mk.injEq, and_true, true_and] at h'
      obtain ⟨rfl, rfl⟩ := h'
      exact ⟨(Array.getElem?_eq_some_iff.1 e2).1, e3⟩
  have hBl : B < w.heap.size := (Array.getElem?_eq_some_iff.1 hB).1
  have hxl := hown.1
  obtain ⟨G, hGd⟩ : ∃ G, G = w.heap.size := ⟨_, rfl⟩
  rw [← hGd] at happ hG hgl hBl hb ⊢
  have hdl : (xs.drop (i * 8)).length = (n - i) * 8 := by rw [List.length_drop, hxl]; omega
  have hB1 : w1.heap[B]? = some (.cells new.toArray 70 (0, 0)) := (hgr.block B (by omega) (by simp)).trans hB
  obtain ⟨c1, hc1d⟩ : ∃ c1, c1 = (C0.toList.take (i * 8) ++ new ++ C0.toList.drop (i * 8 + new.length)).toArray := ⟨_, rfl⟩
  have hmin2 : Nat.min 1 (n + 1 - i) = 1 := Nat.min_eq_left (by omega)
  have hc1 := fun ty => run_copy_many (P := Tryz.prog) w1 67 67 ty 70 8 G (i * 8) (n + 1 - i) (C - i) ⟨B, 0, none⟩ 1 c C0 70 new Tryz.underlying67 (by kernel_rfl) hG (by rw [hmin2]; omega) (news28 hB1) (by rw [hl, hC3]; omega) hnone
  rw [← hc1d, hmin2] at hc1
  have hG1 : (w1.setRow G c1).drew.heap[G]? = some (.cells c1 70 (0, 0)) := setRow_heap w1 G C0 _ 70 _ hG
  have hs1 : c1.size = C * 8 := by rw [hc1d]; simp only [List.size_toArray, List.length_append, List.length_take, List.length_drop, hl, Array.length_toList, hC3]; omega
  have hown1 : (w1.setRow G c1).drew.ownsRow base 70 8 (.slice (some ⟨g, 0, none⟩) n cap) n xs := by
    refine ⟨hown.1, ?_⟩
    rcases hown.2 with h' | ⟨g', cap', cur, h', e1, e2, e3⟩
    · exact Or.inl h'
    · simp only [Value.slice.injEq, Option.some.injEq, Addr.mk.injEq, and_true, true_and] at h'
      obtain ⟨rfl, rfl⟩ := h'
      exact Or.inr ⟨g, cap, cur, rfl, e1, (setRow_other w1 G g c1 (by omega)).trans ((hgr.block g (by omega) (by simp)).trans e2), e3⟩
  have hmin : Nat.min (n - i) (n - i) = n - i := Nat.min_eq_left (Nat.le_refl _)
  obtain ⟨c2, hc2d⟩ : ∃ c2, c2 = (c1.toList.take ((i + 1) * 8) ++ xs.drop (i * 8) ++ c1.toList.drop ((i + 1) * 8 + (xs.drop (i * 8)).length)).toArray := ⟨_, rfl⟩
  have hc2 := fun ty => run_copy_many (P := Tryz.prog) (w1.setRow G c1).drew 67 67 ty 70 8 G ((i + 1) * 8) (n - i) (C - (i + 1)) ⟨g, i * 8, none⟩ (n - i) (cap - i) c1 70 (xs.drop (i * 8)) Tryz.underlying67 (by kernel_rfl) hG1 (by rw [hmin]; omega)
    (fun j u hu => by
      have hadd : (⟨g, i * 8, none⟩ : Addr).add j = ⟨g, i * 8 + j, none⟩ := by unfold Addr.add; split <;> simp_all
      have := hown1.cellAt (i * 8 + j) (by have := (List.getElem?_eq_some_iff.1 hu).1; omega)
      rw [hadd]
      exact this.trans (by rw [List.getElem?_drop] at hu; exact hu)) (by rw [hdl, hs1]; omega) (fun u hu => hone u (List.mem_of_mem_drop hu))
  rw [← hc2d, hmin] at hc2
  have HEND : Hid (((w1.setRow G c1).drew.setRow G c2).ownsRow base 70 8 (.slice (some ⟨G, 0, none⟩) (n + 1) C) (n + 1) (xs.take (i * 8) ++ new ++ xs.drop (i * 8)) ∧ w.grownBy ((w1.setRow G c1).drew.setRow G c2) none) := Lib.hid (by
    have hall := grow_list C0.toList xs new c1.toList c2.toList (i * 8) 8 (n * 8) (by omega) (by omega) hC4 hl (by rw [Array.length_toList, hC3]; omega) (by rw [hc1d]) (by simp [hc2d, Nat.add_mul])
    refine ⟨⟨?_, Or.inr ⟨G, C, c2, rfl, hb, setRow_heap _ G c1 _ 70 _ hG1, hC1, hC2, ?_, ?_⟩⟩, ⟨hgr.os, hgr.tape, hgr.output, ?_, fun k hk _ => ?_⟩⟩
    · rw [← hall.1, List.length_take, hall.2, Array.length_toList, hC3]; omega
    · have := hall.2
      rw [Array.length_toList, Array.length_toList] at this
      omega
    · rw [show (n + 1) * 8 = (n * 8) + 8 by omega]
      exact hall.1
    · rw [size_setRow]
      show w.heap.size ≤ (w1.setRow G c1).heap.size
      rw [size_setRow]
      exact hgr.size
    · rw [setRow_other _ G k _ (by omega)]
      exact (setRow_other w1 G k c1 (by omega)).trans (hgr.block k hk (by simp)))
  have i1 : (i : Int) ≤ n := by omega
  have i2 : (i : Int) ≤ cap := by omega
  have i3 : (i : Int) + 1 ≤ (n : Int) + 1 := by omega
  have i4 : (i : Int) + 1 ≤ C := by omega
  have i5 : (n : Int) + 1 ≤ C := by omega
  have i6 : ¬ cap = i := by omega
  have i7 : ¬ C = i + 1 := by omega
  have i7b : ¬ C = i := by omega
  have i8 : ((i : Int) == (n : Int)) = false := by simp; omega
  have i10 : (0 : Int) ≤ (i : Int) + 1 := by omega
  have i11 : (i : Int) ≤ (n : Int) + 1 := by omega
  have i12 : (cap : Int) < (n : Int) + 1 := by omega
  have i13 : (i : Int) ≤ C := by omega
  have i14 : (n : Int) ≤ cap := by omega
  have w1' : IntKind.i64.wrap ((n : Int) + 1) = (n : Int) + 1 := by rw [IntKind.wrap_i64]; omega
  have w2' : IntKind.i64.wrap ((i : Int) + 1) = (i : Int) + 1 := by rw [IntKind.wrap_i64]; omega
  have w3' : IntKind.i64.wrap ((n : Int) + 1 - (i : Int)) = (n : Int) + 1 - (i : Int) := by rw [IntKind.wrap_i64]; omega
  have HAP := Lib.hid happ
  clear happ
  clear hown hone hB hnone hG hG1 hB1 hC3 hs1 hc1d hc2d hdl hmin hmin2 hxl hl hown1 hC4 hgr hGd
  go_enter Tryz.func67, Tryz.ntmps67
  go_upto_region 11 with (at_builtin; refine wpList_append_run rfl _ _ 67 3 rfl _ _ _ rfl rfl HAP.out ?_)
  go_region
  clear hc1 hc2
  go_wp2
  go_ret
  refine ⟨C, rfl, ?_⟩
  exact HEND.out
end Go.Proofs.YtoakfninndkgaaaGreatDoor.Val
set_option linter.unusedVariables false
namespace Go.Proofs.YtoakfninndkgaaaGreatDoor.Val
open Go.RowKit
theorem grown_none {w w' : World} (h : w.grownBy w' none) (row : Option Nat) : w.grownBy w' row := ⟨h.os, h.tape, h.output, h.size, fun k hk _ => h.block k hk (by simp)⟩
theorem ins_any_24 (w : World) (base n i B c : Nat) (v : Value) (xs new : List Value) (hn : n ≤ 99999) (hin : i ≤ n) (hown : w.ownsRow base 9 1 v n xs) (hone : ∀ u ∈ xs, u.oneCell' = true) (hl : new.length = 1) (hB : w.heap[B]? = some (.cells new.toArray 9 (0, 0))) (hnone : ∀ u ∈ new, u.oneCell' = true) (hBg : v.ownBlock ≠ some B) (hb : base ≤ w.heap.size) :
    Calls Tryz.prog 66 #[v, .int .i64 (i : Int), .slice (some ⟨B, 0, none⟩) 1 c] w fun e w' => ∃ g cap, e = .returned (.slice (some ⟨g, 0, none⟩) (n + 1) cap) ∧ w'.ownsRow base 9 1 (.slice (some ⟨g, 0, none⟩) (n + 1) cap) (n + 1) (xs.take (i * 1) ++ new ++ xs.drop (i * 1)) ∧ w.grownBy w' v.ownBlock ∧ (v.ownBlock = some g ∨ g = w.heap.size) := by
  have hxl := hown.1
  rcases hown.2 with ⟨rfl, rfl⟩ | ⟨g, cap, cur, rfl, e1, e2, e3, e4, e5, e6⟩
  · obtain rfl : i = 0 := by omega
    obtain rfl : xs = [] := List.length_eq_zero_iff.1 (by omega)
    refine (ins_end_nil_24 w base B c new hl hB hnone hb).mono ?_
    rintro e w' ⟨g, cap, rfl, h2, h3, h4⟩
    exact ⟨g, cap, rfl, by simpa using h2, h3, Or.inr h4⟩
  · by_cases hi : i = n
    · subst hi
      have ht : xs.take (i * 1) = xs := List.take_of_length_le (by omega)
      have hd : xs.drop (i * 1) = [] := List.drop_eq_nil_of_le (by omega)
      refine (ins_end_24 w base g i cap B c xs new (by omega) hown hl hB hnone hb).mono ?_
      rintro e w' ⟨g', cap', rfl, h2, h3, h4⟩
      refine ⟨g', cap', rfl, by rw [ht, hd, List.append_nil]; exact h2, h3, ?_⟩
      rcases h4 with h4 | h4
      · exact Or.inl (by rw [h4]; rfl)
      · exact Or.inr h4
    · by_cases hr : n + 1 ≤ cap
      · refine (ins_room_24 w base g n cap i B c xs new (by omega) (by omega) hr hown hone hl hB hnone (fun e => hBg (by rw [e]; rfl))).mono ?_
        rintro e w' ⟨rfl, h2, h3⟩
        exact ⟨g, cap, rfl, by simpa using h2, h3, Or.inl rfl⟩
      · refine (ins_grow_24 w base g n cap i B c xs new (by omega) (by omega) (by omega) hown hone hl hB hnone hb).mono ?_
        rintro e w' ⟨C, rfl, h2, h3⟩
        exact ⟨_, C, rfl, by simpa using h2, grown_none h3 _, Or.inr rfl⟩
theorem ins_any_25 (w : World) (base n i B c : Nat) (v : Value) (xs new : List Value) (hn : n ≤ 99999) (hin : i ≤ n) (hown : w.ownsRow base 70 8 v n xs) (hone : ∀ u ∈ xs, u.oneCell' = true) (hl : new.length = 8) (hB : w.heap[B]? = some (.cells new.toArray 70 (0, 0))) (hnone : ∀ u ∈ new, u.oneCell' = true) (hBg : v.ownBlock ≠ some B) (hb : base ≤ w.heap.size) :
    Calls Tryz.prog 67 #[v, .int .i64 (i : Int), .slice (some ⟨B, 0, none⟩) 1 c] w fun e w' => ∃ g cap, e = .returned (.slice (some ⟨g, 0, none⟩) (n + 1) cap) ∧ w'.ownsRow base 70 8 (.slice (some ⟨g, 0, none⟩) (n + 1) cap) (n + 1) (xs.take (i * 8) ++ new ++ xs.drop (i * 8)) ∧ w.grownBy w' v.ownBlock ∧ (v.ownBlock = some g ∨ g = w.heap.size) := by
  have hxl := hown.1
  rcases hown.2 with ⟨rfl, rfl⟩ | ⟨g, cap, cur, rfl, e1, e2, e3, e4, e5, e6⟩
  · obtain rfl : i = 0 := by omega
    obtain rfl : xs = [] := List.length_eq_zero_iff.1 (by omega)
    refine (ins_end_nil_25 w base B c new hl hB hnone hb).mono ?_
    rintro e w' ⟨g, cap, rfl, h2, h3, h4⟩
    exact ⟨g, cap, rfl, by simpa using h2, h3, Or.inr h4⟩
  · by_cases hi : i = n
    · subst hi
      have ht : xs.take (i * 8) = xs := List.take_of_length_le (by omega)
      have hd : xs.drop (i * 8) = [] := List.drop_eq_nil_of_le (by omega)
      refine (ins_end_25 w base g i cap B c xs new (by omega) hown hl hB hnone hb).mono ?_
      rintro e w' ⟨g', cap', rfl, h2, h3, h4⟩
      refine ⟨g', cap', rfl, by rw [ht, hd, List.append_nil]; exact h2, h3, ?_⟩
      rcases h4 with h4 | h4
      · exact Or.inl (by rw [h4]; rfl)
      · exact Or.inr h4
    · by_cases hr : n + 1 ≤ cap
      · refine (ins_room_25 w base g n cap i B c xs new (by omega) (by omega) hr hown hone hl hB hnone (fun e => hBg (by rw [e]; rfl))).mono ?_
        rintro e w' ⟨rfl, h2, h3⟩
        exact ⟨g, cap, rfl, by simpa using h2, h3, Or.inl rfl⟩
      · refine (ins_grow_25 w base g n cap i B c xs new (by omega) (by omega) (by omega) hown hone hl hB hnone hb).mono ?_
        rintro e w' ⟨C, rfl, h2, h3⟩
        exact ⟨_, C, rfl, by simpa using h2, grown_none h3 _, Or.inr rfl⟩
end Go.Proofs.YtoakfninndkgaaaGreatDoor.Val
set_option linter.unusedVariables false
namespace Go.Proofs.YtoakfninndkgaaaGreatDoor.Val
open Go.RowKit
theorem row_at {cur : Array Value} {m k : Nat} {xs : List Value} {u : Value} (h : cur.toList.take m = xs) (hk : xs[k]? = some u) : cur[k]? = some u := by
  subst h
  rw [List.getElem?_take] at hk
  split at hk
  · simpa using hk
  · cases hk
theorem bs_own (w : World) (base n p : Nat) (S : List ByteArray) (x : ByteArray) (v : Value) (hS : S.length = n) (hn : n ≤ 100000) (h : w.ownsRow base 9 1 v n (S.map Value.string)) (hp : p ≤ n) (hpart : Hid (∀ k s, S[k]? = some s → Op.bytesLess s.toList x.toList = decide (k < p))) :
    Calls Tryz.prog 65 #[v, .string x] w fun e w' => e = .returned (.tuple #[.int .i64 (p : Int), .bool (isAt S p x)]) ∧ w = w' := by
  rcases h.2 with ⟨rfl, h0⟩ | ⟨g, cap, cur, rfl, e2, e3, e4, e5, e6, e7⟩
  · subst h0
    have hS0 : S = [] := List.length_eq_zero_iff.1 hS
    subst hS0
    obtain rfl : p = 0 := by omega
    exact bs_nil w x
  · refine bs_any w g 0 n cap p S x hS hn (Lib.hid fun k s hk => ?_) hp hpart
    rw [Nat.zero_add, cell_of_row w g k _ 9 _ e3]
    exact row_at e7 (by rw [List.getElem?_map, hk]; rfl)
theorem own_apart {w : World} {base Y : Nat} {e t : TypeId} {size n : Nat} {v : Value} {xs : List Value} {c : Array Value} (h : w.ownsRow base e size v n xs) (hY : w.heap[Y]? = some (.cells c t (0, 0))) (het : e ≠ t) : v.ownBlock ≠ some Y := by
  intro hv
  rcases h.2 with h' | ⟨g, cap, cur, e1, e2, e3, e4⟩
  · rw [h'.1] at hv; cases hv
  · rw [e1] at hv
    cases hv
    rw [e3] at hY
    cases hY
    exact het rfl
theorem own_none_or {v u : Value} (h : ∀ g, v.ownBlock = some g → u.ownBlock ≠ some g) : v.ownBlock = none ∨ v.ownBlock ≠ u.ownBlock := by
  cases hv : v.ownBlock with
  | none => exact Or.inl rfl
  | some g => exact Or.inr (fun e => h g hv e.symm)
theorem own_in {w : World} {base : Nat} {e : TypeId} {size n : Nat} {v : Value} {xs : List Value} (h : w.ownsRow base e size v n xs) {g : Nat} (hv : v.ownBlock = some g) : ∃ c, w.heap[g]? = some (.cells c e (0, 0)) := by
  rcases h.2 with h' | ⟨g', cap, cur, e1, e2, e3, e4⟩
  · rw [h'.1] at hv; cases hv
  · rw [e1] at hv; cases hv; exact ⟨cur, e3⟩
theorem own_two {w : World} {base b2 : Nat} {e t : TypeId} {size n s2 n2 : Nat} {v u : Value} {xs ys : List Value} (h : w.ownsRow base e size v n xs) (h2 : w.ownsRow b2 t s2 u n2 ys) (het : e ≠ t) : v.ownBlock = none ∨ v.ownBlock ≠ u.ownBlock :=
  own_none_or fun g hg hu => by
    obtain ⟨c, hc⟩ := own_in h2 hu
    exact own_apart h hc het hg
/-- a world of insert's: the box as it was, the kid, the two rows, what is left alone. -/
structure InsAt (w0 : World) (base Bk X : Nat) (vn0 vk0 : Value) (k : Array Value) (vn : Value) (n : Nat) (xn : List Value) (vk : Value) (m : Nat) (xk : List Value) (w : World) : Prop where
  box : w.heap[Bk]? = some (.cells #[vn0, vk0] 120 (0, 0))
  kid : w.heap[X]? = some (.cells k 70 (0, 0))
  names : w.ownsRow base 9 1 vn n xn
  kids : w.ownsRow base 70 8 vk m xk
  os : w.os = w0.os
  tape : w.tape = w0.tape
  output : w.output = w0.output
  size : w0.heap.size ≤ w.heap.size
  block : ∀ j, j < w0.heap.size → j ≠ Bk → vn0.ownBlock ≠ some j → vk0.ownBlock ≠ some j → w.heap[j]? = w0.heap[j]?
  nown : ∀ g, vn.ownBlock = some g → vn0.ownBlock = some g ∨ w0.heap.size ≤ g
  kown : ∀ g, vk.ownBlock = some g → vk0.ownBlock = some g ∨ w0.heap.size ≤ g
  xkid : w0.heap.size ≤ X
variable {w0 w w' : World} {base Bk X n m : Nat} {vn0 vk0 vn vk : Value} {k : Array Value} {xn xk : List Value}
theorem InsAt.alloc (h : InsAt w0 base Bk X vn0 vk0 k vn n xn vk m xk w) (o : Obj) : InsAt w0 base Bk X vn0 vk0 k vn n xn vk m xk (w.alloc o) where
  box := by rw [Below.heap_alloc w o Bk (Array.getElem?_eq_some_iff.1 h.box).1]; exact h.box
  kid := by rw [Below.heap_alloc w o X (Array.getElem?_eq_some_iff.1 h.kid).1]; exact h.kid
  names := h.names.kept (World.grownBy_alloc w _ none) (by cases h : vn.ownBlock <;> simp)
  kids := h.kids.kept (World.grownBy_alloc w _ none) (by cases h : vk.ownBlock <;> simp)
  os := h.os
  tape := h.tape
  output := h.output
  size := by have := h.size; simp; omega
  block := fun j hj h1 h2 h3 => by rw [Below.heap_alloc w o j (by have := h.size; omega)]; exact h.block j hj h1 h2 h3
  nown := h.nown
  kown := h.kown
  xkid := h.xkid
theorem InsAt.drew (h : InsAt w0 base Bk X vn0 vk0 k vn n xn vk m xk w) : InsAt w0 base Bk X vn0 vk0 k vn n xn vk m xk w.drew :=
  ⟨h.box, h.kid, h.names, h.kids, h.os, h.tape, h.output, h.size, h.block, h.nown, h.kown, h.xkid⟩
theorem InsAt.ins24 (h : InsAt w0 base Bk X vn0 vk0 k vn n xn vk m xk w) (hg : w.grownBy w' vn.ownBlock) {g cap n2 : Nat} {x2 : List Value} (hr : w'.ownsRow base 9 1 (.slice (some ⟨g, 0, none⟩) n2 cap) n2 x2) (ho : vn.ownBlock = some g ∨ g = w.heap.size) : InsAt w0 base Bk X vn0 vk0 k (.slice (some ⟨g, 0, none⟩) n2 cap) n2 x2 vk m xk w' where
  box := (hg.block Bk (Array.getElem?_eq_some_iff.1 h.box).1 (fun e => own_apart h.names h.box (by decide) e.symm)).trans h.box
  kid := (hg.block X (Array.getElem?_eq_some_iff.1 h.kid).1 (fun e => own_apart h.names h.kid (by decide) e.symm)).trans h.kid
  names := hr
  kids := h.kids.kept hg (own_two h.kids h.names (by decide))
  os := hg.os.trans h.os
  tape := hg.tape.trans h.tape
  output := hg.output.trans h.output
  size := Nat.le_trans h.size hg.size
  block := fun j hj h1 h2 h3 => by
    rw [hg.block j (by have := h.size; omega) (fun e => ?_)]
    · exact h.block j hj h1 h2 h3
    · rcases h.nown j e.symm with h4 | h4
      · exact h2 h4
      · omega
  nown := fun g' hg' => by
    cases hg'
    rcases ho with h4 | h4
    · exact h.nown _ h4
    · exact Or.inr (by rw [h4]; exact h.size)
  kown := h.kown
  xkid := h.xkid
/-- behind the second call: without the kid. -/
theorem InsAt.ins25 (h : InsAt w0 base Bk X vn0 vk0 k vn n xn vk m xk w) (hg : w.grownBy w' vk.ownBlock) {g cap n2 : Nat} {x2 : List Value} (hr : w'.ownsRow base 70 8 (.slice (some ⟨g, 0, none⟩) n2 cap) n2 x2) (ho : vk.ownBlock = some g ∨ g = w.heap.size) (hXk : vk0.ownBlock ≠ some X) (hkk : vk.ownBlock = vk0.ownBlock) : InsAt w0 base Bk X vn0 vk0 k vn n xn (.slice (some ⟨g, 0, none⟩) n2 cap) n2 x2 w' where
  box := (hg.block Bk (Array.getElem?_eq_some_iff.1 h.box).1 (fun e => own_apart h.kids h.box (by decide) e.symm)).trans h.box
  kid := (hg.block X (Array.getElem?_eq_some_iff.1 h.kid).1 (fun e => hXk (by rw [← hkk]; exact e.symm))).trans h.kid
  names := h.names.kept hg (own_two h.names h.kids (by decide))
  kids := hr
  os := hg.os.trans h.os
  tape := hg.tape.trans h.tape
  output := hg.output.trans h.output
  size := Nat.le_trans h.size hg.size
  block := fun j hj h1 h2 h3 => by
    rw [hg.block j (by have := h.size; omega) (fun e => ?_)]
    · exact h.block j hj h1 h2 h3
    · rcases h.kown j e.symm with h4 | h4
      · exact h3 h4
      · omega
  nown := h.nown
  kown := fun g' hg' => by
    cases hg'
    rcases ho with h4 | h4
    · exact h.kown _ h4
    · exact Or.inr (by rw [h4]; exact h.size)
  xkid := h.xkid
/-- the end: what insert leaves. -/
structure InsEnd (w0 : World) (base Bk : Nat) (vn0 vk0 : Value) (n : Nat) (xn xk : List Value) (w : World) : Prop where
  rows : ∃ g1 c1 g2 c2, w.heap[Bk]? = some (.cells #[.slice (some ⟨g1, 0, none⟩) n c1, .slice (some ⟨g2, 0, none⟩) n c2] 120 (0, 0)) ∧ w.ownsRow base 9 1 (.slice (some ⟨g1, 0, none⟩) n c1) n xn ∧ w.ownsRow base 70 8 (.slice (some ⟨g2, 0, none⟩) n c2) n xk
  os : w.os = w0.os
  tape : w.tape = w0.tape
  output : w.output = w0.output
  size : w0.heap.size ≤ w.heap.size
  block : ∀ j, j < w0.heap.size → j ≠ Bk → vn0.ownBlock ≠ some j → vk0.ownBlock ≠ some j → w.heap[j]? = w0.heap[j]?
theorem grown_set (w : World) (B i : Nat) (v : Value) : w.grownBy (w.setCell ⟨B, i, none⟩ v) (some B) := ⟨rfl, rfl, rfl, by simp, fun j hj hne => Below.heap_setCell _ _ _ _ (fun e => hne (by rw [e]))⟩
theorem InsAt.done {g1 c1 g2 c2 : Nat} (h : InsAt w0 base Bk X vn0 vk0 k (.slice (some ⟨g1, 0, none⟩) n c1) n xn (.slice (some ⟨g2, 0, none⟩) n c2) n xk w) :
    InsEnd w0 base Bk vn0 vk0 n xn xk ((w.setCell ⟨Bk, 0, none⟩ (.slice (some ⟨g1, 0, none⟩) n c1)).setCell ⟨Bk, 1, none⟩ (.slice (some ⟨g2, 0, none⟩) n c2)) where
  rows := by
    refine ⟨g1, c1, g2, c2, ?_, ?_, ?_⟩
    · rw [heap_setCell_same _ Bk 1 _ 120 _ (heap_setCell_same w Bk 0 _ 120 _ h.box)]
      rfl
    · have ha := own_apart h.names h.box (by decide)
      exact (h.names.kept (grown_set w Bk 0 _) (Or.inr ha)).kept (grown_set _ Bk 1 _) (Or.inr ha)
    · have ha := own_apart h.kids h.box (by decide)
      exact (h.kids.kept (grown_set w Bk 0 _) (Or.inr ha)).kept (grown_set _ Bk 1 _) (Or.inr ha)
  os := h.os
  tape := h.tape
  output := h.output
  size := by have := h.size; simp; omega
  block := fun j hj h1 h2 h3 => by
    rw [Below.heap_setCell _ _ _ _ (show j ≠ Bk from h1), Below.heap_setCell _ _ _ _ (show j ≠ Bk from h1)]
    exact h.block j hj h1 h2 h3
end Go.Proofs.YtoakfninndkgaaaGreatDoor.Val
