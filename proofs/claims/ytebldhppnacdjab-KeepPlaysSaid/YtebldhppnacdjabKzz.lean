/- The acts of the laws, read out of the argument. -/
import Derived.Test.YtebldhppnacdjabKz
import Derived.Deep.Slices
import Derived.Deep.Fields
import Derived.ChangeSame
set_option linter.unusedVariables false
namespace Go.Proofs.Ytebldhppnacdjab
open Go.ChangeShapes Go.WideShapes Go.ChangeAt Go.RowKit Go.Deep
section
variable {H : Type} {enc : TypeId × Value → H} {P : Program} {w : World} {base : Nat} {spare : Nat → Bool} {held : Bool}
theorem open_slice_fields {t e : TypeId} {fs : Array Field} {fuel : Nat} {cs : List Value} {x : DataW H × List MemPlace} (ht : P.underlying t = some (.slice e)) (he : P.underlying e = some (.struct fs))
    (hone : oneCellFields P fs = true) (hC : P.cellsOf e = fs.size) (h : DataW.trod enc P w base spare held fuel t cs = some x) :
    (cs = [.slice none 0 0] ∧ x = (.nil, [])) ∨
    ∃ (a : Addr) (len cap m : Nat) (D : Nat → DataW H) (Pl : Nat → List MemPlace), cs = [.slice (some a) len cap] ∧ base ≤ a.block ∧ len ≤ cap ∧ cap ≤ maxLen ∧ m = (if spare a.block then cap else len) ∧
      x = (.slice ((List.range len).map D) ((List.range (m - len)).map fun j => D (len + j)), MemPlace.row a (m * fs.size) ++ (List.range m).flatMap Pl) ∧
      ∀ i, i < m → ∃ (ys : List (DataW H × List MemPlace)) (n : Nat), D i = .agg (ys.map (·.1)) ∧ Pl i = ys.flatMap (·.2) ∧ ys.length = fs.size ∧
        ∀ (j : Nat) (f : Field), fs[j]? = some f → ∃ (v : Value) (y : DataW H × List MemPlace), w.cell? (a.add (i * fs.size + j)) = some v ∧ ys[j]? = some y ∧ DataW.trod enc P w base spare held n f.type [v] = some y := by
  rcases open_slice ht h with h0 | ⟨a, len, cap, m, n, D, Pl, hcs, hb, hl, hm, hmm, hx, hi⟩
  · exact .inl h0
  · refine .inr ⟨a, len, cap, m, D, Pl, hcs, hb, hl, hm, hmm, by rw [hC] at hx; exact hx, fun i him => ?_⟩
    obtain ⟨cs', hc, ht'⟩ := hi i him
    rw [hC] at hc
    obtain ⟨ys, n', hn', hy, hlen, hyl, hf⟩ := DataW.trod_struct he ht'
    obtain ⟨_, hcl, hat⟩ := World.cells?_some hc
    simp only [Prod.mk.injEq] at hy
    refine ⟨ys, n', hy.1, hy.2, hyl, fun j f hj => ?_⟩
    obtain ⟨ho, hk⟩ := hone_of hone j f hj
    have hjl : j < fs.size := (Array.getElem?_eq_some_iff.1 hj).1
    have hcell := hat j hjl
    have hv : cs'[j]? = some (cs'[j]'(by omega)) := List.getElem?_eq_getElem (by omega)
    have h1 := hf j f hj
    rw [ho, hk] at h1
    have hone' : (cs'.drop j).take 1 = [cs'[j]'(by omega)] := by
      rw [List.drop_eq_getElem_cons (by omega)]
      rfl
    rw [hone'] at h1
    have hys : ys[j]? = some (ys[j]'(by omega)) := List.getElem?_eq_getElem (by omega)
    refine ⟨_, _, ?_, hys, h1.trans hys⟩
    rw [← Go.Deep.add_add, hcell, hv]
end
theorem Try.cells31 : Try.prog.cellsOf 31 = 3 := by kernel_rfl
theorem Try.cells5' : Try.prog.cellsOf 5 = 1 := by kernel_rfl
theorem bounds_u8' {x : Int} (h : (Lit.int .u8 x).wf = true) : 0 ≤ x ∧ x < 256 := by
  simp [Lit.wf, IntKind.min, IntKind.max, IntKind.bits, IntKind.signed] at h
  omega
section
variable {H : Type} {enc : TypeId × Value → H} {W : World}
theorem key_of {n : Nat} {v : Value} {y : DataW H × List MemPlace} (h : DataW.trod enc Try.prog W 0 (fun _ => true) true n 29 [v] = some y) :
    ∃ (a : Option Addr) (l c : Nat) (kb : List Int), v = .slice a l c ∧ (l ≤ 50 → Row W (.slice a l c) kb ∧ Byt kb ∧ kb.length ≤ 50) := by
  rcases open_ints Try.underlying29 Try.underlying5 Try.cells5' h with ⟨hcs, hx⟩ | ⟨a, len, cap, zs, hcs, _, hl, hm, hz, hx, hcell, hwz⟩
  · simp at hcs
    exact ⟨none, 0, 0, [], hcs, fun _ => ⟨Or.inr (Or.inl ⟨rfl, rfl⟩), fun x hx => by simp at hx, by simp⟩⟩
  · simp at hcs
    simp only [if_true] at hz
    by_cases h0 : len = 0
    · subst h0
      exact ⟨some a, 0, cap, [], hcs, fun _ => ⟨Or.inr (Or.inr ⟨a, cap, rfl, rfl⟩), fun x hx => by simp at hx, by simp⟩⟩
    · refine ⟨some a, len, cap, zs.take len, hcs, fun h50 => ?_⟩
      have hzl : (zs.take len).length = len := by rw [List.length_take]; omega
      have hc0 := hcell 0 (by omega)
      have hsp := World.cell?_spot hc0
      have hlt : a.block < W.heap.size := by
        rcases Nat.lt_or_ge a.block W.heap.size with h' | h'
        · exact h'
        · have : (a.add 0).block = a.block := by unfold Addr.add; split <;> rfl
          simp [World.cell?, this, Array.getElem?_eq_none h'] at hc0
      obtain ⟨b, off, spot⟩ := a
      have hs0 : spot = none := by simpa [Addr.add] using hsp
      subst hs0
      refine ⟨Or.inl ⟨b, off, cap, by rw [hzl], by omega, by omega, hlt, fun j hj => ?_⟩, fun x hx => bounds_u8' (hwz x (List.mem_of_mem_take hx)), by omega⟩
      have h1 := hcell j (by omega)
      have hadd : (⟨b, off, none⟩ : Addr).add j = ⟨b, off + j, none⟩ := by unfold Addr.add; split <;> simp_all
      rw [hadd] at h1
      rw [h1]
      simp [List.getD, List.getElem?_take, show j < len by omega]
theorem acts_of {fuel : Nat} {a : Option Addr} {n c : Nat} {x : DataW H × List MemPlace} (h : DataW.trod enc Try.prog W 0 (fun _ => true) true fuel 22 [.slice a n c] = some x) :
    n = 0 ∨ ∃ (b off : Nat) (A : List ActI), a = some ⟨b, off, none⟩ ∧ b < W.heap.size ∧ A.length = n ∧ ∀ i t, A[i]? = some t → ActIn W b off i t := by
  rcases open_slice_fields Try.underlying22 Try.underlying31 (by kernel_rfl) (by kernel_rfl) h with ⟨hcs, _⟩ | ⟨ad, len, cap, m, D, Pl, hcs, _, hl, hm, hmm, _, hf⟩
  · simp at hcs
    exact Or.inl hcs.2.1
  · simp at hcs
    obtain ⟨rfl, rfl, rfl⟩ := hcs
    simp only [if_true] at hmm
    by_cases h0 : n = 0
    · exact Or.inl h0
    · right
      have hex : ∀ i, ∃ t : ActI, i < n → (W.cell? (ad.add (i * 3 + 0)) = some (.int .i64 t.kind) ∧ W.cell? (ad.add (i * 3 + 1)) = some (.int .i64 t.n) ∧ W.cell? (ad.add (i * 3 + 2)) = some (.slice t.ka t.kl t.kc) ∧ (t.kl ≤ 50 → Row W (.slice t.ka t.kl t.kc) t.kb ∧ Byt t.kb ∧ t.kb.length ≤ 50)) := fun i => by
        by_cases hi : i < n
        · obtain ⟨ys, n', _, _, _, hy⟩ := hf i (by omega)
          obtain ⟨v0, y0, c0, _, t0⟩ := hy 0 _ rfl
          obtain ⟨v1, y1, c1, _, t1⟩ := hy 1 _ rfl
          obtain ⟨v2, y2, c2, _, t2⟩ := hy 2 _ rfl
          obtain ⟨z0, e0, _⟩ := DataW.trod_int Try.underlying3 t0
          obtain ⟨z1, e1, _⟩ := DataW.trod_int Try.underlying3 t1
          obtain ⟨ka, kl, kc, kb, e2, hk⟩ := key_of t2
          simp at e0 e1
          subst e0 e1 e2
          exact ⟨⟨z0, z1, ka, kl, kc, kb⟩, fun _ => ⟨c0, c1, c2, hk⟩⟩
        · exact ⟨⟨0, 0, none, 0, 0, []⟩, fun hc => absurd hc hi⟩
      obtain ⟨f, hff⟩ := Classical.axiomOfChoice hex
      have hc0 := (hff 0 (by omega)).1
      have hlt : ad.block < W.heap.size := by
        rcases Nat.lt_or_ge ad.block W.heap.size with h' | h'
        · exact h'
        · have : (ad.add (0 * 3 + 0)).block = ad.block := by unfold Addr.add; split <;> rfl
          simp [World.cell?, this, Array.getElem?_eq_none h'] at hc0
      have hsp := World.cell?_spot hc0
      obtain ⟨b, off, spot⟩ := ad
      have hs0 : spot = none := by simpa [Addr.add] using hsp
      subst hs0
      have hadd : ∀ j, (⟨b, off, none⟩ : Addr).add j = ⟨b, off + j, none⟩ := fun j => by unfold Addr.add; split <;> simp_all
      refine ⟨b, off, (List.range n).map f, rfl, hlt, by simp, fun i t ht => ?_⟩
      rw [List.getElem?_map] at ht
      have hi : i < n := by
        rcases Nat.lt_or_ge i n with h | h
        · exact h
        · rw [List.getElem?_eq_none (by simpa using h)] at ht; simp at ht
      rw [List.getElem?_range hi] at ht
      simp at ht
      subst ht
      have h1 := hff i hi
      rw [hadd, hadd, hadd] at h1
      exact h1
end
end Go.Proofs.Ytebldhppnacdjab
