/- Walks: Field. -/
import Derived.Test.YtoakfninndkgaaaGreatDoorXSa
set_option linter.unusedVariables false
namespace Go.Proofs.YtoakfninndkgaaaGreatDoor.Val
open Go.RowKit
/-- a record that shows the list E. -/
structure RecOf (w : World) (base : Nat) (aN : Option Addr) (cN : Nat) (aK : Option Addr) (cK : Nat) (E : List Ent) : Prop where
  nm : w.ownsRow base 9 1 (.slice aN E.length cN) E.length ((names E).map Value.string)
  kd : w.ownsRow base 70 8 (.slice aK E.length cK) E.length (cells E)
  rises : Rises E
theorem RecOf.on {w w' : World} {base : Nat} {aN aK : Option Addr} {cN cK : Nat} {E : List Ent} (h : RecOf w base aN cN aK cK E) (hb : ∀ k, k < w.heap.size → w'.heap[k]? = w.heap[k]?) : RecOf w' base aN cN aK cK E := by
  refine ⟨⟨h.nm.1, ?_⟩, ⟨h.kd.1, ?_⟩, h.rises⟩
  · rcases h.nm.2 with h' | ⟨g, cap, cur, e1, e2, e3, e4⟩
    · exact Or.inl h'
    · exact Or.inr ⟨g, cap, cur, e1, e2, by rw [hb g (Array.getElem?_eq_some_iff.1 e3).1]; exact e3, e4⟩
  · rcases h.kd.2 with h' | ⟨g, cap, cur, e1, e2, e3, e4⟩
    · exact Or.inl h'
    · exact Or.inr ⟨g, cap, cur, e1, e2, by rw [hb g (Array.getElem?_eq_some_iff.1 e3).1]; exact e3, e4⟩
theorem get_at (E : List Ent) (x : ByteArray) (h : Rises E) (k : Kid) (hg : getE E x = some k) : E[lowP E x]? = some (x, k) := by
  induction E with
  | nil => simp [getE] at hg
  | cons e l ih =>
    rw [getE_cons] at hg
    rw [lowP_cons]
    split at hg
    · rename_i he
      have hb : bl e.1 x = false := by rw [he]; exact bl_irrefl x
      simp [hb] at hg ⊢
      exact Prod.ext he hg
    · rename_i he
      have hb : bl e.1 x = true := by
        have hmem : ∀ l' : List Ent, getE l' x = some k → ∃ f ∈ l', f.1 = x := by
          intro l'
          induction l' with
          | nil => intro h; simp [getE] at h
          | cons f r ihr =>
            intro h
            rw [getE_cons] at h
            split at h
            · rename_i hf; exact ⟨f, List.mem_cons_self .., hf⟩
            · obtain ⟨g, hg, e⟩ := ihr h; exact ⟨g, List.mem_cons_of_mem _ hg, e⟩
        obtain ⟨f, hf, e⟩ := hmem l hg
        rw [← e]; exact h.1 f hf
      simp [hb]
      exact ih h.2 hg
theorem at_of (E : List Ent) (x : ByteArray) (h : Rises E) : isAt (names E) (lowP E x) x = (getE E x).isSome := by
  cases hg : getE E x with
  | some k => exact (low_low E x h).1 ⟨k, hg⟩
  | none =>
    cases ha : isAt (names E) (lowP E x) x with
    | false => rfl
    | true => obtain ⟨k, hk⟩ := (low_low E x h).2 ha; rw [hg] at hk; cases hk
theorem results_28' {fn : Func} {p u : Tmp} (h : fn.results = #[.cell p 70, .tmp u]) (tmps : Array Value) (w : World) (g : Nat) (cs : Array Value) (hp : tmps.getD p undef = .pointer (some ⟨g, 0, none⟩)) (hg : w.heap[g]? = some (.cells cs 70 (0, 0))) (hi : cs.size = 8) :
    (results fn tmps).run Tryz.prog w = .ok (.tuple #[.agg cs, tmps.getD u undef]) w :=
  results_28 h tmps w g cs hp hg (by rw [hi]; kernel_rfl)
set_option maxHeartbeats 1000000 in
theorem field_hit (w : World) (base : Nat) (i0 u0 h0 : Int) (t0 : ByteArray) (f0 : Option Addr) (aN aK : Option Addr) (cN cK n : Nat) (E : List Ent) (x : ByteArray) (k : Kid) (hn : n = E.length) (hn2 : n ≤ 1000) (hR : RecOf w base aN cN aK cK E) (hg : getE E x = some k) :
    Calls Tryz.prog 60 #[.agg #[.int .i64 4, .int .i64 i0, .int .u64 u0, .string t0, .slice aN n cN, .slice aK n cK, .pointer f0, .int .i64 h0], .string x] w fun e w' => e = .returned (.tuple #[k.val, .bool true]) ∧ Below w.heap.size w w' := by
  subst hn
  have hlt0 : lowP E x < E.length := (List.getElem?_eq_some_iff.1 (get_at E x hR.rises k hg)).1
  obtain ⟨g, rfl, hgl0, cur, e3, e7⟩ : ∃ g, aK = some ⟨g, 0, none⟩ ∧ g < w.heap.size ∧ ∃ cur, w.heap[g]? = some (.cells cur 70 (0, 0)) ∧ cur.toList.take (E.length * 8) = cells E := by
    rcases hR.kd.2 with ⟨-, h0⟩ | ⟨g, cap, cur, e1, e2, e3, e4, e5, e6, e7⟩
    · omega
    · cases e1
      exact ⟨g, rfl, (Array.getElem?_eq_some_iff.1 e3).1, cur, e3, e7⟩
  have hb2 : ∀ k, k < w.heap.size → ((w.alloc (.cells #[.int .i64 4, .int .i64 i0, .int .u64 u0, .string t0, .slice aN E.length cN, .slice (some ⟨g, 0, none⟩) E.length cK, .pointer f0, .int .i64 h0] 70)).alloc (.cells #[.int .i64 0, .int .i64 0, .int .u64 0, .string ⟨#[]⟩, .slice none 0 0, .slice none 0 0, .pointer none, .int .i64 0] 70)).heap[k]? = w.heap[k]? := fun k hk => by rw [Below.heap_alloc _ _ _ (by simp; omega), Below.heap_alloc _ _ _ hk]
  have hR2 := hR.on hb2
  have hbs := bs_own ((w.alloc (.cells #[.int .i64 4, .int .i64 i0, .int .u64 u0, .string t0, .slice aN E.length cN, .slice (some ⟨g, 0, none⟩) E.length cK, .pointer f0, .int .i64 h0] 70)).alloc (.cells #[.int .i64 0, .int .i64 0, .int .u64 0, .string ⟨#[]⟩, .slice none 0 0, .slice none 0 0, .pointer none, .int .i64 0] 70)) base E.length (lowP E x) (names E) x _ (by simp [names]) (by omega) hR2.nm (lowP_le E x) (Lib.hid (part_of E x hR.rises))
  rw [at_of E x hR.rises, hg] at hbs
  have HBS := Lib.hid hbs
  have hB : ((w.alloc (.cells #[.int .i64 4, .int .i64 i0, .int .u64 u0, .string t0, .slice aN E.length cN, .slice (some ⟨g, 0, none⟩) E.length cK, .pointer f0, .int .i64 h0] 70)).alloc (.cells #[.int .i64 0, .int .i64 0, .int .u64 0, .string ⟨#[]⟩, .slice none 0 0, .slice none 0 0, .pointer none, .int .i64 0] 70)).heap[w.heap.size]? = some (.cells #[.int .i64 4, .int .i64 i0, .int .u64 u0, .string t0, .slice aN E.length cN, .slice (some ⟨g, 0, none⟩) E.length cK, .pointer f0, .int .i64 h0] 70 (0, 0)) := by rw [Below.heap_alloc _ _ _ (by simp)]; exact heap_alloc_new w _
  have HR : Hid (∀ cs, ((w.alloc (.cells #[.int .i64 4, .int .i64 i0, .int .u64 u0, .string t0, .slice aN E.length cN, .slice (some ⟨g, 0, none⟩) E.length cK, .pointer f0, .int .i64 h0] 70)).alloc (.cells cs 70)).heap[w.heap.size + 1]? = some (.cells cs 70 (0, 0))) := Lib.hid fun cs => by
    have := heap_alloc_new (w.alloc (.cells #[.int .i64 4, .int .i64 i0, .int .u64 u0, .string t0, .slice aN E.length cN, .slice (some ⟨g, 0, none⟩) E.length cK, .pointer f0, .int .i64 h0] 70)) (.cells cs 70)
    simpa using this
  have HBL : Hid (∀ cs, Below w.heap.size w ((w.alloc (.cells #[.int .i64 4, .int .i64 i0, .int .u64 u0, .string t0, .slice aN E.length cN, .slice (some ⟨g, 0, none⟩) E.length cK, .pointer f0, .int .i64 h0] 70)).alloc (.cells cs 70))) := Lib.hid fun cs => ((Below.refl _ _).alloc (Nat.le_refl _) _).alloc (by simp) _
  have b0 : ((w.alloc (.cells #[.int .i64 4, .int .i64 i0, .int .u64 u0, .string t0, .slice aN E.length cN, .slice (some ⟨g, 0, none⟩) E.length cK, .pointer f0, .int .i64 h0] 70)).alloc (.cells #[.int .i64 0, .int .i64 0, .int .u64 0, .string ⟨#[]⟩, .slice none 0 0, .slice none 0 0, .pointer none, .int .i64 0] 70)).cell? ⟨w.heap.size, 0, none⟩ = some (.int .i64 4) := by rw [cell_of_row _ _ 0 _ 70 _ hB]; rfl
  have b4 : ((w.alloc (.cells #[.int .i64 4, .int .i64 i0, .int .u64 u0, .string t0, .slice aN E.length cN, .slice (some ⟨g, 0, none⟩) E.length cK, .pointer f0, .int .i64 h0] 70)).alloc (.cells #[.int .i64 0, .int .i64 0, .int .u64 0, .string ⟨#[]⟩, .slice none 0 0, .slice none 0 0, .pointer none, .int .i64 0] 70)).cell? ⟨w.heap.size, 4, none⟩ = some (.slice aN E.length cN) := by rw [cell_of_row _ _ 4 _ 70 _ hB]; rfl
  have b5 : ((w.alloc (.cells #[.int .i64 4, .int .i64 i0, .int .u64 u0, .string t0, .slice aN E.length cN, .slice (some ⟨g, 0, none⟩) E.length cK, .pointer f0, .int .i64 h0] 70)).alloc (.cells #[.int .i64 0, .int .i64 0, .int .u64 0, .string ⟨#[]⟩, .slice none 0 0, .slice none 0 0, .pointer none, .int .i64 0] 70)).cell? ⟨w.heap.size, 5, none⟩ = some (.slice (some ⟨g, 0, none⟩) E.length cK) := by rw [cell_of_row _ _ 5 _ 70 _ hB]; rfl
  have hat := get_at E x hR.rises k hg
  have hlt : lowP E x < E.length := (List.getElem?_eq_some_iff.1 hat).1
  have hlt2 : (lowP E x : Int) < E.length := by omega
  have hc : ∀ i u, k.cells[i]? = some u → ((w.alloc (.cells #[.int .i64 4, .int .i64 i0, .int .u64 u0, .string t0, .slice aN E.length cN, .slice (some ⟨g, 0, none⟩) E.length cK, .pointer f0, .int .i64 h0] 70)).alloc (.cells #[.int .i64 0, .int .i64 0, .int .u64 0, .string ⟨#[]⟩, .slice none 0 0, .slice none 0 0, .pointer none, .int .i64 0] 70)).cell? ⟨g, lowP E x * 8 + i, none⟩ = some u := fun i u hi => by
    rw [cell_of_row _ g _ _ 70 _ ((hb2 g hgl0).trans e3)]
    exact row_at e7 (cellE E _ _ i u hat hi)
  obtain ⟨kd, ki, kb, kt, na, nn, nc, ka, kn, kc, fp, hv⟩ := k
  have a0 : ((w.alloc (.cells #[.int .i64 4, .int .i64 i0, .int .u64 u0, .string t0, .slice aN E.length cN, .slice (some ⟨g, 0, none⟩) E.length cK, .pointer f0, .int .i64 h0] 70)).alloc (.cells #[.int .i64 0, .int .i64 0, .int .u64 0, .string ⟨#[]⟩, .slice none 0 0, .slice none 0 0, .pointer none, .int .i64 0] 70)).cell? ⟨g, lowP E x * 8, none⟩ = some (.int .i64 kd) := hc 0 _ rfl
  have a1 : ((w.alloc (.cells #[.int .i64 4, .int .i64 i0, .int .u64 u0, .string t0, .slice aN E.length cN, .slice (some ⟨g, 0, none⟩) E.length cK, .pointer f0, .int .i64 h0] 70)).alloc (.cells #[.int .i64 0, .int .i64 0, .int .u64 0, .string ⟨#[]⟩, .slice none 0 0, .slice none 0 0, .pointer none, .int .i64 0] 70)).cell? ⟨g, lowP E x * 8 + 1, none⟩ = some (.int .i64 ki) := hc 1 _ rfl
  have a2 : ((w.alloc (.cells #[.int .i64 4, .int .i64 i0, .int .u64 u0, .string t0, .slice aN E.length cN, .slice (some ⟨g, 0, none⟩) E.length cK, .pointer f0, .int .i64 h0] 70)).alloc (.cells #[.int .i64 0, .int .i64 0, .int .u64 0, .string ⟨#[]⟩, .slice none 0 0, .slice none 0 0, .pointer none, .int .i64 0] 70)).cell? ⟨g, lowP E x * 8 + 2, none⟩ = some (.int .u64 kb) := hc 2 _ rfl
  have a3 : ((w.alloc (.cells #[.int .i64 4, .int .i64 i0, .int .u64 u0, .string t0, .slice aN E.length cN, .slice (some ⟨g, 0, none⟩) E.length cK, .pointer f0, .int .i64 h0] 70)).alloc (.cells #[.int .i64 0, .int .i64 0, .int .u64 0, .string ⟨#[]⟩, .slice none 0 0, .slice none 0 0, .pointer none, .int .i64 0] 70)).cell? ⟨g, lowP E x * 8 + 3, none⟩ = some (.string kt) := hc 3 _ rfl
  have a4 : ((w.alloc (.cells #[.int .i64 4, .int .i64 i0, .int .u64 u0, .string t0, .slice aN E.length cN, .slice (some ⟨g, 0, none⟩) E.length cK, .pointer f0, .int .i64 h0] 70)).alloc (.cells #[.int .i64 0, .int .i64 0, .int .u64 0, .string ⟨#[]⟩, .slice none 0 0, .slice none 0 0, .pointer none, .int .i64 0] 70)).cell? ⟨g, lowP E x * 8 + 4, none⟩ = some (.slice na nn nc) := hc 4 _ rfl
  have a5 : ((w.alloc (.cells #[.int .i64 4, .int .i64 i0, .int .u64 u0, .string t0, .slice aN E.length cN, .slice (some ⟨g, 0, none⟩) E.length cK, .pointer f0, .int .i64 h0] 70)).alloc (.cells #[.int .i64 0, .int .i64 0, .int .u64 0, .string ⟨#[]⟩, .slice none 0 0, .slice none 0 0, .pointer none, .int .i64 0] 70)).cell? ⟨g, lowP E x * 8 + 5, none⟩ = some (.slice ka kn kc) := hc 5 _ rfl
  have a6 : ((w.alloc (.cells #[.int .i64 4, .int .i64 i0, .int .u64 u0, .string t0, .slice aN E.length cN, .slice (some ⟨g, 0, none⟩) E.length cK, .pointer f0, .int .i64 h0] 70)).alloc (.cells #[.int .i64 0, .int .i64 0, .int .u64 0, .string ⟨#[]⟩, .slice none 0 0, .slice none 0 0, .pointer none, .int .i64 0] 70)).cell? ⟨g, lowP E x * 8 + 6, none⟩ = some (.pointer fp) := hc 6 _ rfl
  have a7 : ((w.alloc (.cells #[.int .i64 4, .int .i64 i0, .int .u64 u0, .string t0, .slice aN E.length cN, .slice (some ⟨g, 0, none⟩) E.length cK, .pointer f0, .int .i64 h0] 70)).alloc (.cells #[.int .i64 0, .int .i64 0, .int .u64 0, .string ⟨#[]⟩, .slice none 0 0, .slice none 0 0, .pointer none, .int .i64 0] 70)).cell? ⟨g, lowP E x * 8 + 7, none⟩ = some (.int .i64 hv) := hc 7 _ rfl
  have hgl : g ≠ w.heap.size + 1 := by omega
  generalize lowP E x = p at *
  generalize E.length = n at *
  clear hat hc e3 e7 hR hR2 hbs hB hb2 hg
  go_enter Tryz.func60, Tryz.ntmps60
  go_wp2_with (go_at_call 65; refine HBS.out.mono ?_; rintro e w' ⟨rfl, rfl⟩)
  (try simp only [Exit.inBlock, Exit.then])
  refine bodyPost_ret (v := .tuple #[.agg #[.int .i64 kd, .int .i64 ki, .int .u64 kb, .string kt, .slice na nn nc, .slice ka kn kc, .pointer fp, .int .i64 hv], .bool true]) ?_ rfl ?_
  · refine results_28' (fn := Tryz.f60) (p := 4) (u := 5) rfl _ _ (w.heap.size + 1) #[.int .i64 kd, .int .i64 ki, .int .u64 kb, .string kt, .slice na nn nc, .slice ka kn kc, .pointer fp, .int .i64 hv] ?_ ?_ rfl
    · rfl
    · exact HR.out _
  · exact ⟨rfl, HBL.out _⟩
set_option maxHeartbeats 1000000 in
theorem field_miss (w : World) (base : Nat) (i0 u0 h0 : Int) (t0 : ByteArray) (f0 : Option Addr) (aN aK : Option Addr) (cN cK n : Nat) (E : List Ent) (x : ByteArray) (hn : n = E.length) (hn2 : n ≤ 1000) (hR : RecOf w base aN cN aK cK E) (hg : getE E x = none) :
    Calls Tryz.prog 60 #[.agg #[.int .i64 4, .int .i64 i0, .int .u64 u0, .string t0, .slice aN n cN, .slice aK n cK, .pointer f0, .int .i64 h0], .string x] w fun e w' => e = .returned (.tuple #[iVal 0, .bool false]) ∧ Below w.heap.size w w' := by
  subst hn
  have hb2 : ∀ k, k < w.heap.size → ((w.alloc (.cells #[.int .i64 4, .int .i64 i0, .int .u64 u0, .string t0, .slice aN E.length cN, .slice aK E.length cK, .pointer f0, .int .i64 h0] 70)).alloc (.cells #[.int .i64 0, .int .i64 0, .int .u64 0, .string ⟨#[]⟩, .slice none 0 0, .slice none 0 0, .pointer none, .int .i64 0] 70)).heap[k]? = w.heap[k]? := fun k hk => by rw [Below.heap_alloc _ _ _ (by simp; omega), Below.heap_alloc _ _ _ hk]
  have hR2 := hR.on hb2
  have hbs := bs_own ((w.alloc (.cells #[.int .i64 4, .int .i64 i0, .int .u64 u0, .string t0, .slice aN E.length cN, .slice aK E.length cK, .pointer f0, .int .i64 h0] 70)).alloc (.cells #[.int .i64 0, .int .i64 0, .int .u64 0, .string ⟨#[]⟩, .slice none 0 0, .slice none 0 0, .pointer none, .int .i64 0] 70)) base E.length (lowP E x) (names E) x _ (by simp [names]) (by omega) hR2.nm (lowP_le E x) (Lib.hid (part_of E x hR.rises))
  rw [at_of E x hR.rises, hg] at hbs
  have HBS := Lib.hid hbs
  have hB : ((w.alloc (.cells #[.int .i64 4, .int .i64 i0, .int .u64 u0, .string t0, .slice aN E.length cN, .slice aK E.length cK, .pointer f0, .int .i64 h0] 70)).alloc (.cells #[.int .i64 0, .int .i64 0, .int .u64 0, .string ⟨#[]⟩, .slice none 0 0, .slice none 0 0, .pointer none, .int .i64 0] 70)).heap[w.heap.size]? = some (.cells #[.int .i64 4, .int .i64 i0, .int .u64 u0, .string t0, .slice aN E.length cN, .slice aK E.length cK, .pointer f0, .int .i64 h0] 70 (0, 0)) := by rw [Below.heap_alloc _ _ _ (by simp)]; exact heap_alloc_new w _
  have HR : Hid (∀ cs, ((w.alloc (.cells #[.int .i64 4, .int .i64 i0, .int .u64 u0, .string t0, .slice aN E.length cN, .slice aK E.length cK, .pointer f0, .int .i64 h0] 70)).alloc (.cells cs 70)).heap[w.heap.size + 1]? = some (.cells cs 70 (0, 0))) := Lib.hid fun cs => by
    have := heap_alloc_new (w.alloc (.cells #[.int .i64 4, .int .i64 i0, .int .u64 u0, .string t0, .slice aN E.length cN, .slice aK E.length cK, .pointer f0, .int .i64 h0] 70)) (.cells cs 70)
    simpa using this
  have HBL : Hid (∀ cs, Below w.heap.size w ((w.alloc (.cells #[.int .i64 4, .int .i64 i0, .int .u64 u0, .string t0, .slice aN E.length cN, .slice aK E.length cK, .pointer f0, .int .i64 h0] 70)).alloc (.cells cs 70))) := Lib.hid fun cs => ((Below.refl _ _).alloc (Nat.le_refl _) _).alloc (by simp) _
  have b0 : ((w.alloc (.cells #[.int .i64 4, .int .i64 i0, .int .u64 u0, .string t0, .slice aN E.length cN, .slice aK E.length cK, .pointer f0, .int .i64 h0] 70)).alloc (.cells #[.int .i64 0, .int .i64 0, .int .u64 0, .string ⟨#[]⟩, .slice none 0 0, .slice none 0 0, .pointer none, .int .i64 0] 70)).cell? ⟨w.heap.size, 0, none⟩ = some (.int .i64 4) := by rw [cell_of_row _ _ 0 _ 70 _ hB]; rfl
  have b4 : ((w.alloc (.cells #[.int .i64 4, .int .i64 i0, .int .u64 u0, .string t0, .slice aN E.length cN, .slice aK E.length cK, .pointer f0, .int .i64 h0] 70)).alloc (.cells #[.int .i64 0, .int .i64 0, .int .u64 0, .string ⟨#[]⟩, .slice none 0 0, .slice none 0 0, .pointer none, .int .i64 0] 70)).cell? ⟨w.heap.size, 4, none⟩ = some (.slice aN E.length cN) := by rw [cell_of_row _ _ 4 _ 70 _ hB]; rfl
  have b5 : ((w.alloc (.cells #[.int .i64 4, .int .i64 i0, .int .u64 u0, .string t0, .slice aN E.length cN, .slice aK E.length cK, .pointer f0, .int .i64 h0] 70)).alloc (.cells #[.int .i64 0, .int .i64 0, .int .u64 0, .string ⟨#[]⟩, .slice none 0 0, .slice none 0 0, .pointer none, .int .i64 0] 70)).cell? ⟨w.heap.size, 5, none⟩ = some (.slice aK E.length cK) := by rw [cell_of_row _ _ 5 _ 70 _ hB]; rfl
  generalize lowP E x = p at *
  generalize E.length = n at *
  clear hR hR2 hbs hB hb2 hg
  go_enter Tryz.func60, Tryz.ntmps60
  go_wp2_with (go_at_call 65; refine HBS.out.mono ?_; rintro e w' ⟨rfl, rfl⟩)
  (try simp only [Exit.inBlock, Exit.then])
  refine bodyPost_ret (v := .tuple #[.agg #[.int .i64 0, .int .i64 0, .int .u64 0, .string ⟨#[]⟩, .slice none 0 0, .slice none 0 0, .pointer none, .int .i64 0], .bool false]) ?_ rfl ?_
  · refine results_28' (fn := Tryz.f60) (p := 4) (u := 5) rfl _ _ (w.heap.size + 1) #[.int .i64 0, .int .i64 0, .int .u64 0, .string ⟨#[]⟩, .slice none 0 0, .slice none 0 0, .pointer none, .int .i64 0] ?_ ?_ rfl
    · rfl
    · exact HR.out _
  · exact ⟨rfl, HBL.out _⟩
theorem field_tag (w : World) (x : ByteArray) : Calls Tryz.prog 60 #[.agg #[.int .i64 5, .int .i64 0, .int .u64 0, .string ⟨#[]⟩, .slice none 0 0, .slice none 0 0, .pointer none, .int .i64 0], .string x] w fun e w' => e = .returned (.tuple #[iVal 0, .bool false]) ∧ Below w.heap.size w w' := by
  have HR : Hid (∀ cs, ((w.alloc (.cells #[.int .i64 5, .int .i64 0, .int .u64 0, .string ⟨#[]⟩, .slice none 0 0, .slice none 0 0, .pointer none, .int .i64 0] 70)).alloc (.cells cs 70)).heap[w.heap.size + 1]? = some (.cells cs 70 (0, 0))) := Lib.hid fun cs => by
    have := heap_alloc_new (w.alloc (.cells #[.int .i64 5, .int .i64 0, .int .u64 0, .string ⟨#[]⟩, .slice none 0 0, .slice none 0 0, .pointer none, .int .i64 0] 70)) (.cells cs 70)
    simpa using this
  have HBL : Hid (∀ cs, Below w.heap.size w ((w.alloc (.cells #[.int .i64 5, .int .i64 0, .int .u64 0, .string ⟨#[]⟩, .slice none 0 0, .slice none 0 0, .pointer none, .int .i64 0] 70)).alloc (.cells cs 70))) := Lib.hid fun cs => ((Below.refl _ _).alloc (Nat.le_refl _) _).alloc (by simp) _
  go_enter Tryz.func60, Tryz.ntmps60
  go_wp2_with (go_at_call 65; refine (bs_nil _ _).mono ?_; rintro e w' ⟨rfl, rfl⟩)
  (try simp only [Exit.inBlock, Exit.then])
  refine bodyPost_ret (v := .tuple #[.agg #[.int .i64 0, .int .i64 0, .int .u64 0, .string ⟨#[]⟩, .slice none 0 0, .slice none 0 0, .pointer none, .int .i64 0], .bool false]) ?_ rfl ?_
  · refine results_28' (fn := Tryz.f60) (p := 4) (u := 5) rfl _ _ (w.heap.size + 1) #[.int .i64 0, .int .i64 0, .int .u64 0, .string ⟨#[]⟩, .slice none 0 0, .slice none 0 0, .pointer none, .int .i64 0] ?_ ?_ rfl
    · rfl
    · exact HR.out _
  · exact ⟨rfl, HBL.out _⟩
end Go.Proofs.YtoakfninndkgaaaGreatDoor.Val
