/- Walks: Text of the example; lives. Walks: Find. Walks: Field. Plain: a map that holds what a sorted list holds. Walks: Record, at the names and numbers of ValueRecords. -/
import Derived.Test.YtoakfninndkgaaaGreatDoorGa08
import Derived.Laws.BytesArg
import Derived.Laws.ResultCell
import Derived.Test.YtoakfninndkgaaaGreatDoorGa07
import Derived.Maps.OwnSet
import Derived.Maps.OwnOps
import Derived.Maps.AppendAt
set_option linter.unusedSimpArgs false
set_option linter.unusedVariables false
set_option linter.unusedVariables false
namespace Go.Proofs.YtoakfninndkgaaaGreatDoor.Val
open Go.RowKit
theorem text_conv (w : World) (base : Nat) (v : Value) (l : List Int) (h : BOwn w base v l) : (convert 123 9 v).run Tryz.prog w = .ok (.string (strOfNums l)) w := by
  have hl := h.1
  rcases h.2 with ⟨rfl, h0⟩ | ⟨g, cap, cur, rfl, e2, e3, e4, e5, e6, e7⟩
  · obtain rfl : l = [] := List.length_eq_zero_iff.1 h0
    exact run_convert_bytes_nil w 123 5 Tryz.underlying123 Tryz.underlying5 0 0 9 Tryz.underlying9
  · refine run_convert_bytes_arg w 123 5 Tryz.underlying123 Tryz.underlying5 g 0 l.length cap l rfl (fun i hi => ?_) 9 Tryz.underlying9
    rw [Nat.zero_add, cell_of_row w g i _ 5 _ e3]
    refine row_at e7 ?_
    rw [List.getElem?_map, List.getElem?_eq_getElem hi]
    simp [List.getD, List.getElem?_eq_getElem hi]
theorem text_rec (w : World) (g1 c1 g2 c2 : Nat) (hr : RecIn w g1 g2) (h1 : 2 ≤ c1) (h2 : 2 ≤ c2) :
    Calls Tryz.prog 49 #[.agg #[.int .i64 4, .int .i64 0, .int .u64 0, .string ⟨#[]⟩, .slice (some ⟨g1, 0, none⟩) 2 c1, .slice (some ⟨g2, 0, none⟩) 2 c2, .pointer none, .int .i64 3]] w fun e w' => e = .returned (.string ⟨#[123, 97, 32, 61, 32, 50, 44, 32, 98, 32, 61, 32, 49, 125]⟩) ∧ Below w.heap.size w w' := by
  have hb : Below w.heap.size w (w.alloc (.cells #[.int .i64 4, .int .i64 0, .int .u64 0, .string ⟨#[]⟩, .slice (some ⟨g1, 0, none⟩) 2 c1, .slice (some ⟨g2, 0, none⟩) 2 c2, .pointer none, .int .i64 3] 70)) := (Below.refl _ _).alloc (Nat.le_refl _) _
  have HP := Lib.hid (put_rec _ g1 c1 g2 c2 (hr.below hb hr.l1 hr.l2) h1 h2)
  have HB := Lib.hid hb
  have hx := heap_alloc_new w (.cells #[.int .i64 4, .int .i64 0, .int .u64 0, .string ⟨#[]⟩, .slice (some ⟨g1, 0, none⟩) 2 c1, .slice (some ⟨g2, 0, none⟩) 2 c2, .pointer none, .int .i64 3] 70)
  clear hr hb h1 h2 hx
  go_enter Tryz.func49, Tryz.ntmps49
  go_wp2_with (go_at_call 58; refine HP.out.mono ?_; rintro e w' ⟨v', rfl, hO, hB⟩; have hcv := text_conv _ _ _ _ hO)
  go_ret
  exact ⟨rfl, HB.out.trans (hB.mono HB.out.size)⟩
def kid1 : Kid := ⟨0, 1, 0, ⟨#[]⟩, none, 0, 0, none, 0, 0, none, 0⟩
def kid2 : Kid := ⟨0, 2, 0, ⟨#[]⟩, none, 0, 0, none, 0, 0, none, 0⟩
def exP : List Ent := [(⟨#[98]⟩, kid1), (⟨#[97]⟩, kid2)]
theorem exUp : upE exP 2 = [(⟨#[97]⟩, kid2), (⟨#[98]⟩, kid1)] := by
  have h1 : bl ⟨#[98]⟩ ⟨#[97]⟩ = false := by unfold bl; rw [Lib.toList_data, Lib.toList_data]; decide
  have h2 : (⟨#[98]⟩ : ByteArray) ≠ ⟨#[97]⟩ := by decide
  have : upE exP 2 = insE (insE [] ⟨#[98]⟩ kid1) ⟨#[97]⟩ kid2 := rfl
  rw [this]
  show insE [(⟨#[98]⟩, kid1)] ⟨#[97]⟩ kid2 = _
  rw [insE_cons, h1, if_neg (by decide), if_neg h2]
theorem kid_one (w : World) (i : Int) : Weighs w (Kid.val ⟨0, i, 0, ⟨#[]⟩, none, 0, 0, none, 0, 0, none, 0⟩) 1 := weigh_leaf w 0 _ _ _ _ ⟨#[]⟩ (by decide) (Nat.zero_le _)
theorem lives_true (w : World) : Calls Tryz.prog 29 #[] w fun e w' => e = .returned (.bool true) ∧ Below w.heap.size w w' := by
  have hb : Below w.heap.size w ((w.alloc (Obj.cells #[.string ⟨#[98]⟩, .string ⟨#[97]⟩] 9)).alloc (Obj.cells #[.int .i64 0, .int .i64 1, .int .u64 0, .string ⟨#[]⟩, .slice none 0 0, .slice none 0 0, .pointer none, .int .i64 0, .int .i64 0, .int .i64 2, .int .u64 0, .string ⟨#[]⟩, .slice none 0 0, .slice none 0 0, .pointer none, .int .i64 0] 70)) := ((Below.refl _ _).alloc (Nat.le_refl _) _).alloc (by simp) _
  have hA : ((w.alloc (Obj.cells #[.string ⟨#[98]⟩, .string ⟨#[97]⟩] 9)).alloc (Obj.cells #[.int .i64 0, .int .i64 1, .int .u64 0, .string ⟨#[]⟩, .slice none 0 0, .slice none 0 0, .pointer none, .int .i64 0, .int .i64 0, .int .i64 2, .int .u64 0, .string ⟨#[]⟩, .slice none 0 0, .slice none 0 0, .pointer none, .int .i64 0] 70)).heap[w.heap.size]? = some (.cells #[.string ⟨#[98]⟩, .string ⟨#[97]⟩] 9 (0, 0)) := by rw [Below.heap_alloc _ _ _ (by simp)]; exact heap_alloc_new w _
  have hB : ((w.alloc (Obj.cells #[.string ⟨#[98]⟩, .string ⟨#[97]⟩] 9)).alloc (Obj.cells #[.int .i64 0, .int .i64 1, .int .u64 0, .string ⟨#[]⟩, .slice none 0 0, .slice none 0 0, .pointer none, .int .i64 0, .int .i64 0, .int .i64 2, .int .u64 0, .string ⟨#[]⟩, .slice none 0 0, .slice none 0 0, .pointer none, .int .i64 0] 70)).heap[w.heap.size + 1]? = some (.cells #[.int .i64 0, .int .i64 1, .int .u64 0, .string ⟨#[]⟩, .slice none 0 0, .slice none 0 0, .pointer none, .int .i64 0, .int .i64 0, .int .i64 2, .int .u64 0, .string ⟨#[]⟩, .slice none 0 0, .slice none 0 0, .pointer none, .int .i64 0] 70 (0, 0)) := by
    have := heap_alloc_new (w.alloc (Obj.cells #[.string ⟨#[98]⟩, .string ⟨#[97]⟩] 9)) (Obj.cells #[.int .i64 0, .int .i64 1, .int .u64 0, .string ⟨#[]⟩, .slice none 0 0, .slice none 0 0, .pointer none, .int .i64 0, .int .i64 0, .int .i64 2, .int .u64 0, .string ⟨#[]⟩, .slice none 0 0, .slice none 0 0, .pointer none, .int .i64 0] 70)
    simpa using this
  have hP : PairsIn ((w.alloc (Obj.cells #[.string ⟨#[98]⟩, .string ⟨#[97]⟩] 9)).alloc (Obj.cells #[.int .i64 0, .int .i64 1, .int .u64 0, .string ⟨#[]⟩, .slice none 0 0, .slice none 0 0, .pointer none, .int .i64 0, .int .i64 0, .int .i64 2, .int .u64 0, .string ⟨#[]⟩, .slice none 0 0, .slice none 0 0, .pointer none, .int .i64 0] 70)) w.heap.size 0 (w.heap.size + 1) exP := {
    nm := fun j e he => by
      rw [cell_of_row _ _ _ _ 9 _ hA]
      match j, he with
      | 0, he => obtain rfl : _ = e := by simpa [exP] using he
                 rfl
      | 1, he => obtain rfl : _ = e := by simpa [exP] using he
                 rfl
      | j + 2, he => simp [exP] at he
    kc := fun j e i u he hi => by
      rw [cell_of_row _ _ _ _ 70 _ hB]
      have hi8 : i < 8 := (List.getElem?_eq_some_iff.1 hi).1
      match j, he with
      | 0, he => obtain rfl : _ = e := by simpa [exP] using he
                 rw [← hi]
                 match i, hi8 with
                 | 0, _ | 1, _ | 2, _ | 3, _ | 4, _ | 5, _ | 6, _ | 7, _ => rfl
      | 1, he => obtain rfl : _ = e := by simpa [exP] using he
                 rw [← hi]
                 match i, hi8 with
                 | 0, _ | 1, _ | 2, _ | 3, _ | 4, _ | 5, _ | 6, _ | 7, _ => rfl
      | j + 2, he => simp [exP] at he }
  have hW : ∀ e ∈ exP, Weighs ((w.alloc (Obj.cells #[.string ⟨#[98]⟩, .string ⟨#[97]⟩] 9)).alloc (Obj.cells #[.int .i64 0, .int .i64 1, .int .u64 0, .string ⟨#[]⟩, .slice none 0 0, .slice none 0 0, .pointer none, .int .i64 0, .int .i64 0, .int .i64 2, .int .u64 0, .string ⟨#[]⟩, .slice none 0 0, .slice none 0 0, .pointer none, .int .i64 0] 70)) e.2.val 1 := fun e he => by
    rcases List.mem_cons.1 he with rfl | he
    · exact kid_one _ 1
    · obtain rfl := List.mem_singleton.1 he
      exact kid_one _ 2
  have hrec : Calls Tryz.prog 48 #[.slice (some ⟨w.heap.size, 0, none⟩) 2 2, .slice (some ⟨w.heap.size + 1, 0, none⟩) 2 2] ((w.alloc (Obj.cells #[.string ⟨#[98]⟩, .string ⟨#[97]⟩] 9)).alloc (Obj.cells #[.int .i64 0, .int .i64 1, .int .u64 0, .string ⟨#[]⟩, .slice none 0 0, .slice none 0 0, .pointer none, .int .i64 0, .int .i64 0, .int .i64 2, .int .u64 0, .string ⟨#[]⟩, .slice none 0 0, .slice none 0 0, .pointer none, .int .i64 0] 70)) fun e w' => ∃ g1 c1 g2 c2, e = .returned (.agg #[.int .i64 4, .int .i64 0, .int .u64 0, .string ⟨#[]⟩, .slice (some ⟨g1, 0, none⟩) 2 c1, .slice (some ⟨g2, 0, none⟩) 2 c2, .pointer none, .int .i64 3]) ∧ Hid (RecIn w' g1 g2) ∧ Hid (2 ≤ c1) ∧ Hid (2 ≤ c2) ∧ Hid (Below w.heap.size w w') := by
    refine (record_A ((w.alloc (Obj.cells #[.string ⟨#[98]⟩, .string ⟨#[97]⟩] 9)).alloc (Obj.cells #[.int .i64 0, .int .i64 1, .int .u64 0, .string ⟨#[]⟩, .slice none 0 0, .slice none 0 0, .pointer none, .int .i64 0, .int .i64 0, .int .i64 2, .int .u64 0, .string ⟨#[]⟩, .slice none 0 0, .slice none 0 0, .pointer none, .int .i64 0] 70)) w.heap.size 0 2 2 (w.heap.size + 1) 2 2 2 exP (fun _ => 1) rfl (by decide) hP (by decide) (by decide) (by decide) (by decide) (by decide) (by decide) rfl (fun _ => by simp; omega) (fun _ => by simp) hW (fun _ _ => by decide)).mono ?_
    rintro e w3 ⟨aN, cN, aK, cK, rfl, r1, r2, r3⟩
    rw [exUp] at r1 r2 ⊢
    rcases r1.2 with ⟨-, h0⟩ | ⟨g1, c1, cur1, e1, e2, e3, e4, e5, e6, e7⟩
    · cases h0
    rcases r2.2 with ⟨-, h0⟩ | ⟨g2, c2, cur2, f1, f2, f3, f4, f5, f6, f7⟩
    · cases h0
    cases e1
    cases f1
    refine ⟨g1, cN, g2, cK, rfl, ?_, e4, f4, hb.trans (r3.mono hb.size)⟩
    have kc : ∀ (j : Nat) (u : Value), (cells [(⟨#[97]⟩, kid2), (⟨#[98]⟩, kid1)])[j]? = some u → w3.cell? ⟨g2, j, none⟩ = some u := fun j u hj => by
      rw [cell_of_row _ g2 j _ 70 _ f3]; exact row_at f7 hj
    exact {
      n0 := by rw [cell_of_row _ g1 0 _ 9 _ e3]; exact row_at e7 rfl
      n1 := by rw [cell_of_row _ g1 1 _ 9 _ e3]; exact row_at e7 rfl
      k0 := fun j u hj => by
        have hj8 : j < 8 := (List.getElem?_eq_some_iff.1 hj).1
        refine kc j u ?_
        rw [← hj]
        match j, hj8 with
        | 0, _ | 1, _ | 2, _ | 3, _ | 4, _ | 5, _ | 6, _ | 7, _ => rfl
      k1 := fun j u hj => by
        have hj8 : j < 8 := (List.getElem?_eq_some_iff.1 hj).1
        refine kc (8 + j) u ?_
        rw [← hj]
        match j, hj8 with
        | 0, _ | 1, _ | 2, _ | 3, _ | 4, _ | 5, _ | 6, _ | 7, _ => rfl
      l1 := (Array.getElem?_eq_some_iff.1 e3).1
      l2 := (Array.getElem?_eq_some_iff.1 f3).1 }
  have HR := Lib.hid hrec
  clear hb hA hB hP hW hrec
  go_enter Tryz.func29, Tryz.ntmps29
  go_upto_region 2 with (go_at_call 48; refine HR.out.mono ?_; rintro e w3 ⟨g1, c1, g2, c2, rfl, HI, HC1, HC2, HB⟩)
  have hb4 : Below w3.heap.size w3 (w3.alloc (.cells #[.int .i64 4, .int .i64 0, .int .u64 0, .string ⟨#[]⟩, .slice (some ⟨g1, 0, none⟩) 2 c1, .slice (some ⟨g2, 0, none⟩) 2 c2, .pointer none, .int .i64 3] 70)) := (Below.refl _ _).alloc (Nat.le_refl _) _
  have HT := Lib.hid (text_rec _ g1 c1 g2 c2 (HI.out.below hb4 HI.out.l1 HI.out.l2) HC1.out HC2.out)
  have HB4 := Lib.hid hb4
  clear hb4
  go_wp2_with (go_at_call 49; refine HT.out.mono ?_; rintro e w5 ⟨rfl, hB5⟩)
  go_ret
  exact ⟨by simp, HB.out.trans ((HB4.out.trans (hB5.mono HB4.out.size)).mono HB.out.size)⟩
end Go.Proofs.YtoakfninndkgaaaGreatDoor.Val
set_option linter.unusedVariables false
namespace Go.Proofs.YtoakfninndkgaaaGreatDoor.Val
open Go.RowKit
def iVal (i : Int) : Value := .agg #[.int .i64 0, .int .i64 i, .int .u64 0, .string ⟨#[]⟩, .slice none 0 0, .slice none 0 0, .pointer none, .int .i64 0]
theorem results_28 {fn : Func} {p u : Tmp} (h : fn.results = #[.cell p 70, .tmp u]) (tmps : Array Value) (w : World) (g : Nat) (cs : Array Value) (hp : tmps.getD p undef = .pointer (some ⟨g, 0, none⟩)) (hg : w.heap[g]? = some (.cells cs 70 (0, 0))) (hi : (Tryz.prog.info? 70).map (·.size) = some cs.size) :
    (results fn tmps).run Tryz.prog w = .ok (.tuple #[.agg cs, tmps.getD u undef]) w := by
  rw [results_cell_tmp h, hp]
  simp [asAddr, run_loadVar_row w g 70 70 cs (0, 0) _ hg Tryz.underlying70 rfl hi]
end Go.Proofs.YtoakfninndkgaaaGreatDoor.Val
set_option linter.unusedVariables false
namespace Go.Proofs.YtoakfninndkgaaaGreatDoor.Val
open Go.RowKit
/-- a record that shows the list E. -/
structure RecOf (w : World) (base : Nat) (aN : Option Addr) (cN : Nat) (aK : Option Addr) (cK : Nat) (E : List Ent) : Prop where
  nm : w.ownsRow base 9 1 (.slice aN E.length cN) E.length ((names E).map Value.string)
  kd : w.ownsRow base 70 8 (.slice aK E.length cK) E.length (cells E)
  rises : Rises E
theorem RecOf.on {w w' : World} {base : Nat} {aN aK : Option Addr} {cN cK : Nat} {E : List Ent} (h : RecOf w base aN cN aK cK E) (hb : ∀ k, k < w.heap.size → w'.heap[k]? = w.heap[k]?) : RecOf w' base aN cN aK cK E := by
  refine ⟨⟨h.nm.1, ?_⟩, ⟨h.kd.1, ?_⟩, h.rises⟩
  · rcases h.nm.2 with h' | ⟨g, cap, cur, e1, e2, e3, e4⟩
    · exact Or.inl h'
    · exact Or.inr ⟨g, cap, cur, e1, e2, by rw [hb g (Array.getElem?_eq_some_iff.1 e3).1]; exact e3, e4⟩
  · rcases h.kd.2 with h' | ⟨g, cap, cur, e1, e2, e3, e4⟩
    · exact Or.inl h'
    · exact Or.inr ⟨g, cap, cur, e1, e2, by rw [hb g (Array.getElem?_eq_some_iff.1 e3).1]; exact e3, e4⟩
theorem get_at (E : List Ent) (x : ByteArray) (h : Rises E) (k : Kid) (hg : getE E x = some k) : E[lowP E x]? = some (x, k) := by
  induction E with
  | nil => simp [getE] at hg
  | cons e l ih =>
    rw [getE_cons] at hg
    rw [lowP_cons]
    split at hg
    · rename_i he
      have hb : bl e.1 x = false := by rw [he]; exact bl_irrefl x
      simp [hb] at hg ⊢
      exact Prod.ext he hg
    · rename_i he
      have hb : bl e.1 x = true := by
        have hmem : ∀ l' : List Ent, getE l' x = some k → ∃ f ∈ l', f.1 = x := by
          intro l'
          induction l' with
          | nil => intro h; simp [getE] at h
          | cons f r ihr =>
            intro h
            rw [getE_cons] at h
            split at h
            · rename_i hf; exact ⟨f, List.mem_cons_self .., hf⟩
            · obtain ⟨g, hg, e⟩ := ihr h; exact ⟨g, List.mem_cons_of_mem _ hg, e⟩
        obtain ⟨f, hf, e⟩ := hmem l hg
        rw [← e]; exact h.1 f hf
      simp [hb]
      exact ih h.2 hg
theorem at_of (E : List Ent) (x : ByteArray) (h : Rises E) : isAt (names E) (lowP E x) x = (getE E x).isSome := by
  cases hg : getE E x with
  | some k => exact (low_low E x h).1 ⟨k, hg⟩
  | none =>
    cases ha : isAt (names E) (lowP E x) x with
    | false => rfl
    | true => obtain ⟨k, hk⟩ := (low_low E x h).2 ha; rw [hg] at hk; cases hk
theorem results_28' {fn : Func} {p u : Tmp} (h : fn.results = #[.cell p 70, .tmp u]) (tmps : Array Value) (w : World) (g : Nat) (cs : Array Value) (hp : tmps.getD p undef = .pointer (some ⟨g, 0, none⟩)) (hg : w.heap[g]? = some (.cells cs 70 (0, 0))) (hi : cs.size = 8) :
    (results fn tmps).run Tryz.prog w = .ok (.tuple #[.agg cs, tmps.getD u undef]) w :=
  results_28 h tmps w g cs hp hg (by rw [hi]; kernel_rfl)
set_option maxHeartbeats 1000000 in
theorem field_hit (w : World) (base : Nat) (i0 u0 h0 : Int) (t0 : ByteArray) (f0 : Option Addr) (aN aK : Option Addr) (cN cK n : Nat) (E : List Ent) (x : ByteArray) (k : Kid) (hn : n = E.length) (hn2 : n ≤ 1000) (hR : RecOf w base aN cN aK cK E) (hg : getE E x = some k) :
    Calls Tryz.prog 60 #[.agg #[.int .i64 4, .int .i64 i0, .int .u64 u0, .string t0, .slice aN n cN, .slice aK n cK, .pointer f0, .int .i64 h0], .string x] w fun e w' => e = .returned (.tuple #[k.val, .bool true]) ∧ Below w.heap.size w w' := by
  subst hn
  have hlt0 : lowP E x < E.length := (List.getElem?_eq_some_iff.1 (get_at E x hR.rises k hg)).1
  obtain ⟨g, rfl, hgl0, cur, e3, e7⟩ : ∃ g, aK = some ⟨g, 0, none⟩ ∧ g < w.heap.size ∧ ∃ cur, w.heap[g]? = some (.cells cur 70 (0, 0)) ∧ cur.toList.take (E.length * 8) = cells E := by
    rcases hR.kd.2 with ⟨-, h0⟩ | ⟨g, cap, cur, e1, e2, e3, e4, e5, e6, e7⟩
    · omega
    · cases e1
      exact ⟨g, rfl, (Array.getElem?_eq_some_iff.1 e3).1, cur, e3, e7⟩
  have hb2 : ∀ k, k < w.heap.size → ((w.alloc (.cells #[.int .i64 4, .int .i64 i0, .int .u64 u0, .string t0, .slice aN E.length cN, .slice (some ⟨g, 0, none⟩) E.length cK, .pointer f0, .int .i64 h0] 70)).alloc (.cells #[.int .i64 0, .int .i64 0, .int .u64 0, .string ⟨#[]⟩, .slice none 0 0, .slice none 0 0, .pointer none, .int .i64 0] 70)).heap[k]? = w.heap[k]? := fun k hk => by rw [Below.heap_alloc _ _ _ (by simp; omega), Below.heap_alloc _ _ _ hk]
  have hR2 := hR.on hb2
  have hbs := bs_own ((w.alloc (.cells #[.int .i64 4, .int .i64 i0, .int .u64 u0, .string t0, .slice aN E.length cN, .slice (some ⟨g, 0, none⟩) E.length cK, .pointer f0, .int .i64 h0] 70)).alloc (.cells #[.int .i64 0, .int .i64 0, .int .u64 0, .string ⟨#[]⟩, .slice none 0 0, .slice none 0 0, .pointer none, .int .i64 0] 70)) base E.length (lowP E x) (names E) x _ (by simp [names]) (by omega) hR2.nm (lowP_le E x) (Lib.hid (part_of E x hR.rises))
  rw [at_of E x hR.rises, hg] at hbs
  have HBS := Lib.hid hbs
  have hB : ((w.alloc (.cells #[.int .i64 4, .int .i64 i0, .int .u64 u0, .string t0, .slice aN E.length cN, .slice (some ⟨g, 0, none⟩) E.length cK, .pointer f0, .int .i64 h0] 70)).alloc (.cells #[.int .i64 0, .int .i64 0, .int .u64 0, .string ⟨#[]⟩, .slice none 0 0, .slice none 0 0, .pointer none, .int .i64 0] 70)).heap[w.heap.size]? = some (.cells #[.int .i64 4, .int .i64 i0, .int .u64 u0, .string t0, .slice aN E.length cN, .slice (some ⟨g, 0, none⟩) E.length cK, .pointer f0, .int .i64 h0] 70 (0, 0)) := by rw [Below.heap_alloc _ _ _ (by simp)]; exact heap_alloc_new w _
  have HR : Hid (∀ cs, ((w.alloc (.cells #[.int .i64 4, .int .i64 i0, .int .u64 u0, .string t0, .slice aN E.length cN, .slice (some ⟨g, 0, none⟩) E.length cK, .pointer f0, .int .i64 h0] 70)).alloc (.cells cs 70)).heap[w.heap.size + 1]? = some (.cells cs 70 (0, 0))) := Lib.hid fun cs => by
    have := heap_alloc_new (w.alloc (.cells #[.int .i64 4, .int .i64 i0, .int .u64 u0, .string t0, .slice aN E.length cN, .slice (some ⟨g, 0, none⟩) E.length cK, .pointer f0, .int .i64 h0] 70)) (.cells cs 70)
    simpa using this
  have HBL : Hid (∀ cs, Below w.heap.size w ((w.alloc (.cells #[.int .i64 4, .int .i64 i0, .int .u64 u0, .string t0, .slice aN E.length cN, .slice (some ⟨g, 0, none⟩) E.length cK, .pointer f0, .int .i64 h0] 70)).alloc (.cells cs 70))) := Lib.hid fun cs => ((Below.refl _ _).alloc (Nat.le_refl _) _).alloc (by simp) _
  have b0 : ((w.alloc (.cells #[.int .i64 4, .int .i64 i0, .int .u64 u0, .string t0, .slice aN E.length cN, .slice (some ⟨g, 0, none⟩) E.length cK, .pointer f0, .int .i64 h0] 70)).alloc (.cells #[.int .i64 0, .int .i64 0, .int .u64 0, .string ⟨#[]⟩, .slice none 0 0, .slice none 0 0, .pointer none, .int .i64 0] 70)).cell? ⟨w.heap.size, 0, none⟩ = some (.int .i64 4) := by rw [cell_of_row _ _ 0 _ 70 _ hB]; rfl
  have b4 : ((w.alloc (.cells #[.int .i64 4, .int .i64 i0, .int .u64 u0, .string t0, .slice aN E.length cN, .slice (some ⟨g, 0, none⟩) E.length cK, .pointer f0, .int .i64 h0] 70)).alloc (.cells #[.int .i64 0, .int .i64 0, .int .u64 0, .string ⟨#[]⟩, .slice none 0 0, .slice none 0 0, .pointer none, .int .i64 0] 70)).cell? ⟨w.heap.size, 4, none⟩ = some (.slice aN E.length cN) := by rw [cell_of_row _ _ 4 _ 70 _ hB]; rfl
  have b5 : ((w.alloc (.cells #[.int .i64 4, .int .i64 i0, .int .u64 u0, .string t0, .slice aN E.length cN, .slice (some ⟨g, 0, none⟩) E.length cK, .pointer f0, .int .i64 h0] 70)).alloc (.cells #[.int .i64 0, .int .i64 0, .int .u64 0, .string ⟨#[]⟩, .slice none 0 0, .slice none 0 0, .pointer none, .int .i64 0] 70)).cell? ⟨w.heap.size, 5, none⟩ = some (.slice (some ⟨g, 0, none⟩) E.length cK) := by rw [cell_of_row _ _ 5 _ 70 _ hB]; rfl
  have hat := get_at E x hR.rises k hg
  have hlt : lowP E x < E.length := (List.getElem?_eq_some_iff.1 hat).1
  have hlt2 : (lowP E x : Int) < E.length := by omega
  have hc : ∀ i u, k.cells[i]? = some u → ((w.alloc (.cells #[.int .i64 4, .int .i64 i0, .int .u64 u0, .string t0, .slice aN E.length cN, .slice (some ⟨g, 0, none⟩) E.length cK, .pointer f0, .int .i64 h0] 70)).alloc (.cells #[.int .i64 0, .int .i64 0, .int .u64 0, .string ⟨#[]⟩, .slice none 0 0, .slice none 0 0, .pointer none, .int .i64 0] 70)).cell? ⟨g, lowP E x * 8 + i, none⟩ = some u := fun i u hi => by
    rw [cell_of_row _ g _ _ 70 _ ((hb2 g hgl0).trans e3)]
    exact row_at e7 (cellE E _ _ i u hat hi)
  obtain ⟨kd, ki, kb, kt, na, nn, nc, ka, kn, kc, fp, hv⟩ := k
  have a0 : ((w.alloc (.cells #[.int .i64 4, .int .i64 i0, .int .u64 u0, .string t0, .slice aN E.length cN, .slice (some ⟨g, 0, none⟩) E.length cK, .pointer f0, .int .i64 h0] 70)).alloc (.cells #[.int .i64 0, .int .i64 0, .int .u64 0, .string ⟨#[]⟩, .slice none 0 0, .slice none 0 0, .pointer none, .int .i64 0] 70)).cell? ⟨g, lowP E x * 8, none⟩ = some (.int .i64 kd) := hc 0 _ rfl
  have a1 : ((w.alloc (.cells #[.int .i64 4, .int .i64 i0, .int .u64 u0, .string t0, .slice aN E.length cN, .slice (some ⟨g, 0, none⟩) E.length cK, .pointer f0, .int .i64 h0] 70)).alloc (.cells #[.int .i64 0, .int .i64 0, .int .u64 0, .string ⟨#[]⟩, .slice none 0 0, .slice none 0 0, .pointer none, .int .i64 0] 70)).cell? ⟨g, lowP E x * 8 + 1, none⟩ = some (.int .i64 ki) := hc 1 _ rfl
  have a2 : ((w.alloc (.cells #[.int .i64 4, .int .i64 i0, .int .u64 u0, .string t0, .slice aN E.length cN, .slice (some ⟨g, 0, none⟩) E.length cK, .pointer f0, .int .i64 h0] 70)).alloc (.cells #[.int .i64 0, .int .i64 0, .int .u64 0, .string ⟨#[]⟩, .slice none 0 0, .slice none 0 0, .pointer none, .int .i64 0] 70)).cell? ⟨g, lowP E x * 8 + 2, none⟩ = some (.int .u64 kb) := hc 2 _ rfl
  have a3 : ((w.alloc (.cells #[.int .i64 4, .int .i64 i0, .int .u64 u0, .string t0, .slice aN E.length cN, .slice (some ⟨g, 0, none⟩) E.length cK, .pointer f0, .int .i64 h0] 70)).alloc (.cells #[.int .i64 0, .int .i64 0, .int .u64 0, .string ⟨#[]⟩, .slice none 0 0, .slice none 0 0, .pointer none, .int .i64 0] 70)).cell? ⟨g, lowP E x * 8 + 3, none⟩ = some (.string kt) := hc 3 _ rfl
  have a4 : ((w.alloc (.cells #[.int .i64 4, .int .i64 i0, .int .u64 u0, .string t0, .slice aN E.length cN, .slice (some ⟨g, 0, none⟩) E.length cK, .pointer f0, .int .i64 h0] 70)).alloc (.cells #[.int .i64 0, .int .i64 0, .int .u64 0, .string ⟨#[]⟩, .slice none 0 0, .slice none 0 0, .pointer none, .int .i64 0] 70)).cell? ⟨g, lowP E x * 8 + 4, none⟩ = some (.slice na nn nc) := hc 4 _ rfl
  have a5 : ((w.alloc (.cells #[.int .i64 4, .int .i64 i0, .int .u64 u0, .string t0, .slice aN E.length cN, .slice (some ⟨g, 0, none⟩) E.length cK, .pointer f0, .int .i64 h0] 70)).alloc (.cells #[.int .i64 0, .int .i64 0, .int .u64 0, .string ⟨#[]⟩, .slice none 0 0, .slice none 0 0, .pointer none, .int .i64 0] 70)).cell? ⟨g, lowP E x * 8 + 5, none⟩ = some (.slice ka kn kc) := hc 5 _ rfl
  have a6 : ((w.alloc (.cells #[.int .i64 4, .int .i64 i0, .int .u64 u0, .string t0, .slice aN E.length cN, .slice (some ⟨g, 0, none⟩) E.length cK, .pointer f0, .int .i64 h0] 70)).alloc (.cells #[.int .i64 0, .int .i64 0, .int .u64 0, .string ⟨#[]⟩, .slice none 0 0, .slice none 0 0, .pointer none, .int .i64 0] 70)).cell? ⟨g, lowP E x * 8 + 6, none⟩ = some (.pointer fp) := hc 6 _ rfl
  have a7 : ((w.alloc (.cells #[.int .i64 4, .int .i64 i0, .int .u64 u0, .string t0, .slice aN E.length cN, .slice (some ⟨g, 0, none⟩) E.length cK, .pointer f0, .int .i64 h0] 70)).alloc (.cells #[.int .i64 0, .int .i64 0, .int .u64 0, .string ⟨#[]⟩, .slice none 0 0, .slice none 0 0, .pointer none, .int .i64 0] 70)).cell? ⟨g, lowP E x * 8 + 7, none⟩ = some (.int .i64 hv) := hc 7 _ rfl
  have hgl : g ≠ w.heap.size + 1 := by omega
  generalize lowP E x = p at *
  generalize E.length = n at *
  clear hat hc e3 e7 hR hR2 hbs hB hb2 hg
  go_enter Tryz.func60, Tryz.ntmps60
  go_wp2_with (go_at_call 65; refine HBS.out.mono ?_; rintro e w' ⟨rfl, rfl⟩)
  (try simp only [Exit.inBlock, Exit.then])
  refine bodyPost_ret (v := .tuple #[.agg #[.int .i64 kd, .int .i64 ki, .int .u64 kb, .string kt, .slice na nn nc, .slice ka kn kc, .pointer fp, .int .i64 hv], .bool true]) ?_ rfl ?_
  · refine results_28' (fn := Tryz.f60) (p := 4) (u := 5) rfl _ _ (w.heap.size + 1) #[.int .i64 kd, .int .i64 ki, .int .u64 kb, .string kt, .slice na nn nc, .slice ka kn kc, .pointer fp, .int .i64 hv] ?_ ?_ rfl
    · rfl
    · exact HR.out _
  · exact ⟨rfl, HBL.out _⟩
set_option maxHeartbeats 1000000 in
theorem field_miss (w : World) (base : Nat) (i0 u0 h0 : Int) (t0 : ByteArray) (f0 : Option Addr) (aN aK : Option Addr) (cN cK n : Nat) (E : List Ent) (x : ByteArray) (hn : n = E.length) (hn2 : n ≤ 1000) (hR : RecOf w base aN cN aK cK E) (hg : getE E x = none) :
    Calls Tryz.prog 60 #[.agg #[.int .i64 4, .int .i64 i0, .int .u64 u0, .string t0, .slice aN n cN, .slice aK n cK, .pointer f0, .int .i64 h0], .string x] w fun e w' => e = .returned (.tuple #[iVal 0, .bool false]) ∧ Below w.heap.size w w' := by
  subst hn
  have hb2 : ∀ k, k < w.heap.size → ((w.alloc (.cells #[.int .i64 4, .int .i64 i0, .int .u64 u0, .string t0, .slice aN E.length cN, .slice aK E.length cK, .pointer f0, .int .i64 h0] 70)).alloc (.cells #[.int .i64 0, .int .i64 0, .int .u64 0, .string ⟨#[]⟩, .slice none 0 0, .slice none 0 0, .pointer none, .int .i64 0] 70)).heap[k]? = w.heap[k]? := fun k hk => by rw [Below.heap_alloc _ _ _ (by simp; omega), Below.heap_alloc _ _ _ hk]
  have hR2 := hR.on hb2
  have hbs := bs_own ((w.alloc (.cells #[.int .i64 4, .int .i64 i0, .int .u64 u0, .string t0, .slice aN E.length cN, .slice aK E.length cK, .pointer f0, .int .i64 h0] 70)).alloc (.cells #[.int .i64 0, .int .i64 0, .int .u64 0, .string ⟨#[]⟩, .slice none 0 0, .slice none 0 0, .pointer none, .int .i64 0] 70)) base E.length (lowP E x) (names E) x _ (by simp [names]) (by omega) hR2.nm (lowP_le E x) (Lib.hid (part_of E x hR.rises))
  rw [at_of E x hR.rises, hg] at hbs
  have HBS := Lib.hid hbs
  have hB : ((w.alloc (.cells #[.int .i64 4, .int .i64 i0, .int .u64 u0, .string t0, .slice aN E.length cN, .slice aK E.length cK, .pointer f0, .int .i64 h0] 70)).alloc (.cells #[.int .i64 0, .int .i64 0, .int .u64 0, .string ⟨#[]⟩, .slice none 0 0, .slice none 0 0, .pointer none, .int .i64 0] 70)).heap[w.heap.size]? = some (.cells #[.int .i64 4, .int .i64 i0, .int .u64 u0, .string t0, .slice aN E.length cN, .slice aK E.length cK, .pointer f0, .int .i64 h0] 70 (0, 0)) := by rw [Below.heap_alloc _ _ _ (by simp)]; exact heap_alloc_new w _
  have HR : Hid (∀ cs, ((w.alloc (.cells #[.int .i64 4, .int .i64 i0, .int .u64 u0, .string t0, .slice aN E.length cN, .slice aK E.length cK, .pointer f0, .int .i64 h0] 70)).alloc (.cells cs 70)).heap[w.heap.size + 1]? = some (.cells cs 70 (0, 0))) := Lib.hid fun cs => by
    have := heap_alloc_new (w.alloc (.cells #[.int .i64 4, .int .i64 i0, .int .u64 u0, .string t0, .slice aN E.length cN, .slice aK E.length cK, .pointer f0, .int .i64 h0] 70)) (.cells cs 70)
    simpa using this
  have HBL : Hid (∀ cs, Below w.heap.size w ((w.alloc (.cells #[.int .i64 4, .int .i64 i0, .int .u64 u0, .string t0, .slice aN E.length cN, .slice aK E.length cK, .pointer f0, .int .i64 h0] 70)).alloc (.cells cs 70))) := Lib.hid fun cs => ((Below.refl _ _).alloc (Nat.le_refl _) _).alloc (by simp) _
  have b0 : ((w.alloc (.cells #[.int .i64 4, .int .i64 i0, .int .u64 u0, .string t0, .slice aN E.length cN, .slice aK E.length cK, .pointer f0, .int .i64 h0] 70)).alloc (.cells #[.int .i64 0, .int .i64 0, .int .u64 0, .string ⟨#[]⟩, .slice none 0 0, .slice none 0 0, .pointer none, .int .i64 0] 70)).cell? ⟨w.heap.size, 0, none⟩ = some (.int .i64 4) := by rw [cell_of_row _ _ 0 _ 70 _ hB]; rfl
  have b4 : ((w.alloc (.cells #[.int .i64 4, .int .i64 i0, .int .u64 u0, .string t0, .slice aN E.length cN, .slice aK E.length cK, .pointer f0, .int .i64 h0] 70)).alloc (.cells #[.int .i64 0, .int .i64 0, .int .u64 0, .string ⟨#[]⟩, .slice none 0 0, .slice none 0 0, .pointer none, .int .i64 0] 70)).cell? ⟨w.heap.size, 4, none⟩ = some (.slice aN E.length cN) := by rw [cell_of_row _ _ 4 _ 70 _ hB]; rfl
  have b5 : ((w.alloc (.cells #[.int .i64 4, .int .i64 i0, .int .u64 u0, .string t0, .slice aN E.length cN, .slice aK E.length cK, .pointer f0, .int .i64 h0] 70)).alloc (.cells #[.int .i64 0, .int .i64 0, .int .u64 0, .string ⟨#[]⟩, .slice none 0 0, .slice none 0 0, .pointer none, .int .i64 0] 70)).cell? ⟨w.heap.size, 5, none⟩ = some (.slice aK E.length cK) := by rw [cell_of_row _ _ 5 _ 70 _ hB]; rfl
  generalize lowP E x = p at *
  generalize E.length = n at *
  clear hR hR2 hbs hB hb2 hg
  go_enter Tryz.func60, Tryz.ntmps60
  go_wp2_with (go_at_call 65; refine HBS.out.mono ?_; rintro e w' ⟨rfl, rfl⟩)
  (try simp only [Exit.inBlock, Exit.then])
  refine bodyPost_ret (v := .tuple #[.agg #[.int .i64 0, .int .i64 0, .int .u64 0, .string ⟨#[]⟩, .slice none 0 0, .slice none 0 0, .pointer none, .int .i64 0], .bool false]) ?_ rfl ?_
  · refine results_28' (fn := Tryz.f60) (p := 4) (u := 5) rfl _ _ (w.heap.size + 1) #[.int .i64 0, .int .i64 0, .int .u64 0, .string ⟨#[]⟩, .slice none 0 0, .slice none 0 0, .pointer none, .int .i64 0] ?_ ?_ rfl
    · rfl
    · exact HR.out _
  · exact ⟨rfl, HBL.out _⟩
theorem field_tag (w : World) (x : ByteArray) : Calls Tryz.prog 60 #[.agg #[.int .i64 5, .int .i64 0, .int .u64 0, .string ⟨#[]⟩, .slice none 0 0, .slice none 0 0, .pointer none, .int .i64 0], .string x] w fun e w' => e = .returned (.tuple #[iVal 0, .bool false]) ∧ Below w.heap.size w w' := by
  have HR : Hid (∀ cs, ((w.alloc (.cells #[.int .i64 5, .int .i64 0, .int .u64 0, .string ⟨#[]⟩, .slice none 0 0, .slice none 0 0, .pointer none, .int .i64 0] 70)).alloc (.cells cs 70)).heap[w.heap.size + 1]? = some (.cells cs 70 (0, 0))) := Lib.hid fun cs => by
    have := heap_alloc_new (w.alloc (.cells #[.int .i64 5, .int .i64 0, .int .u64 0, .string ⟨#[]⟩, .slice none 0 0, .slice none 0 0, .pointer none, .int .i64 0] 70)) (.cells cs 70)
    simpa using this
  have HBL : Hid (∀ cs, Below w.heap.size w ((w.alloc (.cells #[.int .i64 5, .int .i64 0, .int .u64 0, .string ⟨#[]⟩, .slice none 0 0, .slice none 0 0, .pointer none, .int .i64 0] 70)).alloc (.cells cs 70))) := Lib.hid fun cs => ((Below.refl _ _).alloc (Nat.le_refl _) _).alloc (by simp) _
  go_enter Tryz.func60, Tryz.ntmps60
  go_wp2_with (go_at_call 65; refine (bs_nil _ _).mono ?_; rintro e w' ⟨rfl, rfl⟩)
  (try simp only [Exit.inBlock, Exit.then])
  refine bodyPost_ret (v := .tuple #[.agg #[.int .i64 0, .int .i64 0, .int .u64 0, .string ⟨#[]⟩, .slice none 0 0, .slice none 0 0, .pointer none, .int .i64 0], .bool false]) ?_ rfl ?_
  · refine results_28' (fn := Tryz.f60) (p := 4) (u := 5) rfl _ _ (w.heap.size + 1) #[.int .i64 0, .int .i64 0, .int .u64 0, .string ⟨#[]⟩, .slice none 0 0, .slice none 0 0, .pointer none, .int .i64 0] ?_ ?_ rfl
    · rfl
    · exact HR.out _
  · exact ⟨rfl, HBL.out _⟩
end Go.Proofs.YtoakfninndkgaaaGreatDoor.Val
set_option linter.unusedVariables false
namespace Go.Proofs.YtoakfninndkgaaaGreatDoor.Val
open Go.RowKit
def kInt (i : Int) : Kid := ⟨0, i, 0, ⟨#[]⟩, none, 0, 0, none, 0, 0, none, 0⟩
def kOf : Option Kid → Int
  | some k => k.ki
  | none => 0
abbrev keyS (x : ByteArray) : Lit := .string x.data.toList
theorem keyS_inj {x y : ByteArray} (h : keyS x = keyS y) : x = y := by
  have := Lit.string.inj h
  exact ByteArray.ext (Array.toList_inj.1 this)
theorem keyS_is (x : ByteArray) : WideAt.IsKeyLit (keyS x) := by
  simp [WideAt.IsKeyLit]
/-- the map holds the list. -/
structure MapE {H : Type} (D : DataW H) (E : List Ent) : Prop where
  tidy : Maps.Tidy D
  has : ∀ x, Maps.has D (keyS x) = (getE E x).isSome
  at_ : ∀ x, D.atKey (keyS x) (.lit (.int .i64 0)) = .lit (.int .i64 (kOf (getE E x)))
  size : Maps.size D = E.length
theorem MapE.nil {H : Type} : MapE (H := H) (.map []) [] := ⟨Maps.tidy_empty, fun _ => rfl, fun _ => rfl, rfl⟩

theorem at_of' (E : List Ent) (x : ByteArray) (h : Rises E) : isAt (names E) (lowP E x) x = (getE E x).isSome := by
  cases hg : getE E x with
  | some k => exact (low_low E x h).1 ⟨k, hg⟩
  | none =>
    cases ha : isAt (names E) (lowP E x) x with
    | false => rfl
    | true => obtain ⟨k, hk⟩ := (low_low E x h).2 ha; rw [hg] at hk; cases hk
theorem MapE.put {H : Type} {D : DataW H} {E : List Ent} (h : MapE D E) (hr : Rises E) (x : ByteArray) (i : Int) (hx : getE E x = none) : MapE (D.put (keyS x) (.lit (.int .i64 i))) (insE E x (kInt i)) where
  tidy := h.tidy.put (keyS_is x) _
  has y := by
    rw [getE_ins E x y (kInt i) hr]
    by_cases hxy : x = y
    · subst hxy
      rw [Maps.has_put_same h.tidy.isMap (keyS_is x), hx]
      simp
    · rw [Maps.has_put_other (fun e => hxy (keyS_inj e).symm), h.has y]
      cases getE E y <;> simp [hxy]
  at_ y := by
    rw [getE_ins E x y (kInt i) hr]
    by_cases hxy : x = y
    · subst hxy
      rw [Maps.atKey_put_same h.tidy.isMap (keyS_is x), hx]
      simp [kOf, kInt]
    · rw [Maps.atKey_put_other (fun e => hxy (keyS_inj e).symm), h.at_ y]
      cases getE E y <;> simp [hxy]
  size := by
    rw [Maps.size_put h.tidy, h.has x, hx, h.size]
    have := (insE_new E x (kInt i) (by rw [at_of' E x hr, hx]; rfl)).2.2
    simp [this]
theorem upE_rises (P : List Ent) (j : Nat) : Rises (upE P j) := by
  unfold upE
  have : ∀ (l : List Ent) (E : List Ent), Rises E → Rises (l.foldl (fun E e => insE E e.1 e.2) E) := by
    intro l
    induction l with
    | nil => exact fun E h => h
    | cons e l ih => exact fun E h => ih _ (insE_rises E e.1 e.2 h)
  exact this _ _ True.intro
theorem MapE.step {H : Type} {D : DataW H} {P : List Ent} {j : Nat} (h : MapE D (upE P j)) (x : ByteArray) (i : Int) (hx : P[j]? = some (x, kInt i)) : MapE (if (getE (upE P j) x).isSome then D else D.put (keyS x) (.lit (.int .i64 i))) (upE P (j + 1)) := by
  rw [upE_succ P j _ hx]
  cases hg : getE (upE P j) x with
  | some k =>
    have : insE (upE P j) x (kInt i) = upE P j := insE_old _ x _ (by rw [at_of' _ x (upE_rises P j), hg]; rfl)
    simp only [this]
    exact h
  | none => exact h.put (upE_rises P j) x i hg
theorem upE_past (P : List Ent) (j : Nat) (h : P.length ≤ j) : upE P j = upE P P.length := by
  unfold upE
  rw [List.take_of_length_le h, List.take_of_length_le (Nat.le_refl _)]
theorem getE_at (E : List Ent) (h : Rises E) (j : Nat) (e : Ent) (he : E[j]? = some e) : getE E e.1 = some e.2 := by
  induction E generalizing j with
  | nil => simp at he
  | cons f l ih =>
    rw [getE_cons]
    cases j with
    | zero =>
      obtain rfl : f = e := by simpa using he
      rw [if_pos rfl]
    | succ j =>
      have he' : l[j]? = some e := by simpa using he
      have hb := h.1 e (List.mem_of_getElem? he')
      rw [if_neg (fun e' => by rw [e', bl_irrefl] at hb; cases hb)]
      exact ih h.2 j he'
theorem rises_adj (E : List Ent) (h : Rises E) (j : Nat) (e f : Ent) (he : E[j]? = some e) (hf : E[j + 1]? = some f) : bl e.1 f.1 = true := by
  induction E generalizing j with
  | nil => simp at he
  | cons g l ih =>
    cases j with
    | zero =>
      obtain rfl : g = e := by simpa using he
      exact h.1 f (List.mem_of_getElem? (show l[0]? = some f by simpa using hf))
    | succ j => exact ih h.2 j (by simpa using he) (by simpa using hf)
end Go.Proofs.YtoakfninndkgaaaGreatDoor.Val
set_option linter.unusedVariables false
namespace Go.Proofs.YtoakfninndkgaaaGreatDoor.Val
open Go.RowKit
def kRow (IS : List Int) : List Ent := IS.map fun i => ((⟨#[]⟩ : ByteArray), kInt i)
def zipP (NS : List ByteArray) (IS : List Int) : List Ent := (NS.zip IS).map fun p => (p.1, kInt p.2)
def NamesAt (w : World) (an : Option Addr) (n : Nat) (NS : List ByteArray) : Prop := n = NS.length ∧ (n = 0 ∨ ∃ gn on, an = some ⟨gn, on, none⟩ ∧ gn < w.heap.size ∧ ∀ i s, NS[i]? = some s → w.cell? ⟨gn, on + i, none⟩ = some (.string s))
def RecPost (w : World) (E : List Ent) (e : Ending) (w' : World) : Prop := ∃ (aN : Option Addr) (cN : Nat) (aK : Option Addr) (cK : Nat) (H : Int), e = .returned (.agg #[.int .i64 4, .int .i64 0, .int .u64 0, .string ⟨#[]⟩, .slice aN E.length cN, .slice aK E.length cK, .pointer none, .int .i64 H]) ∧ RecOf w' w.heap.size aN cN aK cK E ∧ Below w.heap.size w w'
theorem zipP_at (NS : List ByteArray) (IS : List Int) (j : Nat) (s : ByteArray) (i : Int) (hs : NS[j]? = some s) (hi : IS[j]? = some i) : (zipP NS IS)[j]? = some (s, kInt i) := by
  unfold zipP
  rw [List.getElem?_map, show (NS.zip IS)[j]? = some (s, i) from List.getElem?_zip_eq_some.2 ⟨hs, hi⟩]
  rfl
theorem zipP_inv (NS : List ByteArray) (IS : List Int) (j : Nat) (e : Ent) (h : (zipP NS IS)[j]? = some e) : ∃ s i, NS[j]? = some s ∧ IS[j]? = some i ∧ e = (s, kInt i) := by
  unfold zipP at h
  rw [List.getElem?_map] at h
  cases hz : (NS.zip IS)[j]? with
  | none => rw [hz] at h; cases h
  | some p =>
    obtain ⟨s, i⟩ := p
    rw [hz] at h
    obtain ⟨h1, h2⟩ := List.getElem?_zip_eq_some.1 hz
    exact ⟨s, i, h1, h2, (Option.some.inj h).symm⟩
theorem zipP_len (NS : List ByteArray) (IS : List Int) : (zipP NS IS).length = min NS.length IS.length := by simp [zipP]
theorem rec_any (w : World) (base : Nat) (an : Option Addr) (n cn : Nat) (NS : List ByteArray) (vk : Value) (IS : List Int) (hN : NamesAt w an n NS) (hcn : n ≤ cn) (h20 : n ≤ 20) (hk20 : IS.length ≤ 20)
    (hk : w.ownsRow base 70 8 vk IS.length (cells (kRow IS))) (hnil : IS = [] → vk = .slice none 0 0) :
    Calls Tryz.prog 48 #[.slice an n cn, vk] w (RecPost w (upE (zipP NS IS) (zipP NS IS).length)) := by
  obtain ⟨hn, hN⟩ := hN
  have hlen := zipP_len NS IS
  have hW : ∀ e ∈ zipP NS IS, Weighs w e.2.val ((fun _ => 1 : Kid → Nat) e.2) := fun e he => by
    obtain ⟨j, hj⟩ := List.getElem?_of_mem he
    obtain ⟨s, i, -, -, rfl⟩ := zipP_inv NS IS j e hj
    exact kid_one w i
  have hB : ∀ e ∈ zipP NS IS, ((fun _ => 1 : Kid → Nat) e.2) ≤ 100000 := fun e _ => by simp
  rcases hk.2 with ⟨rfl, h0⟩ | ⟨g, cap, cur, rfl, e2, e3, e4, e5, e6, e7⟩
  · refine (record_C w an 0 0 n cn 0 0 0 0 (zipP NS IS) (fun _ => 1) (by omega) (by omega) ⟨fun j e h => ?_, fun j e i u h => ?_⟩ (by omega) (by omega) hcn (by omega) (by omega) rfl True.intro (by omega) (by omega) hW hB).mono ?_
    · obtain ⟨s, i, -, h2, -⟩ := zipP_inv NS IS j e h
      have := (List.getElem?_eq_some_iff.1 h2).1
      omega
    · obtain ⟨s, i, -, h2, -⟩ := zipP_inv NS IS j e h
      have := (List.getElem?_eq_some_iff.1 h2).1
      omega
    · rintro e w' ⟨aN, cN, aK, cK, rfl, r1, r2, r3⟩
      rw [show (zipP NS IS).length = 0 by omega]
      exact ⟨aN, cN, aK, cK, _, rfl, ⟨r1, r2, upE_rises _ _⟩, r3⟩
  · unfold maxLen at e5
    have hkc : ∀ j s i, NS[j]? = some s → IS[j]? = some i → ∀ p u, (kInt i).cells[p]? = some u → w.cell? ⟨g, j * 8 + p, none⟩ = some u := fun j s i _ hi p u hu => by
      rw [cell_of_row w g _ _ 70 _ e3]
      exact row_at e7 (cellE (kRow IS) j (⟨#[]⟩, kInt i) p u (by unfold kRow; rw [List.getElem?_map, hi]; rfl) hu)
    have hgs := (Array.getElem?_eq_some_iff.1 e3).1
    rcases hN with rfl | ⟨gn, on, rfl, hgn, hc⟩
    · have hlk : 0 < IS.length := by
        rcases Nat.eq_zero_or_pos IS.length with h | h
        · have := hnil (List.eq_nil_of_length_eq_zero h); cases this
        · exact h
      refine (record_D w an 0 0 0 cn g IS.length cap 0 (zipP NS IS) (fun _ => 1) (by omega) (by omega) ⟨fun j e h => ?_, fun j e i u h => ?_⟩ (by omega) (by omega) hcn e4 e5 rfl hlk (by omega) (by omega) hW hB).mono ?_
      · obtain ⟨s, i, h1, h2, -⟩ := zipP_inv NS IS j e h
        have := (List.getElem?_eq_some_iff.1 h1).1
        omega
      · obtain ⟨s, i, h1, h2, -⟩ := zipP_inv NS IS j e h
        have := (List.getElem?_eq_some_iff.1 h1).1
        omega
      · rintro e w' ⟨aN, cN, aK, cK, rfl, r1, r2, r3⟩
        rw [show (zipP NS IS).length = 0 by omega]
        exact ⟨aN, cN, aK, cK, _, rfl, ⟨r1, r2, upE_rises _ _⟩, r3⟩
    · have hP : PairsIn w gn on g (zipP NS IS) := ⟨fun j e h => by
        obtain ⟨s, i, h1, h2, rfl⟩ := zipP_inv NS IS j e h
        exact hc j s h1, fun j e p u h hu => by
        obtain ⟨s, i, h1, h2, rfl⟩ := zipP_inv NS IS j e h
        exact hkc j s i h1 h2 p u hu⟩
      rcases Nat.lt_or_ge n IS.length with hlt | hge
      · refine (record_B w gn on n cn g IS.length cap n (zipP NS IS) (fun _ => 1) (by omega) (by omega) hP (by omega) (by omega) hcn e4 e5 hlt rfl (fun _ => hgn) (fun _ => hgs) hW hB).mono ?_
        rintro e w' ⟨aN, cN, aK, cK, rfl, r1, r2, r3⟩
        rw [show (zipP NS IS).length = n by omega]
        exact ⟨aN, cN, aK, cK, _, rfl, ⟨r1, r2, upE_rises _ _⟩, r3⟩
      · refine (record_A w gn on n cn g IS.length cap IS.length (zipP NS IS) (fun _ => 1) (by omega) (by omega) hP (by omega) (by omega) hcn e4 e5 hge rfl (fun _ => hgn) (fun _ => hgs) hW hB).mono ?_
        rintro e w' ⟨aN, cN, aK, cK, rfl, r1, r2, r3⟩
        rw [show (zipP NS IS).length = IS.length by omega]
        exact ⟨aN, cN, aK, cK, _, rfl, ⟨r1, r2, upE_rises _ _⟩, r3⟩
end Go.Proofs.YtoakfninndkgaaaGreatDoor.Val
