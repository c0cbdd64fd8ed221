/- Walks: Text of the example; lives. -/
import Derived.Test.YtoakfninndkgaaaGreatDoorXRh
import Derived.Laws.BytesArg
set_option linter.unusedVariables false
namespace Go.Proofs.YtoakfninndkgaaaGreatDoor.Val
open Go.RowKit
theorem text_conv (w : World) (base : Nat) (v : Value) (l : List Int) (h : BOwn w base v l) : (convert 123 9 v).run Tryz.prog w = .ok (.string (strOfNums l)) w := by
  have hl := h.1
  rcases h.2 with ⟨rfl, h0⟩ | ⟨g, cap, cur, rfl, e2, e3, e4, e5, e6, e7⟩
  · obtain rfl : l = [] := List.length_eq_zero_iff.1 h0
    exact run_convert_bytes_nil w 123 5 Tryz.underlying123 Tryz.underlying5 0 0 9 Tryz.underlying9
  · refine run_convert_bytes_arg w 123 5 Tryz.underlying123 Tryz.underlying5 g 0 l.length cap l rfl (fun i hi => ?_) 9 Tryz.underlying9
    rw [Nat.zero_add, cell_of_row w g i _ 5 _ e3]
    refine row_at e7 ?_
    rw [List.getElem?_map, List.getElem?_eq_getElem hi]
    simp [List.getD, List.getElem?_eq_getElem hi]
theorem text_rec (w : World) (g1 c1 g2 c2 : Nat) (hr : RecIn w g1 g2) (h1 : 2 ≤ c1) (h2 : 2 ≤ c2) :
    Calls Tryz.prog 49 #[.agg #[.int .i64 4, .int .i64 0, .int .u64 0, .string ⟨#[]⟩, .slice (some ⟨g1, 0, none⟩) 2 c1, .slice (some ⟨g2, 0, none⟩) 2 c2, .pointer none, .int .i64 3]] w fun e w' => e = .returned (.string ⟨#[123, 97, 32, 61, 32, 50, 44, 32, 98, 32, 61, 32, 49, 125]⟩) ∧ Below w.heap.size w w' := by
  have hb : Below w.heap.size w (w.alloc (.cells #[.int .i64 4, .int .i64 0, .int .u64 0, .string ⟨#[]⟩, .slice (some ⟨g1, 0, none⟩) 2 c1, .slice (some ⟨g2, 0, none⟩) 2 c2, .pointer none, .int .i64 3] 70)) := (Below.refl _ _).alloc (Nat.le_refl _) _
  have HP := Lib.hid (put_rec _ g1 c1 g2 c2 (hr.below hb hr.l1 hr.l2) h1 h2)
  have HB := Lib.hid hb
  have hx := heap_alloc_new w (.cells #[.int .i64 4, .int .i64 0, .int .u64 0, .string ⟨#[]⟩, .slice (some ⟨g1, 0, none⟩) 2 c1, .slice (some ⟨g2, 0, none⟩) 2 c2, .pointer none, .int .i64 3] 70)
  clear hr hb h1 h2 hx
  go_enter Tryz.func49, Tryz.ntmps49
  go_wp2_with (go_at_call 58; refine HP.out.mono ?_; rintro e w' ⟨v', rfl, hO, hB⟩; have hcv := text_conv _ _ _ _ hO)
  go_ret
  exact ⟨rfl, HB.out.trans (hB.mono HB.out.size)⟩
def kid1 : Kid := ⟨0, 1, 0, ⟨#[]⟩, none, 0, 0, none, 0, 0, none, 0⟩
def kid2 : Kid := ⟨0, 2, 0, ⟨#[]⟩, none, 0, 0, none, 0, 0, none, 0⟩
def exP : List Ent := [(⟨#[98]⟩, kid1), (⟨#[97]⟩, kid2)]
theorem exUp : upE exP 2 = [(⟨#[97]⟩, kid2), (⟨#[98]⟩, kid1)] := by
  have h1 : bl ⟨#[98]⟩ ⟨#[97]⟩ = false := by unfold bl; rw [Lib.toList_data, Lib.toList_data]; decide
  have h2 : (⟨#[98]⟩ : ByteArray) ≠ ⟨#[97]⟩ := by decide
  have : upE exP 2 = insE (insE [] ⟨#[98]⟩ kid1) ⟨#[97]⟩ kid2 := rfl
  rw [this]
  show insE [(⟨#[98]⟩, kid1)] ⟨#[97]⟩ kid2 = _
  rw [insE_cons, h1, if_neg (by decide), if_neg h2]
theorem kid_one (w : World) (i : Int) : Weighs w (Kid.val ⟨0, i, 0, ⟨#[]⟩, none, 0, 0, none, 0, 0, none, 0⟩) 1 := weigh_leaf w 0 _ _ _ _ ⟨#[]⟩ (by decide) (Nat.zero_le _)
theorem lives_true (w : World) : Calls Tryz.prog 29 #[] w fun e w' => e = .returned (.bool true) ∧ Below w.heap.size w w' := by
  have hb : Below w.heap.size w ((w.alloc (Obj.cells #[.string ⟨#[98]⟩, .string ⟨#[97]⟩] 9)).alloc (Obj.cells #[.int .i64 0, .int .i64 1, .int .u64 0, .string ⟨#[]⟩, .slice none 0 0, .slice none 0 0, .pointer none, .int .i64 0, .int .i64 0, .int .i64 2, .int .u64 0, .string ⟨#[]⟩, .slice none 0 0, .slice none 0 0, .pointer none, .int .i64 0] 70)) := ((Below.refl _ _).alloc (Nat.le_refl _) _).alloc (by simp) _
  have hA : ((w.alloc (Obj.cells #[.string ⟨#[98]⟩, .string ⟨#[97]⟩] 9)).alloc (Obj.cells #[.int .i64 0, .int .i64 1, .int .u64 0, .string ⟨#[]⟩, .slice none 0 0, .slice none 0 0, .pointer none, .int .i64 0, .int .i64 0, .int .i64 2, .int .u64 0, .string ⟨#[]⟩, .slice none 0 0, .slice none 0 0, .pointer none, .int .i64 0] 70)).heap[w.heap.size]? = some (.cells #[.string ⟨#[98]⟩, .string ⟨#[97]⟩] 9 (0, 0)) := by rw [Below.heap_alloc _ _ _ (by simp)]; exact heap_alloc_new w _
  have hB : ((w.alloc (Obj.cells #[.string ⟨#[98]⟩, .string ⟨#[97]⟩] 9)).alloc (Obj.cells #[.int .i64 0, .int .i64 1, .int .u64 0, .string ⟨#[]⟩, .slice none 0 0, .slice none 0 0, .pointer none, .int .i64 0, .int .i64 0, .int .i64 2, .int .u64 0, .string ⟨#[]⟩, .slice none 0 0, .slice none 0 0, .pointer none, .int .i64 0] 70)).heap[w.heap.size + 1]? = some (.cells #[.int .i64 0, .int .i64 1, .int .u64 0, .string ⟨#[]⟩, .slice none 0 0, .slice none 0 0, .pointer none, .int .i64 0, .int .i64 0, .int .i64 2, .int .u64 0, .string ⟨#[]⟩, .slice none 0 0, .slice none 0 0, .pointer none, .int .i64 0] 70 (0, 0)) := by
    have := heap_alloc_new (w.alloc (Obj.cells #[.string ⟨#[98]⟩, .string ⟨#[97]⟩] 9)) (Obj.cells #[.int .i64 0, .int .i64 1, .int .u64 0, .string ⟨#[]⟩, .slice none 0 0, .slice none 0 0, .pointer none, .int .i64 0, .int .i64 0, .int .i64 2, .int .u64 0, .string ⟨#[]⟩, .slice none 0 0, .slice none 0 0, .pointer none, .int .i64 0] 70)
    simpa using this
  have hP : PairsIn ((w.alloc (Obj.cells #[.string ⟨#[98]⟩, .string ⟨#[97]⟩] 9)).alloc (Obj.cells #[.int .i64 0, .int .i64 1, .int .u64 0, .string ⟨#[]⟩, .slice none 0 0, .slice none 0 0, .pointer none, .int .i64 0, .int .i64 0, .int .i64 2, .int .u64 0, .string ⟨#[]⟩, .slice none 0 0, .slice none 0 0, .pointer none, .int .i64 0] 70)) w.heap.size 0 (w.heap.size + 1) exP := {
    nm := fun j e he => by
      rw [cell_of_row _ _ _ _ 9 _ hA]
      match j, he with
      | 0, he => obtain rfl : _ = e := by simpa [exP] using he
                 rfl
      | 1, he => obtain rfl : _ = e := by simpa [exP] using he
                 rfl
      | j + 2, he => simp [exP] at he
    kc := fun j e i u he hi => by
      rw [cell_of_row _ _ _ _ 70 _ hB]
      have hi8 : i < 8 := (List.getElem?_eq_some_iff.1 hi).1
      match j, he with
      | 0, he => obtain rfl : _ = e := by simpa [exP] using he
                 rw [← hi]
                 match i, hi8 with
                 | 0, _ | 1, _ | 2, _ | 3, _ | 4, _ | 5, _ | 6, _ | 7, _ => rfl
      | 1, he => obtain rfl : _ = e := by simpa [exP] using he
                 rw [← hi]
                 match i, hi8 with
                 | 0, _ | 1, _ | 2, _ | 3, _ | 4, _ | 5, _ | 6, _ | 7, _ => rfl
      | j + 2, he => simp [exP] at he }
  have hW : ∀ e ∈ exP, Weighs ((w.alloc (Obj.cells #[.string ⟨#[98]⟩, .string ⟨#[97]⟩] 9)).alloc (Obj.cells #[.int .i64 0, .int .i64 1, .int .u64 0, .string ⟨#[]⟩, .slice none 0 0, .slice none 0 0, .pointer none, .int .i64 0, .int .i64 0, .int .i64 2, .int .u64 0, .string ⟨#[]⟩, .slice none 0 0, .slice none 0 0, .pointer none, .int .i64 0] 70)) e.2.val 1 := fun e he => by
    rcases List.mem_cons.1 he with rfl | he
    · exact kid_one _ 1
    · obtain rfl := List.mem_singleton.1 he
      exact kid_one _ 2
  have hrec : Calls Tryz.prog 48 #[.slice (some ⟨w.heap.size, 0, none⟩) 2 2, .slice (some ⟨w.heap.size + 1, 0, none⟩) 2 2] ((w.alloc (Obj.cells #[.string ⟨#[98]⟩, .string ⟨#[97]⟩] 9)).alloc (Obj.cells #[.int .i64 0, .int .i64 1, .int .u64 0, .string ⟨#[]⟩, .slice none 0 0, .slice none 0 0, .pointer none, .int .i64 0, .int .i64 0, .int .i64 2, .int .u64 0, .string ⟨#[]⟩, .slice none 0 0, .slice none 0 0, .pointer none, .int .i64 0] 70)) fun e w' => ∃ g1 c1 g2 c2, e = .returned (.agg #[.int .i64 4, .int .i64 0, .int .u64 0, .string ⟨#[]⟩, .slice (some ⟨g1, 0, none⟩) 2 c1, .slice (some ⟨g2, 0, none⟩) 2 c2, .pointer none, .int .i64 3]) ∧ Hid (RecIn w' g1 g2) ∧ Hid (2 ≤ c1) ∧ Hid (2 ≤ c2) ∧ Hid (Below w.heap.size w w') := by
    refine (record_A ((w.alloc (Obj.cells #[.string ⟨#[98]⟩, .string ⟨#[97]⟩] 9)).alloc (Obj.cells #[.int .i64 0, .int .i64 1, .int .u64 0, .string ⟨#[]⟩, .slice none 0 0, .slice none 0 0, .pointer none, .int .i64 0, .int .i64 0, .int .i64 2, .int .u64 0, .string ⟨#[]⟩, .slice none 0 0, .slice none 0 0, .pointer none, .int .i64 0] 70)) w.heap.size 0 2 2 (w.heap.size + 1) 2 2 2 exP (fun _ => 1) rfl (by decide) hP (by decide) (by decide) (by decide) (by decide) (by decide) (by decide) rfl (fun _ => by simp; omega) (fun _ => by simp) hW (fun _ _ => by decide)).mono ?_
    rintro e w3 ⟨aN, cN, aK, cK, rfl, r1, r2, r3⟩
    rw [exUp] at r1 r2 ⊢
    rcases r1.2 with ⟨-, h0⟩ | ⟨g1, c1, cur1, e1, e2, e3, e4, e5, e6, e7⟩
    · cases h0
    rcases r2.2 with ⟨-, h0⟩ | ⟨g2, c2, cur2, f1, f2, f3, f4, f5, f6, f7⟩
    · cases h0
    cases e1
    cases f1
    refine ⟨g1, cN, g2, cK, rfl, ?_, e4, f4, hb.trans (r3.mono hb.size)⟩
    have kc : ∀ (j : Nat) (u : Value), (cells [(⟨#[97]⟩, kid2), (⟨#[98]⟩, kid1)])[j]? = some u → w3.cell? ⟨g2, j, none⟩ = some u := fun j u hj => by
      rw [cell_of_row _ g2 j _ 70 _ f3]; exact row_at f7 hj
    exact {
      n0 := by rw [cell_of_row _ g1 0 _ 9 _ e3]; exact row_at e7 rfl
      n1 := by rw [cell_of_row _ g1 1 _ 9 _ e3]; exact row_at e7 rfl
      k0 := fun j u hj => by
        have hj8 : j < 8 := (List.getElem?_eq_some_iff.1 hj).1
        refine kc j u ?_
        rw [← hj]
        match j, hj8 with
        | 0, _ | 1, _ | 2, _ | 3, _ | 4, _ | 5, _ | 6, _ | 7, _ => rfl
      k1 := fun j u hj => by
        have hj8 : j < 8 := (List.getElem?_eq_some_iff.1 hj).1
        refine kc (8 + j) u ?_
        rw [← hj]
        match j, hj8 with
        | 0, _ | 1, _ | 2, _ | 3, _ | 4, _ | 5, _ | 6, _ | 7, _ => rfl
      l1 := (Array.getElem?_eq_some_iff.1 e3).1
      l2 := (Array.getElem?_eq_some_iff.1 f3).1 }
  have HR := Lib.hid hrec
  clear hb hA hB hP hW hrec
  go_enter Tryz.func29, Tryz.ntmps29
  go_upto_region 2 with (go_at_call 48; refine HR.out.mono ?_; rintro e w3 ⟨g1, c1, g2, c2, rfl, HI, HC1, HC2, HB⟩)
  have hb4 : Below w3.heap.size w3 (w3.alloc (.cells #[.int .i64 4, .int .i64 0, .int .u64 0, .string ⟨#[]⟩, .slice (some ⟨g1, 0, none⟩) 2 c1, .slice (some ⟨g2, 0, none⟩) 2 c2, .pointer none, .int .i64 3] 70)) := (Below.refl _ _).alloc (Nat.le_refl _) _
  have HT := Lib.hid (text_rec _ g1 c1 g2 c2 (HI.out.below hb4 HI.out.l1 HI.out.l2) HC1.out HC2.out)
  have HB4 := Lib.hid hb4
  clear hb4
  go_wp2_with (go_at_call 49; refine HT.out.mono ?_; rintro e w5 ⟨rfl, hB5⟩)
  go_ret
  exact ⟨by simp, HB.out.trans ((HB4.out.trans (hB5.mono HB4.out.size)).mono HB.out.size)⟩
end Go.Proofs.YtoakfninndkgaaaGreatDoor.Val
