/- Walks: ref09.full: a table of pairs. -/
import Derived.Test.YtoakfninndkgaaaGreatDoorNzC
set_option linter.unusedVariables false
namespace Go.Proofs.YtoakfninndkgaaaGreatDoor
open Go.RowKit
theorem Tryz.info4 : (Tryz.prog.info? 4).map (fun i => (i.zero, i.size, i.bytes)) = some (some (.bool false), 1, 1) := by kernel_rfl
theorem Tryz.info87 : (Tryz.prog.info? 87).map (fun i => (i.zero, i.size, i.bytes)) = some (some (.slice none 0 0), 1, 24) := by kernel_rfl
/-- the rows of a table: where they lie. -/
structure RowsIn (w : World) (lo hi n m : Nat) (R C : Nat → Nat) (f : Nat → Nat → Bool) : Prop where
  lt : ∀ i, i < n → lo ≤ R i ∧ R i < hi
  inj : ∀ i j, i < n → j < n → R i = R j → i = j
  cell : ∀ i, i < n → ∃ cur, w.heap[R i]? = some (.cells cur 4 (0, 0)) ∧ ∀ j, j < m → cur[j]? = some (.bool (f i j))
theorem RowsIn.on {w w' : World} {lo hi n m : Nat} {R C : Nat → Nat} {f : Nat → Nat → Bool} (h : RowsIn w lo hi n m R C f) (hb : ∀ k, lo ≤ k → k < hi → w'.heap[k]? = w.heap[k]?) : RowsIn w' lo hi n m R C f :=
  ⟨h.lt, h.inj, fun i hi' => by
    obtain ⟨cur, h1, h2⟩ := h.cell i hi'
    exact ⟨cur, (hb _ (h.lt i hi').1 (h.lt i hi').2).trans h1, h2⟩⟩
/-- the cells of the row of rows. -/
def rowsL (R C : Nat → Nat) (m : Nat) (n : Nat) : List Value := (List.range n).map fun i => Value.slice (some ⟨R i, 0, none⟩) m (C i)
structure Tab (w : World) (lo hi G c n m : Nat) (R C : Nat → Nat) (f : Nat → Nat → Bool) : Prop where
  rows : RowsIn w lo hi n m R C f
  own : w.ownsRow lo 87 1 (.slice (some ⟨G, 0, none⟩) n c) n (rowsL R C m n)
  lt : lo ≤ G ∧ G < hi
theorem rowsL_succ (R C : Nat → Nat) (m n r c : Nat) : rowsL (fun i => if i = n then r else R i) (fun i => if i = n then c else C i) m (n + 1) = rowsL R C m n ++ [.slice (some ⟨r, 0, none⟩) m c] := by
  unfold rowsL
  rw [List.range_succ, List.map_append]
  congr 1
  · refine List.map_congr_left (fun i hi => ?_)
    have := List.mem_range.1 hi
    simp [show i ≠ n by omega]
  · simp
theorem below_grown {B : Nat} {a w w' : World} {row : Option Nat} (hb : Below B a w) (hg : w.grownBy w' row) (hl : B ≤ w.heap.size) (hr : ∀ g, row = some g → B ≤ g) : Below B a w' :=
  ⟨hg.os.trans hb.os, hg.tape.trans hb.tape, hg.output.trans hb.output, Nat.le_trans hb.size hg.size, fun k hk => (hg.block k (Nat.lt_of_lt_of_le hk hl) (fun e => by have := hr k e.symm; omega)).trans (hb.block k hk)⟩
theorem full_step {wo wr w7 : World} {base i m G c g cap : Nat} {R C : Nat → Nat} {o : Obj} (hr : RowsIn wo base wo.heap.size i m R C (fun _ _ => true)) (ho : wo.ownsRow base 87 1 (.slice (some ⟨G, 0, none⟩) i c) i (rowsL R C m i)) (hb : Below wo.heap.size wo wr)
    (hin : wr.ownsRow wo.heap.size 4 1 (.slice (some ⟨g, 0, none⟩) m cap) m (List.replicate m (.bool true))) (hg : (wr.alloc o).grownBy w7 (some G)) (hbase : base ≤ wo.heap.size) :
    RowsIn w7 base w7.heap.size (i + 1) m (fun x => if x = i then g else R x) (fun x => if x = i then cap else C x) (fun _ _ => true) := by
  have hgl := hin.lt g rfl
  have hGl := ho.lt G rfl
  have hs : wr.heap.size + 1 ≤ w7.heap.size := by have := hg.size; simpa using this
  obtain ⟨curG, hcG⟩ : ∃ cur, wo.heap[G]? = some (.cells cur 87 (0, 0)) := by
    rcases ho.2 with ⟨h1, -⟩ | ⟨g', cap', cur, e1, e2, e3, e4⟩
    · cases h1
    · cases e1; exact ⟨cur, e3⟩
  have hne : ∀ x, x < i → R x ≠ G := fun x hx e => by
    obtain ⟨cur, h1, _⟩ := hr.cell x hx
    rw [e, hcG] at h1
    cases h1
  have hws := hb.size
  have keep : ∀ b, b < wr.heap.size → b ≠ G → w7.heap[b]? = wr.heap[b]? := fun b hlt hn => by
    rw [hg.block b (by simp; omega) (fun e => hn (Option.some.inj e)), Below.heap_alloc _ _ _ hlt]
  refine ⟨fun x hx => ?_, fun x y hx hy e => ?_, fun x hx => ?_⟩
  · by_cases he : x = i
    · simp only [he, if_true]; omega
    · simp only [he, if_false]
      have := hr.lt x (by omega)
      omega
  · by_cases he : x = i
    · by_cases hf : y = i
      · omega
      · simp only [he, if_true, hf, if_false] at e
        have := hr.lt y (by omega)
        omega
    · by_cases hf : y = i
      · simp only [he, if_false, hf, if_true] at e
        have := hr.lt x (by omega)
        omega
      · simp only [he, if_false, hf] at e
        exact hr.inj x y (by omega) (by omega) e
  · by_cases he : x = i
    · simp only [he, if_true]
      rcases hin.2 with ⟨h1, -⟩ | ⟨g', cap', cur, e1, e2, e3, e4, e5, e6, e7⟩
      · cases h1
      · cases e1
        exact ⟨cur, (keep g hgl.2 (by omega)).trans e3, fun j hj => row_at e7 (by rw [List.getElem?_replicate, if_pos hj])⟩
    · simp only [he, if_false]
      obtain ⟨cur, h1, h2⟩ := hr.cell x (by omega)
      have hl := hr.lt x (by omega)
      exact ⟨cur, by rw [keep _ (by omega) (hne x (by omega)), hb.block _ hl.2]; exact h1, h2⟩
def FullPost (w : World) (n m : Nat) (e : Ending) (w' : World) : Prop := ∃ (G c : Nat) (R C : Nat → Nat), e = .returned (.slice (some ⟨G, 0, none⟩) n c) ∧ Tab w' w.heap.size w'.heap.size G c n m R C (fun _ _ => true) ∧ Below w.heap.size w w'
set_option maxRecDepth 20000 in
set_option maxHeartbeats 4000000 in
theorem full_any (w : World) (n m : Nat) (hn : n ≤ 100000) (hm : m ≤ 100000) : Calls Tryz.prog 62 #[.int .i64 (n : Int), .int .i64 (m : Int)] w (FullPost w n m) := by
  obtain ⟨i4, p4, q41, q42, q43⟩ := info_parts Tryz.info4
  obtain ⟨i87, p87, q871, q872, q873⟩ := info_parts Tryz.info87
  have P4 := Lib.hid p4
  have Q41 := Lib.hid q41
  have Q42 := Lib.hid q42
  have Q43 := Lib.hid q43
  have P87 := Lib.hid p87
  have Q871 := Lib.hid q871
  have Q872 := Lib.hid q872
  have Q873 := Lib.hid q873
  have HOW : Hid ((w.alloc (.cells #[] 87)).ownsRow w.heap.size 87 1 (.slice (some ⟨w.heap.size, 0, none⟩) 0 0) 0 (rowsL (fun _ => 0) (fun _ => 0) m 0)) := Lib.hid (World.ownsRow_made w #[] 0 (Nat.le_refl _) (by unfold maxLen; omega) rfl)
  have HBA : Hid (Below w.heap.size w (w.alloc (.cells #[] 87))) := Lib.hid ((Below.refl _ _).alloc (Nat.le_refl _) _)
  clear p4 q41 q42 q43 p87 q871 q872 q873
  go_enter Tryz.func62, Tryz.ntmps62
  go_upto_region 2 with (fail)
  generalize (w.alloc (.cells #[] 87)) = w1 at *
  go_wp2
  go_loopw [6, 5] (fun s6 s5 wr => ∃ (i G c : Nat) (R C : Nat → Nat), s6 = .int .i64 (i : Int) ∧ s5 = .slice (some ⟨G, 0, none⟩) i c ∧ i ≤ n ∧ Hid (wr.ownsRow w.heap.size 87 1 (.slice (some ⟨G, 0, none⟩) i c) i (rowsL R C m i)) ∧ Hid (RowsIn wr w.heap.size wr.heap.size i m R C (fun _ _ => true)) ∧ Hid (Below w.heap.size w wr)) (fun s6 _ _ => n - (intOf s6).toNat)
  case atStart => exact ⟨0, w.heap.size, 0, fun _ => 0, fun _ => 0, rfl, rfl, Nat.zero_le _, HOW, Lib.hid ⟨fun i hi => by omega, fun i j hi => by omega, fun i hi => by omega⟩, HBA⟩
  case round =>
    obtain ⟨i, G, c, R, C, rfl, rfl, hi, HO, HR, HB⟩ := hrel
    obtain ⟨wo, rfl⟩ : ∃ wo : World, wo = wr := ⟨_, rfl⟩
    have hwi : IntKind.i64.wrap ((i : Int) + 1) = (i : Int) + 1 := by rw [IntKind.wrap_i64]; omega
    by_cases hin : i < n
    · have hin2 : (i : Int) < n := by omega
      have HI0 : Hid ((wo.alloc (.cells #[] 4)).ownsRow wo.heap.size 4 1 (.slice (some ⟨wo.heap.size, 0, none⟩) 0 0) 0 (List.replicate 0 (.bool true))) := Lib.hid (World.ownsRow_made wo #[] 0 (Nat.le_refl _) (by unfold maxLen; omega) rfl)
      have HBI0 : Hid (Below wo.heap.size wo (wo.alloc (.cells #[] 4))) := Lib.hid ((Below.refl _ _).alloc (Nat.le_refl _) _)
      go_upto_region 6 with (fail)
      generalize (wo.alloc (.cells #[] 4)) = w5 at *
      go_wp2
      go_loopw [7, 8] (fun s7 s8 wr => ∃ (k g cap : Nat), s8 = .int .i64 (k : Int) ∧ s7 = .slice (some ⟨g, 0, none⟩) k cap ∧ k ≤ m ∧ Hid (wr.ownsRow wo.heap.size 4 1 (.slice (some ⟨g, 0, none⟩) k cap) k (List.replicate k (.bool true))) ∧ Hid (Below wo.heap.size wo wr)) (fun _ s8 _ => m - (intOf s8).toNat)
      case atStart => exact ⟨0, wo.heap.size, 0, rfl, rfl, Nat.zero_le _, HI0, HBI0⟩
      case round =>
        obtain ⟨k, g, cap, rfl, rfl, hk, HIN, HBK⟩ := hrel
        have hwk : IntKind.i64.wrap ((k : Int) + 1) = (k : Int) + 1 := by rw [IntKind.wrap_i64]; omega
        by_cases hkm : k < m
        · have hkm2 : (k : Int) < m := by omega
          go_wp2_with (at_builtin; refine wpList_append_lies _ rfl _ _ 87 rfl wo.heap.size 4 i4 (.bool false) 1 1 Tryz.underlying87 P4.out Q41.out Q42.out Q43.out rfl (by decide) (.slice (some ⟨g, 0, none⟩) k cap) k (List.replicate k (.bool true)) rfl (HIN.out.alloc _) ⟨wr.heap.size, 0, none⟩ 1 1 [.bool true] rfl rfl (news_of (heap_alloc_new wr _)) (by simp [Value.oneCell']) (by decide) (by unfold maxLen; omega) (by omega) (by have h5 := HBK.out.size; simp; omega) _ rfl ?_; intro g' cap' w7 hown hgr hat hlt; have HOWN := Lib.hid hown; have HGR := Lib.hid hgr; have HAT := Lib.hid hat; clear hown hgr hat hlt)
          go_roundw
          case rel => exact ⟨k + 1, g', cap', by go_num, rfl, by omega, Lib.hid (by rw [List.replicate_succ']; exact HOWN.out), Lib.hid (below_grown (HBK.out.alloc HBK.out.size _) HGR.out (by have h5 := HBK.out.size; simp; omega) (fun g0 h0 => (HIN.out.lt g0 h0).1))⟩
          case measure => simp [intOf]; omega
        · have hkm2 : ¬ (k : Int) < m := by omega
          obtain rfl : k = m := by omega
          have HOO : Hid (wr.ownsRow w.heap.size 87 1 (.slice (some ⟨G, 0, none⟩) i c) i (rowsL R C k i)) := Lib.hid (HO.out.kept (row := none) ⟨HBK.out.os, HBK.out.tape, HBK.out.output, HBK.out.size, fun b hb _ => HBK.out.block b hb⟩ (Or.inr (by simp [Value.ownBlock])))
          go_wp2_with (at_builtin; refine wpList_append_lies _ rfl _ _ 88 rfl w.heap.size 87 i87 (.slice none 0 0) 1 24 Tryz.underlying88 P87.out Q871.out Q872.out Q873.out rfl (by decide) (.slice (some ⟨G, 0, none⟩) i c) i (rowsL R C k i) rfl (HOO.out.alloc _) ⟨wr.heap.size, 0, none⟩ 1 1 [.slice (some ⟨g, 0, none⟩) k cap] rfl rfl (news_of (heap_alloc_new wr _)) (by simp [Value.oneCell']) (by decide) (by unfold maxLen; omega) (by omega) (by have h5 := HBK.out.size; have h6 := HB.out.size; simp; omega) _ rfl ?_; intro G' c' w7 hown hgr hat hlt; have HOWN := Lib.hid hown; have HGR := Lib.hid hgr; have HAT := Lib.hid hat; clear hown hgr hat hlt)
          go_roundw
          case rel => exact ⟨i + 1, G', c', fun x => if x = i then g else R x, fun x => if x = i then cap else C x, by go_num, rfl, by omega, Lib.hid (by rw [rowsL_succ]; exact HOWN.out), Lib.hid (full_step HR.out HO.out HBK.out HIN.out HGR.out HB.out.size), Lib.hid (below_grown ((HB.out.trans (HBK.out.mono HB.out.size)).alloc (by have h5 := HBK.out.size; have h6 := HB.out.size; omega) _) HGR.out (by have h5 := HBK.out.size; have h6 := HB.out.size; simp; omega) (fun g0 h0 => (HO.out.lt g0 h0).1))⟩
          case measure => simp [intOf]; omega
    · have hin2 : ¬ (i : Int) < n := by omega
      obtain rfl : i = n := by omega
      go_wp2
      go_ret
      exact ⟨G, c, R, C, rfl, ⟨HR.out, HO.out, (HO.out.lt G rfl)⟩, HB.out⟩
end Go.Proofs.YtoakfninndkgaaaGreatDoor
