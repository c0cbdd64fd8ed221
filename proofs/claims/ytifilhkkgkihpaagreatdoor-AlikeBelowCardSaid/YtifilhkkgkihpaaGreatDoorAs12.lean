/- Walks: slices.Clone of ints and the clone of a head, with the row that they own. Plain: the worlds of arena.Graph. -/
import Derived.Test.YtifilhkkgkihpaaGreatDoorAs11
import Derived.Deep.RegionLaw
set_option linter.unusedSimpArgs false
set_option linter.unusedVariables false
set_option linter.unusedSimpArgs false
set_option linter.unusedVariables false
namespace Go.Proofs.YtifilhkkgkihpaaGreatDoor
open Go.RowKit
theorem own_ints {w : World} {base : Nat} {b : Option Addr} {n d : Nat} {KS : List Int} (h : w.ownsRow base 3 1 (.slice b n d) n (KS.map (Value.int .i64))) : IntsAt w b n KS := by
  have hl : n = KS.length := by have := h.1; simp at this; omega
  refine ⟨hl, ?_⟩
  rcases h.2 with ⟨_, h0⟩ | ⟨g, cap, cur, e', hb', hg', -⟩
  · exact .inl h0
  · have ea : b = some ⟨g, 0, none⟩ := by injection e'
    subst ea
    refine .inr ⟨g, 0, rfl, (Array.getElem?_eq_some_iff.1 hg').1, fun i s hs => ?_⟩
    have hil := (List.getElem?_eq_some_iff.1 hs).1
    rw [h.cellAt (0 + i) (by omega), Nat.zero_add, List.getElem?_map, hs]
    rfl
/-- a row as it lies elsewhere, of another base. -/
theorem own_move {w w' : World} {base base' : Nat} {e : TypeId} {size n : Nat} {v : Value} {xs : List Value} (h : w.ownsRow base e size v n xs) (hk : ∀ g, v.ownBlock = some g → w'.heap[g]? = w.heap[g]? ∧ base' ≤ g) : w'.ownsRow base' e size v n xs := by
  refine ⟨h.1, h.2.imp id ?_⟩
  rintro ⟨g, cap, cur, rfl, h1, h2, h3⟩
  obtain ⟨k1, k2⟩ := hk g rfl
  exact ⟨g, cap, cur, rfl, k2, k1.trans h2, h3⟩
set_option maxRecDepth 20000 in
set_option maxHeartbeats 2000000 in
theorem clone_45o (w : World) (a : Option Addr) (n c : Nat) (XS : List Int) (h : IntsAt w a n XS) (hc : a = none → c = 0) (hn : n ≤ 100000) :
    Calls Tryz.prog 67 #[.slice a n c] w fun e w' => ∃ a' c', e = .returned (.slice a' n c') ∧ w'.ownsRow w.heap.size 3 1 (.slice a' n c') n (XS.map (Value.int .i64)) ∧ (a' = none → c' = 0) ∧ (∀ ad, a' = some ad → w.heap.size ≤ ad.block) ∧ Below w.heap.size w w' := by
  cases a with
  | none =>
    have hc0 := hc rfl
    subst hc0
    have hn0 : n = 0 := h.2.elim id (fun ⟨g, o, e, _⟩ => by cases e)
    subst hn0
    have HH := Lib.hid h
    clear h
    have hq := Lib.run_eql_slice_nil (P := Tryz.prog) w 31 3 none 0 0 0 0 Tryz.underlying31
    simp only [Option.isNone] at hq
    go_enter Tryz.func67, Tryz.ntmps67
    go_wp2
    go_ret
    exact ⟨none, 0, rfl, (by have h0 : XS = [] := List.length_eq_zero_iff.1 HH.out.1.symm; rw [h0]; exact ⟨rfl, .inl ⟨rfl, rfl⟩⟩), fun _ => rfl, fun _ e => (by cases e), Below.refl _ _⟩
  | some ad =>
    obtain ⟨i0, hi, hz0, hz1, hz2⟩ := info_parts Tryz.info3b
    have HH := Lib.hid h
    have hown0 : (w.alloc (.cells #[] 3)).ownsRow w.heap.size 3 1 (.slice (some ⟨w.heap.size, 0, none⟩) 0 0) 0 [] := World.ownsRow_made w #[] 0 (Nat.le_refl _) (by decide) rfl
    have HO := Lib.hid hown0
    have HN : Hid (∀ j u, (XS.map (fun k => Value.int .i64 k))[j]? = some u → (w.alloc (.cells #[] 3)).cell? (ad.add j) = some u) := Lib.hid (by
      intro j u hj
      rcases h.2 with h0 | ⟨g, o, e, hg, hcell⟩
      · have := h.1
        rw [h0] at this
        have : XS = [] := List.length_eq_zero_iff.1 this.symm
        subst this
        simp at hj
      · cases e
        rw [List.getElem?_map] at hj
        cases hx : XS[j]? with
        | none => rw [hx] at hj; simp at hj
        | some x =>
          rw [hx] at hj
          simp only [Option.map_some, Option.some.injEq] at hj
          subst hj
          rw [show ((⟨g, o, none⟩ : Addr).add j) = ⟨g, o + j, none⟩ from by unfold Addr.add; split <;> simp_all, ← hcell j x hx]
          exact ((Below.refl w.heap.size w).alloc (Nat.le_refl _) _).cell (p := ⟨g, o + j, none⟩) hg)
    have HL : Hid ((XS.map (fun k => Value.int .i64 k)).length = n * 1) := Lib.hid (by rw [List.length_map, h.1, Nat.mul_one])
    have HONE : Hid (∀ u ∈ XS.map (fun k => Value.int .i64 k), u.oneCell' = true) := Lib.hid (by
      intro u hu
      obtain ⟨x, _, rfl⟩ := List.mem_map.1 hu
      rfl)
    clear h hown0
    have hq := Lib.run_eql_slice_nil (P := Tryz.prog) w 31 3 (some ad) n c 0 0 Tryz.underlying31
    simp only [Option.isNone] at hq
    go_enter Tryz.func67, Tryz.ntmps67
    go_wp2_with (at_builtin; refine wpList_append_own _ rfl _ _ 31 rfl w.heap.size 3 i0 (.int .i64 0) 1 8 Tryz.underlying31 hi hz0 hz1 hz2 rfl (by decide) _ 0 _ rfl HO.out ad n c (XS.map (fun k => Value.int .i64 k)) rfl HL.out HN.out HONE.out (by unfold maxLen; omega) (by omega) (by simp) ?_; intro v' w5 hown hgr hnil)
    go_ret
    obtain ⟨a', c', rfl⟩ := own_slice hown
    have hlen := HH.out.1
    rw [Nat.zero_add] at hown
    simp only [List.nil_append] at hown
    refine ⟨a', c', by simp, hown, ?_, fun ad' e => (hown.lt ad'.block (by rw [e]; rfl)).1, ((Below.refl _ _).alloc (Nat.le_refl _) _).grown hgr (by simp) (fun q hq => by cases hq; exact Nat.le_refl _)⟩
    · intro e
      subst e
      rcases hown.2 with ⟨e', _⟩ | ⟨g, cap, cur, e', _⟩
      · injection e'
      · injection e' with e1
        cases e1
end Go.Proofs.YtifilhkkgkihpaaGreatDoor
set_option linter.unusedSimpArgs false
set_option linter.unusedVariables false
namespace Go.Proofs.YtifilhkkgkihpaaGreatDoor
open Go.RowKit
def pcells (x : Hd) : List Value := [.int .i64 x.kd, .slice x.na x.nn x.nc, .slice x.ka x.kn x.kc, .bool x.op, .bool false, .int .i64 0, .slice none 0 0, .slice none 0 0, .map none]
/-- a head as the arena keeps it: its kids are told from the arena's start. -/
structure Moved (ln : Nat) (x y : Hd) : Prop where
  kd : y.kd = x.kd
  op : y.op = x.op
  ns : y.NS = x.NS
  ks : y.KS = x.KS.map (· + (ln : Int))
structure GSt (w2 wr : World) (A base : Nat) (own : Option Nat) (la' : Option Addr) (ln lc' : Nat) (most : Int) (ps : List Value) (OS YS : List Hd) : Prop where
  arena : ArenaAt wr A base la' (ln + YS.length) lc' most (ps ++ YS.flatMap pcells)
  le : YS.length ≤ OS.length
  rel : ∀ (i : Nat) x y, OS[i]? = some x → YS[i]? = some y → Moved ln x y
  heads : ∀ y ∈ YS, HdOk wr y ∧ (y.na = none → y.nc = 0) ∧ (y.ka = none → y.kc = 0)
  sep : ∀ y ∈ YS, ∀ ad, blkOf y ad → base ≤ ad.block ∧ ad.block < wr.heap.size ∧ (Value.slice la' (ln + YS.length) lc').ownBlock ≠ some ad.block
  ownp : ∀ g, (Value.slice la' (ln + YS.length) lc').ownBlock = some g → own = some g ∨ w2.heap.size ≤ g
  acts : Acts w2 wr A own
section
variable {w2 wr w' : World} {A base : Nat} {own : Option Nat} {la' : Option Addr} {ln lc' : Nat} {most : Int} {ps : List Value} {OS YS : List Hd}
theorem GSt.on (h : GSt w2 wr A base own la' ln lc' most ps OS YS) (hb : Below wr.heap.size wr w') : GSt w2 w' A base own la' ln lc' most ps OS YS where
  arena := h.arena.on hb
  le := h.le
  rel := h.rel
  heads y hy := ⟨(h.heads y hy).1.on hb, (h.heads y hy).2⟩
  sep y hy ad e := by
    obtain ⟨h1, h2, h3⟩ := h.sep y hy ad e
    exact ⟨h1, Nat.lt_of_lt_of_le h2 hb.size, h3⟩
  ownp := h.ownp
  acts := ⟨hb.os.trans h.acts.os, hb.tape.trans h.acts.tape, hb.output.trans h.acts.output, Nat.le_trans h.acts.size hb.size, fun b h1 h2 h3 => (hb.block b (Nat.lt_of_lt_of_le h1 h.acts.size)).trans (h.acts.block b h1 h2 h3)⟩
theorem GSt.step (h : GSt w2 wr A base own la' ln lc' most ps OS YS) {x y : Hd} (hx : OS[YS.length]? = some x) (hm : Moved ln x y) (hy : HdOk wr y) (hyn : (y.na = none → y.nc = 0) ∧ (y.ka = none → y.kc = 0)) (hys : ∀ ad, blkOf y ad → base ≤ ad.block ∧ ad.block < wr.heap.size ∧ (Value.slice la' (ln + YS.length) lc').ownBlock ≠ some ad.block) {wd : World} (hd : Below wr.heap.size wr wd) {o : Obj} {w6 : World} {g6 c6 : Nat}
    (hg : (wd.alloc o).grownBy w6 (Value.slice la' (ln + YS.length) lc').ownBlock) (hown : w6.ownsRow base 96 9 (.slice (some ⟨g6, 0, none⟩) (ln + YS.length + 1) c6) (ln + YS.length + 1) ((ps ++ YS.flatMap pcells) ++ pcells y)) (hw : (Value.slice la' (ln + YS.length) lc').ownBlock = some g6 ∨ g6 = (wd.alloc o).heap.size) :
    GSt w2 (w6.setCell ⟨A, 0, none⟩ (.slice (some ⟨g6, 0, none⟩) (ln + YS.length + 1) c6)) A base own (some ⟨g6, 0, none⟩) ln c6 most ps OS (YS ++ [y]) := by
  have hbd : Below wr.heap.size wr (wd.alloc o) := hd.alloc hd.size _
  obtain ⟨ha, hac⟩ := h.arena.acts hbd (Below.refl wr.heap.size wr) h.arena.le hown hg
  have hAlt := h.arena.lt
  have hle := h.arena.le
  have hkeep : ∀ b, b < wr.heap.size → b ≠ A → (Value.slice la' (ln + YS.length) lc').ownBlock ≠ some b → (w6.setCell ⟨A, 0, none⟩ (.slice (some ⟨g6, 0, none⟩) (ln + YS.length + 1) c6)).heap[b]? = wr.heap[b]? := hac.block
  have e1 : ln + (YS ++ [y]).length = ln + YS.length + 1 := by simp [Nat.add_assoc]
  have hgb : ∀ b, b < wr.heap.size → (Value.slice la' (ln + YS.length) lc').ownBlock ≠ some b → g6 ≠ b := fun b hb hne e => by
    rcases hw with r | r
    · exact hne (by rw [r, e])
    · have := hbd.size; omega
  have hhd : ∀ z : Hd, HdOk wr z → (∀ ad, blkOf z ad → base ≤ ad.block ∧ ad.block < wr.heap.size ∧ (Value.slice la' (ln + YS.length) lc').ownBlock ≠ some ad.block) → HdOk (w6.setCell ⟨A, 0, none⟩ (.slice (some ⟨g6, 0, none⟩) (ln + YS.length + 1) c6)) z := fun z hz hs =>
    hd_kept hz (fun ad e _ => by obtain ⟨s1, s2, s3⟩ := hs ad e; exact hkeep _ s2 (by omega) s3) hac.size
  exact {
    arena := by
      rw [e1, List.flatMap_append, ← List.append_assoc]
      simpa using ha
    le := by
      have := (List.getElem?_eq_some_iff.1 hx).1
      simp; omega
    rel := fun i x' y' h1 h2 => by
      rcases Nat.lt_or_ge i YS.length with h3 | h3
      · rw [List.getElem?_append_left h3] at h2
        exact h.rel i x' y' h1 h2
      · rw [List.getElem?_append_right h3] at h2
        have h4 : i - YS.length = 0 := by
          have := (List.getElem?_eq_some_iff.1 h2).1
          simp at this
          omega
        obtain rfl : i = YS.length := by omega
        rw [hx] at h1
        cases h1
        simp at h2
        rw [← h2]
        exact hm
    heads := fun z hz => by
      rcases List.mem_append.1 hz with r | r
      · exact ⟨hhd z (h.heads z r).1 (h.sep z r), (h.heads z r).2⟩
      · obtain rfl : z = y := by simpa using r
        exact ⟨hhd z hy hys, hyn⟩
    sep := fun z hz ad e => by
      have hall : base ≤ ad.block ∧ ad.block < wr.heap.size ∧ (Value.slice la' (ln + YS.length) lc').ownBlock ≠ some ad.block := by
        rcases List.mem_append.1 hz with r | r
        · exact h.sep z r ad e
        · obtain rfl : z = y := by simpa using r
          exact hys ad e
      obtain ⟨s1, s2, s3⟩ := hall
      exact ⟨s1, Nat.lt_of_lt_of_le s2 hac.size, fun e2 => hgb _ s2 s3 (by cases e2; rfl)⟩
    ownp := fun g e => by
      obtain rfl : g6 = g := by cases e; rfl
      rcases hw with r | r
      · exact h.ownp _ r
      · right
        have := hbd.size
        have := h.acts.size
        omega
    acts := ⟨hac.os.trans h.acts.os, hac.tape.trans h.acts.tape, hac.output.trans h.acts.output, Nat.le_trans h.acts.size hac.size, fun b h1 h2 h3 => by
      rw [hkeep b (Nat.lt_of_lt_of_le h1 h.acts.size) h2 (fun e => by
        rcases h.ownp b e with r | r
        · exact h3 r
        · omega)]
      exact h.acts.block b h1 h2 h3⟩ }
end
def shTo (ln : Nat) (KS : List Int) (j : Nat) : List Int := (KS.take j).map (· + (ln : Int)) ++ KS.drop j
theorem shTo_zero (ln : Nat) (KS : List Int) : shTo ln KS 0 = KS := by simp [shTo]
theorem shTo_all (ln : Nat) (KS : List Int) : shTo ln KS KS.length = KS.map (· + (ln : Int)) := by simp [shTo]
theorem shTo_at (ln : Nat) (KS : List Int) (j : Nat) (x : Int) (h : KS[j]? = some x) : (shTo ln KS j)[j]? = some x := by
  have hj := (List.getElem?_eq_some_iff.1 h).1
  unfold shTo
  rw [List.getElem?_append_right (by simp; omega)]
  simp [Nat.min_eq_left (Nat.le_of_lt hj), h]
theorem shTo_set (ln : Nat) (KS : List Int) (j : Nat) (x : Int) (h : KS[j]? = some x) : (shTo ln KS j).set j (x + (ln : Int)) = shTo ln KS (j + 1) := by
  have hj := (List.getElem?_eq_some_iff.1 h).1
  unfold shTo
  rw [List.set_append_right _ _ (by simp; omega)]
  have hd : KS.drop j = x :: KS.drop (j + 1) := by
    rw [List.drop_eq_getElem_cons hj]
    congr 1
    exact (List.getElem?_eq_some_iff.1 h).2
  rw [hd, List.take_add_one, h]
  simp [Nat.min_eq_left (Nat.le_of_lt hj)]
end Go.Proofs.YtifilhkkgkihpaaGreatDoor
