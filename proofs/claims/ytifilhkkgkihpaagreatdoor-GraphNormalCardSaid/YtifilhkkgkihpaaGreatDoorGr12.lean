/- Walks: ref08.plain. Plain: the normal graph may be, and it is alike to the graph it is of. Plain: the worlds of Alike. Plain: a pair is struck. Walks: ref08.Alike. Walks: ref08.Same. Plain: heads of the same fields. -/
import Derived.Test.YtifilhkkgkihpaaGreatDoorGr11
import Derived.BigQuiet
set_option linter.unusedSimpArgs false
set_option linter.unusedVariables false
set_option linter.unusedSimpArgs false
set_option linter.unusedVariables false
namespace Go.Proofs.YtifilhkkgkihpaaGreatDoor
open Go.RowKit
/-- two heads are the same by themselves. -/
def Pl (x y : Hd) : Prop := x.kd = y.kd ∧ x.op = y.op ∧ x.NS = y.NS ∧ x.KS.length = y.KS.length
def PlainPost (w : World) (x y : Hd) (e : Ending) (w' : World) : Prop := ∃ b : Bool, e = .returned (.bool b) ∧ (b = true ↔ Pl x y) ∧ Below w.heap.size w w'
theorem plain_no {w w' : World} {x y : Hd} (h : ¬ Pl x y) (hb : Below w.heap.size w w') : PlainPost w x y (.returned (.bool false)) w' := ⟨false, rfl, ⟨fun e => (by cases e), fun e => absurd e h⟩, hb⟩
set_option maxRecDepth 20000 in
set_option maxHeartbeats 4000000 in
theorem plain_any (w : World) (x y : Hd) (hx : HdOk w x) (hy : HdOk w y) :
    Calls Tryz.prog 64 #[.agg #[.int .i64 x.kd, .slice x.na x.nn x.nc, .slice x.ka x.kn x.kc, .bool x.op], .agg #[.int .i64 y.kd, .slice y.na y.nn y.nc, .slice y.ka y.kn y.kc, .bool y.op]] w (PlainPost w x y) := by
  have hb0 : Below w.heap.size w (w.alloc (.cells #[.int .i64 x.kd, .slice x.na x.nn x.nc, .slice x.ka x.kn x.kc, .bool x.op] 33)) := (Below.refl _ _).alloc (Nat.le_refl _) _
  have HB0 : Hid (Below w.heap.size w ((w.alloc (.cells #[.int .i64 x.kd, .slice x.na x.nn x.nc, .slice x.ka x.kn x.kc, .bool x.op] 33)).alloc (.cells #[.int .i64 y.kd, .slice y.na y.nn y.nc, .slice y.ka y.kn y.kc, .bool y.op] 33))) := Lib.hid (hb0.alloc hb0.size _)
  have HX1 : Hid (((w.alloc (.cells #[.int .i64 x.kd, .slice x.na x.nn x.nc, .slice x.ka x.kn x.kc, .bool x.op] 33)).alloc (.cells #[.int .i64 y.kd, .slice y.na y.nn y.nc, .slice y.ka y.kn y.kc, .bool y.op] 33)).heap[w.heap.size]? = some (.cells #[.int .i64 x.kd, .slice x.na x.nn x.nc, .slice x.ka x.kn x.kc, .bool x.op] 33 (0, 0))) := Lib.hid (by rw [Below.heap_alloc _ _ _ (by simp)]; exact heap_alloc_new w _)
  have HX2 : Hid (((w.alloc (.cells #[.int .i64 x.kd, .slice x.na x.nn x.nc, .slice x.ka x.kn x.kc, .bool x.op] 33)).alloc (.cells #[.int .i64 y.kd, .slice y.na y.nn y.nc, .slice y.ka y.kn y.kc, .bool y.op] 33)).heap[w.heap.size + 1]? = some (.cells #[.int .i64 y.kd, .slice y.na y.nn y.nc, .slice y.ka y.kn y.kc, .bool y.op] 33 (0, 0))) := Lib.hid (by
    have := heap_alloc_new (w.alloc (.cells #[.int .i64 x.kd, .slice x.na x.nn x.nc, .slice x.ka x.kn x.kc, .bool x.op] 33)) (.cells #[.int .i64 y.kd, .slice y.na y.nn y.nc, .slice y.ka y.kn y.kc, .bool y.op] 33)
    simpa using this)
  have HNX := Lib.hid (hx.names.on HB0.out)
  have HNY := Lib.hid (hy.names.on HB0.out)
  have HKX := Lib.hid hx.kids.1
  have HKY := Lib.hid hy.kids.1
  have hnn : (x.nn : Int) ≤ 100000 := by have := hx.nnb; omega
  clear hb0 hx hy
  go_enter Tryz.func64, Tryz.ntmps64
  go_upto_region 1 with (fail)
  generalize ((w.alloc (.cells #[.int .i64 x.kd, .slice x.na x.nn x.nc, .slice x.ka x.kn x.kc, .bool x.op] 33)).alloc (.cells #[.int .i64 y.kd, .slice y.na y.nn y.nc, .slice y.ka y.kn y.kc, .bool y.op] 33)) = w1 at *
  have a0 : w1.cell? ⟨w.heap.size, 0, none⟩ = some (.int .i64 x.kd) := (by rw [cell_of_row _ _ 0 _ 33 _ HX1.out]; rfl)
  have a1 : w1.cell? ⟨w.heap.size, 1, none⟩ = some (.slice x.na x.nn x.nc) := (by rw [cell_of_row _ _ 1 _ 33 _ HX1.out]; rfl)
  have a2 : w1.cell? ⟨w.heap.size, 2, none⟩ = some (.slice x.ka x.kn x.kc) := (by rw [cell_of_row _ _ 2 _ 33 _ HX1.out]; rfl)
  have a3 : w1.cell? ⟨w.heap.size, 3, none⟩ = some (.bool x.op) := (by rw [cell_of_row _ _ 3 _ 33 _ HX1.out]; rfl)
  have b0 : w1.cell? ⟨w.heap.size + 1, 0, none⟩ = some (.int .i64 y.kd) := (by rw [cell_of_row _ _ 0 _ 33 _ HX2.out]; rfl)
  have b1 : w1.cell? ⟨w.heap.size + 1, 1, none⟩ = some (.slice y.na y.nn y.nc) := (by rw [cell_of_row _ _ 1 _ 33 _ HX2.out]; rfl)
  have b2 : w1.cell? ⟨w.heap.size + 1, 2, none⟩ = some (.slice y.ka y.kn y.kc) := (by rw [cell_of_row _ _ 2 _ 33 _ HX2.out]; rfl)
  have b3 : w1.cell? ⟨w.heap.size + 1, 3, none⟩ = some (.bool y.op) := (by rw [cell_of_row _ _ 3 _ 33 _ HX2.out]; rfl)
  by_cases hk : x.kd = y.kd
  · have HK := Lib.hid hk
    rw [hk] at a0
    clear hk
    by_cases ho : x.op = y.op
    · have HO := Lib.hid ho
      rw [ho] at a3
      clear ho
      by_cases hn : x.nn = y.nn
      · have HN := Lib.hid hn
        have hn2 : ((x.nn : Int) != (y.nn : Int)) = false := by simp [hn]
        by_cases hm : x.kn = y.kn
        · have HM := Lib.hid hm
          have hm2 : ((x.kn : Int) != (y.kn : Int)) = false := by simp [hm]
          rw [hm] at a2
          rw [hn] at a1
          clear hn hm hn2 hm2
          go_wp2
          have hny : (y.nn : Int) ≤ 100000 := by have := HN.out; omega
          go_loopw [39] (fun s39 wr => ∃ j : Nat, s39 = .int .i64 (j : Int) ∧ j ≤ y.nn ∧ Hid (∀ q, q < j → x.NS[q]? = y.NS[q]?) ∧ Hid (Below w1.heap.size w1 wr)) (fun s39 _ => y.nn - (intOf s39).toNat)
          case atStart => exact ⟨0, rfl, Nat.zero_le _, Lib.hid (fun q hq => by omega), Lib.hid (Below.refl _ _)⟩
          case round =>
            obtain ⟨j, rfl, hj, HQ, HBR⟩ := hrel
            obtain ⟨wj, rfl⟩ : ∃ wj : World, wj = wr := ⟨_, rfl⟩
            have hwj : IntKind.i64.wrap ((j : Int) + 1) = (j : Int) + 1 := by rw [IntKind.wrap_i64]; omega
            have HL1 : Hid (w.heap.size + 1 < w1.heap.size) := Lib.hid (Array.getElem?_eq_some_iff.1 HX2.out).1
            by_cases hjn : j < y.nn
            · have hjn2 : (j : Int) < y.nn := by omega
              have hjx : j < x.nn := by rw [HN.out]; exact hjn
              obtain ⟨s, hs⟩ : ∃ s, x.NS[j]? = some s := ⟨_, List.getElem?_eq_getElem (by rw [← HNX.out.1]; exact hjx)⟩
              obtain ⟨t, ht⟩ : ∃ t, y.NS[j]? = some t := ⟨_, List.getElem?_eq_getElem (by rw [← HNY.out.1]; exact hjn)⟩
              obtain ⟨gx, ox, ex, hgx, hcx⟩ := HNX.out.2.resolve_left (by omega)
              obtain ⟨gy, oy, ey, hgy, hcy⟩ := HNY.out.2.resolve_left (by omega)
              have cx : wj.cell? ⟨gx, ox + j, none⟩ = some (.string s) := keepB HBR.out hgx (hcx j s hs)
              have cy : wj.cell? ⟨gy, oy + j, none⟩ = some (.string t) := keepB HBR.out hgy (hcy j t ht)
              have d1 : wj.cell? ⟨w.heap.size, 1, none⟩ = some (.slice (some ⟨gx, ox, none⟩) y.nn x.nc) := by rw [← ex]; exact keepB HBR.out (Nat.lt_of_succ_lt HL1.out) a1
              have d2 : wj.cell? ⟨w.heap.size + 1, 1, none⟩ = some (.slice (some ⟨gy, oy, none⟩) y.nn y.nc) := by rw [← ey]; exact keepB HBR.out HL1.out b1
              have HS := Lib.hid hs
              have HT := Lib.hid ht
              have HDR : Hid (Below w1.heap.size w1 wj.drew) := Lib.hid (HBR.out.trans (((Below.refl _ _).drew : Below wj.heap.size wj wj.drew).mono HBR.out.size))
              clear hs ht hcx hcy hgx hgy ex ey
              by_cases he : s = t
              · have hts : (s.toList == t.toList) = true := by simp [he]
                have HE := Lib.hid he
                rw [he] at cx
                clear he hts
                go_upto_region 6 with (fail)
                go_region
                go_wp2
                go_roundw
                case rel => exact ⟨j + 1, by go_num, by omega, Lib.hid (fun q hq => by
                  rcases Nat.lt_or_ge q j with h9 | h9
                  · exact HQ.out q h9
                  · obtain rfl : q = j := by omega
                    rw [HS.out, HT.out, HE.out]), HDR⟩
                case measure => simp [intOf]; omega
              · have hts : (s.toList == t.toList) = false := by
                  cases hh : (s.toList == t.toList) with
                  | false => rfl
                  | true => exact absurd (toList_inj (by simpa using hh)) he
                have HM' : Hid (¬ Pl x y) := Lib.hid (fun h => he (by have h9 := HS.out; rw [h.2.2.1, HT.out] at h9; cases h9; rfl))
                go_upto_region 6 with (fail)
                go_region
                go_wp2
                go_ret
                exact plain_no HM'.out (HB0.out.trans (HDR.out.mono HB0.out.size))
            · have hjn2 : ¬ (j : Int) < y.nn := by omega
              obtain rfl : j = y.nn := by omega
              have HP : Hid (Pl x y) := Lib.hid ⟨HK.out, HO.out, List.ext_getElem? (fun q => by
                rcases Nat.lt_or_ge q y.nn with h9 | h9
                · exact HQ.out q h9
                · rw [List.getElem?_eq_none (by rw [← HNX.out.1, HN.out]; exact h9), List.getElem?_eq_none (by rw [← HNY.out.1]; exact h9)]), by rw [← HKX.out, ← HKY.out]; exact HM.out⟩
              go_wp2
              go_ret
              exact ⟨true, rfl, ⟨fun _ => HP.out, fun _ => rfl⟩, HB0.out.trans (HBR.out.mono HB0.out.size)⟩
        · have hm2 : ((x.kn : Int) != (y.kn : Int)) = true := by simp; omega
          rw [hn] at a1
          have HM : Hid (¬ Pl x y) := Lib.hid (fun h => hm (by rw [HKX.out, HKY.out]; exact h.2.2.2))
          have hm3 : ¬ (x.kn : Int) = y.kn := by omega
          clear hn hm hn2
          go_wp2
          go_ret
          exact plain_no HM.out HB0.out
      · have hn3 : ¬ (x.nn : Int) = y.nn := by omega
        have HM : Hid (¬ Pl x y) := Lib.hid (fun h => hn (by rw [HNX.out.1, HNY.out.1, h.2.2.1]))
        clear hn
        go_wp2
        go_ret
        exact plain_no HM.out HB0.out
    · have HM : Hid (¬ Pl x y) := Lib.hid (fun h => ho h.2.1)
      have ho2 : (x.op == y.op) = false := by simpa using ho
      go_wp2
      go_ret
      exact plain_no HM.out HB0.out
  · have HM : Hid (¬ Pl x y) := Lib.hid (fun h => hk h.1)
    go_wp2
    go_ret
    exact plain_no HM.out HB0.out
end Go.Proofs.YtifilhkkgkihpaaGreatDoor
set_option linter.unusedSimpArgs false
set_option linter.unusedVariables false
namespace Go.Proofs.YtifilhkkgkihpaaGreatDoor
open Go.RowKit
theorem headB_move {kd : Int} {op : Bool} {n n' : Int} {NS : List ByteArray} {KS KS' : List Int} (h : headB kd op n NS KS = true) (hl : KS'.length = KS.length) (hk : ∀ k ∈ KS', 0 ≤ k ∧ k < n') : headB kd op n' NS KS' = true := by
  unfold headB at h ⊢
  simp only [Bool.and_eq_true, List.all_eq_true, decide_eq_true_eq] at h ⊢
  exact ⟨⟨h.1.1, fun k hm => hk k hm⟩, by rw [hl]; exact h.2⟩
/-- two rows of heads and a relation between their numbers that stands under the kids. -/
structure Rel2 (XS HS : List Hd) (R : Nat → Nat → Prop) : Prop where
  pl : ∀ i k x h, XS[i]? = some x → HS[k]? = some h → R i k → Pl x h
  kid : ∀ i k x h, XS[i]? = some x → HS[k]? = some h → R i k → ∀ (n : Nat) a b, x.KS[n]? = some a → h.KS[n]? = some b → R a.toNat b.toNat
section
variable {HS : List Hd} {cl : List Nat} {root : Nat} {ord : List Nat} {OS : List Hd}
theorem NPl.graph (h : NPl HS cl root ord OS []) (hl : OS.length = ord.length) (hok : OkHeads HS) (hb : OS.length ≤ 4096) : graphB 0 OS = true := by
  have h0 : 0 < ord.length := (List.getElem?_eq_some_iff.1 h.first).1
  unfold graphB
  simp only [Bool.and_eq_true, decide_eq_true_eq, List.all_eq_true]
  refine ⟨⟨⟨⟨by omega, hb⟩, by omega⟩, by omega⟩, fun x hx => ?_⟩
  obtain ⟨i, hi⟩ := List.getElem?_of_mem hx
  obtain ⟨r, y, h1, h2, h3, h4, h5, h6, h7⟩ := (h.heads i x hi).of
  rw [h3, h4, h5]
  refine headB_move (hok y (List.mem_of_getElem? h1)) (by rw [h6, List.length_map]) (fun k hk => ?_)
  rw [hl]
  exact h.kids_lt x hx k hk
theorem NPl.rel2 (h : NPl HS cl root ord OS []) (hok : OkHeads HS) (hst : Stands HS cl) : Rel2 OS HS (fun i k => k < HS.length ∧ ord[i]? = some (cl.getD k 0)) where
  pl i k x y hx hy hr := by
    obtain ⟨r, z, h1, h2, h3, h4, h5, h6, h7⟩ := (h.heads i x hx).of
    obtain ⟨s1, s2, s3, s4⟩ := hst r k z y h1 hy (by rw [h2]; exact getD_of hr.2)
    refine ⟨h3.trans s1, h4.trans s2, h5.trans s3, ?_⟩
    rw [h6, List.length_map]
    have := congrArg List.length s4
    simpa using this
  kid i k x y hx hy hr n a b ha hb := by
    obtain ⟨r, z, h1, h2, h3, h4, h5, h6, h7⟩ := (h.heads i x hx).of
    obtain ⟨s1, s2, s3, s4⟩ := hst r k z y h1 hy (by rw [h2]; exact getD_of hr.2)
    rw [h6, List.getElem?_map] at ha
    cases hz : z.KS[n]? with
    | none => rw [hz] at ha; cases ha
    | some c =>
      rw [hz] at ha
      have hc : cl.getD c.toNat 0 = cl.getD b.toNat 0 := by
        have := congrArg (fun l => l[n]?) s4
        simp only [List.getElem?_map, hz, hb, Option.map_some, Option.some.injEq] at this
        exact this
      obtain ⟨p, hp⟩ := Option.isSome_iff_exists.1 (h7 c (List.mem_of_getElem? hz))
      have ha' : a = (p : Int) := by
        simp only [Option.map_some, Option.some.injEq] at ha
        rw [← ha]
        unfold posN
        rw [hp]
        rfl
      have hbr := (head_kind (hok y (List.mem_of_getElem? hy))).2.2.1 b (List.mem_of_getElem? hb)
      refine ⟨by omega, ?_⟩
      rw [ha', Int.toNat_natCast, idxN_some ord _ p hp, hc]
theorem NPl.root2 (h : NPl HS cl root ord OS []) (hr : root < HS.length) : root < HS.length ∧ ord[0]? = some (cl.getD root 0) := ⟨hr, h.first⟩
end
end Go.Proofs.YtifilhkkgkihpaaGreatDoor
set_option linter.unusedSimpArgs false
set_option linter.unusedVariables false
namespace Go.Proofs.YtifilhkkgkihpaaGreatDoor
open Go.RowKit
abbrev BRow := Nat × Nat × List Bool
def rowv (m : Nat) (r : BRow) : Value := .slice (some ⟨r.1, 0, none⟩) m r.2.1
structure MatAt (w wr : World) (m go co : Nat) (rows : List BRow) : Prop where
  below : Below w.heap.size w wr
  out : wr.ownsRow w.heap.size 76 1 (.slice (some ⟨go, 0, none⟩) rows.length co) rows.length (rows.map (rowv m))
  each : ∀ r ∈ rows, r.2.2.length = m ∧ wr.ownsRow w.heap.size 4 1 (rowv m r) m (r.2.2.map Value.bool)
  nd : (rows.map (·.1)).Nodup
section
variable {w wr w' : World} {m go co : Nat} {rows : List BRow}
theorem MatAt.go_row (h : MatAt w wr m go co rows) : ∀ r ∈ rows, r.1 ≠ go := fun r hr e => by
  have := own_two (h.each r hr).2 h.out (by decide)
  rcases this with e2 | e2
  · cases e2
  · exact e2 (by show some r.1 = some go; rw [e])
theorem MatAt.far (h : MatAt w wr m go co rows) {row : Option Nat} (hg : wr.grownBy w' row) (hr : ∀ g, row = some g → g ≠ go ∧ (∀ r ∈ rows, r.1 ≠ g) ∧ w.heap.size ≤ g) : MatAt w w' m go co rows where
  below := below_grow h.below hg h.below.size (fun g e => (hr g e).2.2)
  out := h.out.kept hg (.inr (fun e => (hr go e.symm).1 rfl))
  each r hm := ⟨(h.each r hm).1, (h.each r hm).2.kept hg (.inr (fun e => (hr r.1 e.symm).2.1 r hm rfl))⟩
  nd := h.nd
theorem MatAt.on (h : MatAt w wr m go co rows) (hb : Below wr.heap.size wr w') : MatAt w w' m go co rows := h.far (grown_below hb) (fun g e => by cases e)
theorem MatAt.push (h : MatAt w wr m go co rows) {gr cr : Nat} {L : List Bool} (hL : L.length = m) (hrow : wr.ownsRow w.heap.size 4 1 (.slice (some ⟨gr, 0, none⟩) m cr) m (L.map Value.bool)) (hgr : ∀ r ∈ rows, r.1 ≠ gr) {g' c' : Nat} (hg : wr.grownBy w' (some go)) (hm : w'.ownsRow w.heap.size 76 1 (.slice (some ⟨g', 0, none⟩) (rows.length + 1) c') (rows.length + 1) (rows.map (rowv m) ++ [.slice (some ⟨gr, 0, none⟩) m cr])) : MatAt w w' m g' c' (rows ++ [(gr, cr, L)]) where
  below := below_grow h.below hg h.below.size (fun g e => by cases e; exact (h.out.lt _ rfl).1)
  out := by simpa [rowv] using hm
  each r hr := by
    rcases List.mem_append.1 hr with e | e
    · exact ⟨(h.each r e).1, (h.each r e).2.kept hg (.inr (fun e2 => h.go_row r e (by cases e2; rfl)))⟩
    · obtain rfl : r = (gr, cr, L) := by simpa using e
      refine ⟨hL, hrow.kept hg ?_⟩
      exact own_two hrow h.out (by decide)
  nd := by
    rw [List.map_append, List.nodup_append]
    refine ⟨h.nd, by simp, fun a ha b hb e => ?_⟩
    obtain ⟨r, hr, rfl⟩ := List.mem_map.1 ha
    simp at hb
    exact hgr r hr (by rw [e, hb])
end
/-- what the matrix holds: only plain pairs, and all that are related. -/
def InvM (XS HS : List Hd) (R : Nat → Nat → Prop) (rows : List BRow) : Prop := ∀ (i : Nat) r, rows[i]? = some r → ∀ (k : Nat) b, r.2.2[k]? = some b → ∀ x h, XS[i]? = some x → HS[k]? = some h → (b = true → Pl x h) ∧ (R i k → b = true)
def InvR (HS : List Hd) (R : Nat → Nat → Prop) (i : Nat) (x : Hd) (L : List Bool) : Prop := ∀ (k : Nat) b, L[k]? = some b → ∀ h, HS[k]? = some h → (b = true → Pl x h) ∧ (R i k → b = true)
theorem InvR.push {HS : List Hd} {R : Nat → Nat → Prop} {i : Nat} {x h : Hd} {L : List Bool} {b : Bool} (hi : InvR HS R i x L) (hh : HS[L.length]? = some h) (hb : b = true ↔ Pl x h) (hR : R i L.length → Pl x h) : InvR HS R i x (L ++ [b]) := by
  intro k c hk y hy
  rcases Nat.lt_or_ge k L.length with h1 | h1
  · rw [List.getElem?_append_left h1] at hk
    exact hi k c hk y hy
  · rw [List.getElem?_append_right h1] at hk
    have h2 : k - L.length = 0 := by
      have := (List.getElem?_eq_some_iff.1 hk).1
      simp at this
      omega
    obtain rfl : k = L.length := by omega
    simp at hk
    rw [hh] at hy
    cases hy
    subst hk
    exact ⟨hb.1, fun hr => hb.2 (hR hr)⟩
theorem InvM.push {XS HS : List Hd} {R : Nat → Nat → Prop} {rows : List BRow} {r : BRow} {x : Hd} (hi : InvM XS HS R rows) (hx : XS[rows.length]? = some x) (hr : InvR HS R rows.length x r.2.2) : InvM XS HS R (rows ++ [r]) := by
  intro i s hs k b hb y h hy hh
  rcases Nat.lt_or_ge i rows.length with h1 | h1
  · rw [List.getElem?_append_left h1] at hs
    exact hi i s hs k b hb y h hy hh
  · rw [List.getElem?_append_right h1] at hs
    have h2 : i - rows.length = 0 := by
      have := (List.getElem?_eq_some_iff.1 hs).1
      simp at this
      omega
    obtain rfl : i = rows.length := by omega
    simp at hs
    subst hs
    rw [hx] at hy
    cases hy
    exact hr k b hb h hh
end Go.Proofs.YtifilhkkgkihpaaGreatDoor
set_option linter.unusedSimpArgs false
set_option linter.unusedVariables false
namespace Go.Proofs.YtifilhkkgkihpaaGreatDoor
open Go.RowKit
def cntR (rows : List BRow) : Nat := (rows.map fun r => r.2.2.count true).sum
theorem count_set : ∀ (L : List Bool) (k : Nat), L[k]? = some true → (L.set k false).count true + 1 = L.count true
  | [], k, h => by simp at h
  | b :: l, 0, h => by
    simp at h
    simp [h]
  | b :: l, k + 1, h => by
    have := count_set l k (by simpa using h)
    rw [List.set_cons_succ, List.count_cons, List.count_cons]
    omega
theorem cnt_set : ∀ (rows : List BRow) (i k g c : Nat) (L : List Bool), rows[i]? = some (g, c, L) → L[k]? = some true → cntR (rows.set i (g, c, L.set k false)) + 1 = cntR rows
  | [], i, k, g, c, L, h, _ => by simp at h
  | r :: l, 0, k, g, c, L, h, hk => by
    simp at h
    subst h
    have := count_set L k hk
    simp [cntR]
    omega
  | r :: l, i + 1, k, g, c, L, h, hk => by
    have := cnt_set l i k g c L (by simpa using h) hk
    unfold cntR at this ⊢
    rw [List.set_cons_succ, List.map_cons, List.map_cons, List.sum_cons, List.sum_cons]
    omega
theorem set_rowv (m : Nat) : ∀ (rows : List BRow) (i g c : Nat) (L L' : List Bool), rows[i]? = some (g, c, L) → (rows.set i (g, c, L')).map (rowv m) = rows.map (rowv m) ∧ (rows.set i (g, c, L')).map (·.1) = rows.map (·.1)
  | [], i, g, c, L, L', h => by simp at h
  | r :: l, 0, g, c, L, L', h => by
    simp at h
    subst h
    simp [rowv]
  | r :: l, i + 1, g, c, L, L', h => by
    obtain ⟨h1, h2⟩ := set_rowv m l i g c L L' (by simpa using h)
    rw [List.set_cons_succ, List.map_cons, List.map_cons, List.map_cons, List.map_cons, h1, h2]
    exact ⟨rfl, rfl⟩
theorem nd_ne {rows : List BRow} (h : (rows.map (·.1)).Nodup) {i j : Nat} {r s : BRow} (hi : rows[i]? = some r) (hj : rows[j]? = some s) (hij : i ≠ j) : r.1 ≠ s.1 := by
  intro e
  have h1 : (rows.map (·.1))[i]? = some r.1 := by rw [List.getElem?_map, hi]; rfl
  have h2 : (rows.map (·.1))[j]? = some r.1 := by rw [List.getElem?_map, hj, e]; rfl
  have hl := (List.getElem?_eq_some_iff.1 h1).1
  exact hij ((List.getElem?_inj hl h).1 (h1.trans h2.symm))
theorem MatAt.strike {w wr : World} {m go co : Nat} {rows : List BRow} (h : MatAt w wr m go co rows) {i k g c : Nat} {L : List Bool} (hi : rows[i]? = some (g, c, L)) : MatAt w (wr.setCell ⟨g, k, none⟩ (.bool false)) m go co (rows.set i (g, c, L.set k false)) where
  below := h.below.setCell (p := ⟨g, k, none⟩) ((h.each _ (List.mem_of_getElem? hi)).2.lt g rfl).1 _
  out := by
    rw [(set_rowv m rows i g c L _ hi).1, List.length_set]
    exact h.out.kept (Val.grown_set wr g k _) (.inr (fun e => h.go_row _ (List.mem_of_getElem? hi) (by cases e; rfl)))
  each r hr := by
    obtain ⟨j, hj⟩ := List.getElem?_of_mem hr
    rw [List.getElem?_set] at hj
    by_cases hij : i = j
    · rw [if_pos hij] at hj
      split at hj
      · cases hj
        obtain ⟨h1, h2⟩ := h.each _ (List.mem_of_getElem? hi)
        refine ⟨by simpa using h1, ?_⟩
        have := (h2.stored k (.bool false)).1
        simpa [rowv, List.map_set] using this
      · cases hj
    · rw [if_neg hij] at hj
      obtain ⟨h1, h2⟩ := h.each r (List.mem_of_getElem? hj)
      exact ⟨h1, h2.kept (Val.grown_set wr g k _) (.inr (fun e => nd_ne h.nd hi hj hij (by cases e; rfl)))⟩
  nd := by
    rw [(set_rowv m rows i g c L _ hi).2]
    exact h.nd
theorem InvM.strike {XS HS : List Hd} {R : Nat → Nat → Prop} {rows : List BRow} (h : InvM XS HS R rows) {i k g c : Nat} {L : List Bool} (hi : rows[i]? = some (g, c, L)) (hR : ¬ R i k) : InvM XS HS R (rows.set i (g, c, L.set k false)) := by
  intro j r hj q b hq x y hx hy
  rw [List.getElem?_set] at hj
  by_cases hij : i = j
  · rw [if_pos hij] at hj
    split at hj
    · cases hj
      rw [List.getElem?_set] at hq
      by_cases hkq : k = q
      · rw [if_pos hkq] at hq
        split at hq
        · cases hq
          exact ⟨fun e => (by cases e), fun hr => absurd (by rw [hij, hkq]; exact hr) hR⟩
        · cases hq
      · rw [if_neg hkq] at hq
        exact h j _ (by rw [← hij]; exact hi) q b hq x y hx hy
    · cases hj
  · rw [if_neg hij] at hj
    exact h j r hj q b hq x y hx hy
/-- what lies at i, k. -/
theorem MatAt.cells {w wr : World} {m go co : Nat} {rows : List BRow} (h : MatAt w wr m go co rows) {i k g c : Nat} {L : List Bool} {b : Bool} (hi : rows[i]? = some (g, c, L)) (hk : L[k]? = some b) : wr.cell? ⟨go, i, none⟩ = some (.slice (some ⟨g, 0, none⟩) m c) ∧ wr.cell? ⟨g, k, none⟩ = some (.bool b) ∧ wr.frozen? ⟨g, k, none⟩ = false ∧ g < wr.heap.size := by
  obtain ⟨h1, h2⟩ := h.each _ (List.mem_of_getElem? hi)
  have hil := (List.getElem?_eq_some_iff.1 hi).1
  have hkl := (List.getElem?_eq_some_iff.1 hk).1
  refine ⟨?_, ?_, ?_, (h2.lt g rfl).2⟩
  · rw [h.out.cellAt i (by omega), List.getElem?_map, hi]
    rfl
  · have := World.ownsRow.cellAt (g := g) (cap := c) h2 k (by simp at h1; omega)
    rw [this, List.getElem?_map, hk]
    rfl
  · exact World.ownsRow.frozenAt (g := g) (cap := c) h2 k
end Go.Proofs.YtifilhkkgkihpaaGreatDoor
set_option linter.unusedSimpArgs false
set_option linter.unusedVariables false
namespace Go.Proofs.YtifilhkkgkihpaaGreatDoor
open Go.RowKit
/-- a row of the matrix grows by one. -/
theorem row_end {w wj w7 w8 : World} {m go co gr cr g5 : Nat} {rows : List BRow} {L : List Bool} {o : Obj} (hM : MatAt w wj m go co rows) (hR : wj.ownsRow w.heap.size 4 1 (.slice (some ⟨gr, 0, none⟩) L.length cr) L.length (L.map Value.bool)) (hN : ∀ r ∈ rows, r.1 ≠ gr) (hb : Below wj.heap.size wj w7) (hg : (w7.alloc o).grownBy w8 (some gr)) (hw : some gr = some g5 ∨ g5 = (w7.alloc o).heap.size) :
    MatAt w w8 m go co rows ∧ ∀ r ∈ rows, r.1 ≠ g5 := by
  have hba := hb.alloc hb.size o
  have h1 := hM.on hba
  refine ⟨h1.far hg (fun g e => ?_), fun r hr e => ?_⟩
  · cases e
    refine ⟨fun e2 => ?_, hN, (hR.lt _ rfl).1⟩
    rcases own_two hR hM.out (by decide) with e3 | e3
    · cases e3
    · exact e3 (by show some gr = some go; rw [e2])
  · rcases hw with e2 | e2
    · cases e2; exact hN r hr e
    · have := ((hM.each r hr).2.lt r.1 rfl).2
      have := hba.size
      omega
structure Str (w wr : World) (XS HS : List Hd) (R : Nat → Nat → Prop) (m xn go co c0 : Nat) (again : Bool) (rs : List BRow) : Prop where
  mat : MatAt w wr m go co rs
  inv : InvM XS HS R rs
  len : rs.length = xn
  cnt : cntR rs ≤ c0 ∧ (again = true → cntR rs < c0)
theorem Str.on {w wr w' : World} {XS HS : List Hd} {R : Nat → Nat → Prop} {m xn go co c0 : Nat} {again : Bool} {rs : List BRow} (h : Str w wr XS HS R m xn go co c0 again rs) (hb : Below wr.heap.size wr w') : Str w w' XS HS R m xn go co c0 again rs := ⟨h.mat.on hb, h.inv, h.len, h.cnt⟩
theorem Str.strike {w wr : World} {XS HS : List Hd} {R : Nat → Nat → Prop} {m xn go co c0 : Nat} {again : Bool} {rs : List BRow} (h : Str w wr XS HS R m xn go co c0 again rs) {i k g c : Nat} {L : List Bool} (hi : rs[i]? = some (g, c, L)) (hk : L[k]? = some true) (hR : ¬ R i k) : Str w (wr.setCell ⟨g, k, none⟩ (.bool false)) XS HS R m xn go co c0 true (rs.set i (g, c, L.set k false)) :=
  ⟨h.mat.strike hi, h.inv.strike hi hR, by rw [List.length_set]; exact h.len, by have := cnt_set rs i k g c L hi hk; have := h.cnt.1; exact ⟨by omega, fun _ => by omega⟩⟩
theorem Tryz.info4 : (Tryz.prog.info? 4).map (fun i => (i.zero, i.size, i.bytes)) = some (some (.bool false), 1, 1) := by kernel_rfl
theorem Tryz.info76 : (Tryz.prog.info? 76).map (fun i => (i.zero, i.size, i.bytes)) = some (some (.slice none 0 0), 1, 24) := by kernel_rfl
def AlikePost (w : World) (XS HS : List Hd) (R : Nat → Nat → Prop) (e : Ending) (w' : World) : Prop := ∃ (go co : Nat) (rows : List BRow), e = .returned (.slice (some ⟨go, 0, none⟩) rows.length co) ∧ rows.length = XS.length ∧ MatAt w w' HS.length go co rows ∧ InvM XS HS R rows
set_option maxRecDepth 20000 in
set_option maxHeartbeats 8000000 in
theorem alike_any (w : World) (xa : Option Addr) (xn xc : Nat) (XS : List Hd) (hX : HeadsIn w xa xn XS) (ya : Option Addr) (yn yc : Nat) (HS : List Hd) (hH : HeadsIn w ya yn HS) (R : Nat → Nat → Prop) (hR : Rel2 XS HS R) (kx : ∀ x ∈ XS, ∀ k ∈ x.KS, 0 ≤ k ∧ k < (XS.length : Int)) (ky : ∀ x ∈ HS, ∀ k ∈ x.KS, 0 ≤ k ∧ k < (HS.length : Int)) (hxn : xn ≤ 100) (hyn : yn ≤ 100) (hx0 : 0 < xn) (hy0 : 0 < yn) :
    Calls Tryz.prog 72 #[.slice xa xn xc, .slice ya yn yc] w (AlikePost w XS HS R) := by
  have HRR := Lib.hid hR
  have HKX := Lib.hid kx
  have HKY := Lib.hid ky
  have HXL := Lib.hid hX.1
  have HYL := Lib.hid hH.1
  obtain ⟨gx, ox, rfl, hgx, hcx⟩ := hX.2.resolve_left (by omega)
  obtain ⟨gy, oy, rfl, hgy, hcy⟩ := hH.2.resolve_left (by omega)
  have HGX := Lib.hid hgx
  have HGY := Lib.hid hgy
  have HCX := Lib.hid hcx
  have HCY := Lib.hid hcy
  have hxn2 : (xn : Int) ≤ 100 := by omega
  have hyn2 : (yn : Int) ≤ 100 := by omega
  have HM0 : Hid (MatAt w (w.alloc (.cells #[] 76)) yn w.heap.size 0 []) := Lib.hid ⟨(Below.refl _ _).alloc (Nat.le_refl _) _, World.ownsRow_made w #[] 0 (Nat.le_refl _) (by decide) rfl, fun r hr => (by cases hr), List.Pairwise.nil⟩
  have HI0 : Hid (InvM XS HS R []) := Lib.hid (fun i r hr => by simp at hr)
  obtain ⟨i4, p4, q41, q42, q43⟩ := info_parts Tryz.info4
  have P4 := Lib.hid p4
  have Q41 := Lib.hid q41
  have Q42 := Lib.hid q42
  have Q43 := Lib.hid q43
  obtain ⟨i87, p87, q871, q872, q873⟩ := info_parts Tryz.info76
  have P87 := Lib.hid p87
  have Q871 := Lib.hid q871
  have Q872 := Lib.hid q872
  have Q873 := Lib.hid q873
  clear p4 q41 q42 q43 p87 q871 q872 q873 hX hH hR kx ky hgx hgy hcx hcy
  go_enter Tryz.func72, Tryz.ntmps72
  go_upto_region 3 with (fail)
  obtain ⟨w1, hw1⟩ : ∃ w1, w.alloc (.cells #[] 76) = w1 := ⟨_, rfl⟩
  rw [hw1] at HM0 ⊢
  clear hw1
  obtain ⟨g0, hg0⟩ : ∃ g0, w.heap.size = g0 := ⟨_, rfl⟩
  have HG0 := Lib.hid hg0
  have HM1 : Hid (MatAt w w1 yn g0 0 []) := Lib.hid (by rw [← hg0]; exact HM0.out)
  rw [hg0]
  clear hg0 HM0
  go_loopw [16, 5] (fun s16 s5 wr => ∃ (rows : List BRow) (go co : Nat), s16 = .int .i64 (rows.length : Int) ∧ s5 = .slice (some ⟨go, 0, none⟩) rows.length co ∧ rows.length ≤ xn ∧ Hid (MatAt w wr yn go co rows) ∧ Hid (InvM XS HS R rows)) (fun s16 _ _ => xn - (intOf s16).toNat)
  case atStart => exact ⟨[], g0, 0, rfl, rfl, Nat.zero_le _, HM1, HI0⟩
  case round =>
    obtain ⟨rows, go, co, rfl, rfl, hrl, HM, HI⟩ := hrel
    obtain ⟨wi, rfl⟩ : ∃ wi : World, wi = wr := ⟨_, rfl⟩
    have hwr : IntKind.i64.wrap ((rows.length : Int) + 1) = (rows.length : Int) + 1 := by rw [IntKind.wrap_i64]; omega
    by_cases hrx : rows.length < xn
    · have hrx2 : (rows.length : Int) < xn := by omega
      obtain ⟨x, hx⟩ : ∃ x, XS[rows.length]? = some x := ⟨_, List.getElem?_eq_getElem (by rw [← HXL.out]; exact hrx)⟩
      have HX := Lib.hid hx
      have HXI := Lib.hid (HCX.out _ _ hx)
      have HB2 : Hid (Below wi.heap.size wi (wi.alloc (.cells #[] 4))) := Lib.hid ((Below.refl _ _).alloc (Nat.le_refl _) _)
      have HR0 : Hid ((wi.alloc (.cells #[] 4)).ownsRow w.heap.size 4 1 (.slice (some ⟨wi.heap.size, 0, none⟩) 0 0) 0 []) := Lib.hid (World.ownsRow_made wi #[] 0 HM.out.below.size (by decide) rfl)
      have HND : Hid (∀ r ∈ rows, r.1 ≠ wi.heap.size) := Lib.hid (fun r hr => by have := ((HM.out.each r hr).2.lt r.1 rfl).2; omega)
      clear hx
      go_upto_region 7 with (fail)
      obtain ⟨w2, hw2⟩ : ∃ w2, wi.alloc (.cells #[] 4) = w2 := ⟨_, rfl⟩
      rw [hw2] at HB2 HR0
      try rw [hw2]
      clear hw2
      obtain ⟨gr0, hgr0⟩ : ∃ gr0, wi.heap.size = gr0 := ⟨_, rfl⟩
      have HM2 := Lib.hid (HM.out.on HB2.out)
      rw [hgr0] at HR0 HND ⊢
      clear hgr0
      go_loopw [22, 7] (fun s22 s7 wr => ∃ (L : List Bool) (gr cr : Nat), s22 = .int .i64 (L.length : Int) ∧ s7 = .slice (some ⟨gr, 0, none⟩) L.length cr ∧ L.length ≤ yn ∧ Hid (MatAt w wr yn go co rows) ∧ Hid (wr.ownsRow w.heap.size 4 1 (.slice (some ⟨gr, 0, none⟩) L.length cr) L.length (L.map Value.bool)) ∧ Hid (∀ r ∈ rows, r.1 ≠ gr) ∧ Hid (InvR HS R rows.length x L)) (fun s22 _ _ => yn - (intOf s22).toNat)
      case atStart => exact ⟨[], gr0, 0, rfl, rfl, Nat.zero_le _, HM2, HR0, HND, Lib.hid (fun k b hk => by simp at hk)⟩
      case round =>
        obtain ⟨L, gr, cr, rfl, rfl, hll, HMJ, HRJ, HNJ, HIJ⟩ := hrel
        obtain ⟨wj, rfl⟩ : ∃ wj : World, wj = wr := ⟨_, rfl⟩
        have hwl : IntKind.i64.wrap ((L.length : Int) + 1) = (L.length : Int) + 1 := by rw [IntKind.wrap_i64]; omega
        by_cases hly : L.length < yn
        · have hly2 : (L.length : Int) < yn := by omega
          obtain ⟨h, hh⟩ : ∃ h, HS[L.length]? = some h := ⟨_, List.getElem?_eq_getElem (by rw [← HYL.out]; exact hly)⟩
          have HH := Lib.hid hh
          have HYI := Lib.hid (HCY.out _ _ hh)
          have HBJ := Lib.hid HMJ.out.below
          have hd : Below wj.heap.size wj wj.drew := (Below.refl _ _).drew
          have HDR := Lib.hid hd
          have a0 : wj.cell? ⟨gx, ox + rows.length * 4, none⟩ = some (.int .i64 x.kd) := keepB HBJ.out HGX.out HXI.out.c0
          have a1 : wj.cell? ⟨gx, ox + rows.length * 4 + 1, none⟩ = some (.slice x.na x.nn x.nc) := keepB HBJ.out HGX.out HXI.out.c1
          have a2 : wj.cell? ⟨gx, ox + rows.length * 4 + 2, none⟩ = some (.slice x.ka x.kn x.kc) := keepB HBJ.out HGX.out HXI.out.c2
          have a3 : wj.cell? ⟨gx, ox + rows.length * 4 + 3, none⟩ = some (.bool x.op) := keepB HBJ.out HGX.out HXI.out.c3
          have b0 : wj.cell? ⟨gy, oy + L.length * 4, none⟩ = some (.int .i64 h.kd) := keepB HBJ.out HGY.out HYI.out.c0
          have b1 : wj.cell? ⟨gy, oy + L.length * 4 + 1, none⟩ = some (.slice h.na h.nn h.nc) := keepB HBJ.out HGY.out HYI.out.c1
          have b2 : wj.cell? ⟨gy, oy + L.length * 4 + 2, none⟩ = some (.slice h.ka h.kn h.kc) := keepB HBJ.out HGY.out HYI.out.c2
          have b3 : wj.cell? ⟨gy, oy + L.length * 4 + 3, none⟩ = some (.bool h.op) := keepB HBJ.out HGY.out HYI.out.c3
          have HPL := Lib.hid (plain_any wj.drew x h (HXI.out.ok.on (HBJ.out.trans (hd.mono HBJ.out.size))) (HYI.out.ok.on (HBJ.out.trans (hd.mono HBJ.out.size))))
          have HRP : Hid (R rows.length L.length → Pl x h) := Lib.hid (fun hr => HRR.out.pl _ _ x h HX.out hh hr)
          clear hh hd
          go_upto_region 9 with (fail)
          go_region_law
            (first
              | (go_simp; go_at_call 64; (with_reducible refine HPL.out.mono ?_); rintro e w7 ⟨b, rfl, hb, hb7⟩; have HB7 := Lib.hid hb; have HBB : Hid (Below wj.heap.size wj w7) := Lib.hid (HDR.out.trans (hb7.mono HDR.out.size)); have HRN : Hid ((w7.alloc (.cells #[.bool b] 4)).ownsRow w.heap.size 4 1 (.slice (some ⟨gr, 0, none⟩) L.length cr) L.length (L.map Value.bool)) := Lib.hid (HRJ.out.kept (grown_below (HBB.out.alloc HBB.out.size _)) (.inr (by simp [Value.ownBlock]))); have HLE : Hid (w.heap.size ≤ (w7.alloc (.cells #[.bool b] 4)).heap.size) := Lib.hid (by have := HBJ.out.size; have := HBB.out.size; simp; omega); clear hb hb7)
              | (refine step_append_lies (w7.alloc (.cells #[.bool b] 4)) rfl _ _ 76 rfl w.heap.size 4 i4 (.bool false) 1 1 Tryz.underlying76 P4.out Q41.out Q42.out Q43.out rfl (by decide) (.slice (some ⟨gr, 0, none⟩) L.length cr) L.length (L.map Value.bool) rfl HRN.out ⟨w7.heap.size, 0, none⟩ 1 1 [.bool b] rfl rfl (news_of (heap_alloc_new w7 _)) (by simp [Value.oneCell']) (by decide) (by unfold maxLen; omega) (by omega) HLE.out _ rfl ?_; intro g5 c5 w8 hown5 hgr5 hw5 hlt5; have HO5 := Lib.hid hown5; have HG5 := Lib.hid hgr5; have HW5 := Lib.hid hw5; clear hown5 hgr5 hw5 hlt5)
              | fail)
          all_goals
            have HE := Lib.hid (row_end HMJ.out HRJ.out HNJ.out HBB.out HG5.out HW5.out)
            have HIN := Lib.hid (HIJ.out.push HH.out HB7.out HRP.out)
            have HO6 : Hid (w8.ownsRow w.heap.size 4 1 (.slice (some ⟨g5, 0, none⟩) (L ++ [b]).length c5) (L ++ [b]).length ((L ++ [b]).map Value.bool)) := Lib.hid (by simpa using HO5.out)
            clear a0 a1 a2 a3 b0 b1 b2 b3
            go_wp2
            go_roundw
            case rel => exact ⟨L ++ [b], g5, c5, by simp, by simp, by simp; omega, Lib.hid HE.out.1, HO6, Lib.hid HE.out.2, HIN⟩
            case measure => simp [intOf]; omega
        · have hly2 : ¬ (L.length : Int) < yn := by omega
          have hL : L.length = yn := by omega
          have HL := Lib.hid hL
          have HBA : Hid (Below wj.heap.size wj (wj.alloc (.cells #[.slice (some ⟨gr, 0, none⟩) L.length cr] 76))) := Lib.hid ((Below.refl _ _).alloc (Nat.le_refl _) _)
          have HMA := Lib.hid (HMJ.out.on HBA.out)
          have HRA : Hid ((wj.alloc (.cells #[.slice (some ⟨gr, 0, none⟩) L.length cr] 76)).ownsRow w.heap.size 4 1 (.slice (some ⟨gr, 0, none⟩) yn cr) yn (L.map Value.bool)) := Lib.hid (by have h8 := HRJ.out; rw [hL] at h8; exact h8.kept (grown_below HBA.out) (.inr (by simp [Value.ownBlock])))
          have HMN := Lib.hid (HI.out.push (r := (gr, cr, L)) HX.out HIJ.out)
          clear hL
          go_wp2_with (at_builtin; refine wpList_append_lies _ rfl _ _ 74 rfl w.heap.size 76 i87 (.slice none 0 0) 1 24 Tryz.underlying74 P87.out Q871.out Q872.out Q873.out rfl (by decide) _ rows.length (rows.map (rowv yn)) rfl HMA.out.out ⟨wj.heap.size, 0, none⟩ 1 1 [.slice (some ⟨gr, 0, none⟩) L.length cr] rfl rfl (World.news_of_block (cs := #[.slice (some ⟨gr, 0, none⟩) L.length cr]) (heap_alloc_new wj _)) (by simp [Value.oneCell']) (by omega) (by unfold maxLen; omega) (by omega) (Nat.le_trans HMJ.out.below.size HBA.out.size) _ rfl ?_; intro g6 c6 w9 hown6 hgr6 hw6 hlt6; have HPU := Lib.hid (HMA.out.push HL.out HRA.out HNJ.out hgr6 (by have h8 := hown6; rw [show (Value.slice (some ⟨gr, 0, none⟩) L.length cr) = .slice (some ⟨gr, 0, none⟩) yn cr from by rw [HL.out]] at h8; exact h8)); clear hown6 hgr6 hw6 hlt6)
          go_roundw
          case rel => exact ⟨rows ++ [(gr, cr, L)], g6, c6, by simp, by simp, by simp; omega, HPU, HMN⟩
          case measure => simp [intOf]; omega
    · have hrx2 : ¬ (rows.length : Int) < xn := by omega
      have hrn : rows.length = xn := by omega
      have HRN := Lib.hid hrn
      go_upto_region 14 with (fail)
      try rw [hrn]
      clear hrx hrx2 hwr hrl hrn
      go_loopg [9] (2 * cntR rows + 1) (fun gk s9 wr => ∃ (again : Bool) (rs : List BRow), s9 = .bool again ∧ Hid (gk = 2 * cntR rs + (if again = true then 1 else 0)) ∧ Hid (MatAt w wr yn go co rs) ∧ Hid (InvM XS HS R rs) ∧ Hid (rs.length = xn))
      case atStart => exact ⟨true, rows, rfl, Lib.hid rfl, HM, HI, HRN⟩
      case round =>
        clear HM HI HRN
        obtain ⟨again, rs, rfl, HGK, HM, HI, HRN⟩ := hrel
        cases again with
        | false =>
          go_wp2
          go_ret
          exact ⟨go, co, rs, by rw [HRN.out]; rfl, by rw [HRN.out]; exact HXL.out, by rw [← HYL.out]; exact HM.out, HI.out⟩
        | true =>
          have HS0 : Hid (Str w wr XS HS R yn xn go co (cntR rs) false rs) := Lib.hid ⟨HM.out, HI.out, HRN.out, Nat.le_refl _, fun e => by cases e⟩
          obtain ⟨c0, hc0⟩ : ∃ c0, cntR rs = c0 := ⟨_, rfl⟩
          rw [hc0] at HS0 HGK
          clear hc0
          go_upto_region 17 with (fail)
          go_loopw [46, 9] (fun s46 s9 wr => ∃ (i : Nat) (again : Bool) (rs : List BRow), s46 = .int .i64 (i : Int) ∧ s9 = .bool again ∧ i ≤ xn ∧ Hid (Str w wr XS HS R yn xn go co c0 again rs)) (fun s46 _ _ => xn - (intOf s46).toNat)
          case atStart => exact ⟨0, false, rs, rfl, rfl, Nat.zero_le _, HS0⟩
          case round =>
            clear HS0 HM HI HRN
            obtain ⟨i, again, rs, rfl, rfl, hi, HS1⟩ := hrel
            obtain ⟨wi, rfl⟩ : ∃ wi : World, wi = wr := ⟨_, rfl⟩
            have hwi : IntKind.i64.wrap ((i : Int) + 1) = (i : Int) + 1 := by rw [IntKind.wrap_i64]; omega
            by_cases hix : i < xn
            · have hix2 : (i : Int) < xn := by omega
              obtain ⟨x, hx⟩ : ∃ x, XS[i]? = some x := ⟨_, List.getElem?_eq_getElem (by rw [← HXL.out]; exact hix)⟩
              have HX := Lib.hid hx
              have HXI := Lib.hid (HCX.out _ _ hx)
              have HXK := Lib.hid (HKX.out x (List.mem_of_getElem? hx))
              have hxk := HXI.out.ok.knb
              have hxk2 : (x.kn : Int) ≤ 1000 := by omega
              have HXKN : Hid (x.kn = x.KS.length) := Lib.hid HXI.out.ok.kids.1
              clear hx
              go_upto_region 20 with (fail)
              go_loopw [51, 9] (fun s51 s9 wr => ∃ (k : Nat) (again : Bool) (rs : List BRow), s51 = .int .i64 (k : Int) ∧ s9 = .bool again ∧ k ≤ yn ∧ Hid (Str w wr XS HS R yn xn go co c0 again rs)) (fun s51 _ _ => yn - (intOf s51).toNat)
              case atStart => exact ⟨0, again, rs, rfl, rfl, Nat.zero_le _, HS1⟩
              case round =>
                clear HS1
                obtain ⟨k, again, rs, rfl, rfl, hk, HS2⟩ := hrel
                obtain ⟨wk, rfl⟩ : ∃ wk : World, wk = wr := ⟨_, rfl⟩
                have hwk : IntKind.i64.wrap ((k : Int) + 1) = (k : Int) + 1 := by rw [IntKind.wrap_i64]; omega
                by_cases hky : k < yn
                · have hky2 : (k : Int) < yn := by omega
                  obtain ⟨h, hh⟩ : ∃ h, HS[k]? = some h := ⟨_, List.getElem?_eq_getElem (by rw [← HYL.out]; exact hky)⟩
                  have HH := Lib.hid hh
                  have HYI := Lib.hid (HCY.out _ _ hh)
                  have HHK := Lib.hid (HKY.out h (List.mem_of_getElem? hh))
                  have HHKN : Hid (h.kn = h.KS.length) := Lib.hid HYI.out.ok.kids.1
                  have x2 : wk.cell? ⟨gx, ox + i * 4 + 2, none⟩ = some (.slice x.ka x.kn x.kc) := keepB HS2.out.mat.below HGX.out HXI.out.c2
                  clear hh
                  go_upto_region 23 with (fail)
                  clear x2
                  go_loopw [60, 9] (fun s60 s9 wr => ∃ (n : Nat) (again : Bool) (rs : List BRow), s60 = .int .i64 (n : Int) ∧ s9 = .bool again ∧ n ≤ x.kn ∧ Hid (Str w wr XS HS R yn xn go co c0 again rs)) (fun s60 _ _ => x.kn - (intOf s60).toNat)
                  case atStart => exact ⟨0, again, rs, rfl, rfl, Nat.zero_le _, HS2⟩
                  case round =>
                    clear HS2
                    obtain ⟨n, again, rs, rfl, rfl, hn, HS3⟩ := hrel
                    obtain ⟨wn, rfl⟩ : ∃ wn : World, wn = wr := ⟨_, rfl⟩
                    have hwn : IntKind.i64.wrap ((n : Int) + 1) = (n : Int) + 1 := by rw [IntKind.wrap_i64]; omega
                    by_cases hnk : n < x.kn
                    · have hnk2 : (n : Int) < x.kn := by omega
                      obtain ⟨⟨g, c, L⟩, hrow⟩ : ∃ r, rs[i]? = some r := ⟨_, List.getElem?_eq_getElem (by rw [HS3.out.len]; exact hix)⟩
                      have hLl := (HS3.out.mat.each _ (List.mem_of_getElem? hrow)).1
                      obtain ⟨b, hb⟩ : ∃ b, L[k]? = some b := ⟨_, List.getElem?_eq_getElem (by simp only at hLl; omega)⟩
                      obtain ⟨m1, m2, m3, m4⟩ := HS3.out.mat.cells hrow hb
                      have HROW := Lib.hid hrow
                      have HLB := Lib.hid hb
                      have HIV := Lib.hid (HS3.out.inv i _ hrow k b hb x h HX.out HH.out)
                      have HDR : Hid (Below wn.heap.size wn wn.drew) := Lib.hid (Below.refl _ _).drew
                      have HS3D := Lib.hid (HS3.out.on HDR.out)
                      clear hrow hLl hb
                      cases b with
                      | false =>
                        go_upto_region 25 with (fail)
                        go_quiet (fail)
                        go_wp2
                        go_roundw
                        case rel => exact ⟨n + 1, again, rs, by go_num, rfl, by omega, Lib.hid (HS3.out.on (below_drewN (Below.refl _ _)))⟩
                        case measure => simp [intOf]; omega
                      | true =>
                        have hpl := HIV.out.1 rfl
                        obtain ⟨p, hp⟩ : ∃ p, x.KS[n]? = some p := ⟨_, List.getElem?_eq_getElem (by rw [← HXKN.out]; exact hnk)⟩
                        obtain ⟨q, hq⟩ : ∃ q, h.KS[n]? = some q := ⟨_, List.getElem?_eq_getElem (by rw [← hpl.2.2.2, ← HXKN.out]; exact hnk)⟩
                        have hpr := HXK.out p (List.mem_of_getElem? hp)
                        have hqr := HHK.out q (List.mem_of_getElem? hq)
                        obtain ⟨p, rfl⟩ : ∃ p' : Nat, p = (p' : Int) := ⟨p.toNat, by omega⟩
                        obtain ⟨q, rfl⟩ : ∃ q' : Nat, q = (q' : Int) := ⟨q.toNat, by omega⟩
                        have hnh : n < h.kn := by rw [HHKN.out, ← hpl.2.2.2, ← HXKN.out]; exact hnk
                        have hnh2 : (n : Int) < h.kn := by omega
                        have hpx : p < xn := by rw [HXL.out]; omega
                        have hqy : q < yn := by rw [HYL.out]; omega
                        have hpx2 : (p : Int) < xn := by omega
                        have hqy2 : (q : Int) < yn := by omega
                        obtain ⟨gi, oi, hka, hgi, hci⟩ := HXI.out.ok.kids.2.resolve_left (by omega)
                        obtain ⟨gj, oj, hkb, hgj, hcj⟩ := HYI.out.ok.kids.2.resolve_left (by omega)
                        have x2 : wn.cell? ⟨gx, ox + i * 4 + 2, none⟩ = some (.slice (some ⟨gi, oi, none⟩) x.kn x.kc) := by rw [← hka]; exact keepB HS3.out.mat.below HGX.out HXI.out.c2
                        have y2 : wn.cell? ⟨gy, oy + k * 4 + 2, none⟩ = some (.slice (some ⟨gj, oj, none⟩) h.kn h.kc) := by rw [← hkb]; exact keepB HS3.out.mat.below HGY.out HYI.out.c2
                        have x3 : wn.cell? ⟨gi, oi + n, none⟩ = some (.int .i64 (p : Int)) := keepB HS3.out.mat.below hgi (hci n _ hp)
                        have y3 : wn.cell? ⟨gj, oj + n, none⟩ = some (.int .i64 (q : Int)) := keepB HS3.out.mat.below hgj (hcj n _ hq)
                        obtain ⟨⟨g2, c2, L2⟩, hrow2⟩ : ∃ r, rs[p]? = some r := ⟨_, List.getElem?_eq_getElem (by rw [HS3.out.len]; exact hpx)⟩
                        have hLl2 := (HS3.out.mat.each _ (List.mem_of_getElem? hrow2)).1
                        obtain ⟨b2, hb2⟩ : ∃ b, L2[q]? = some b := ⟨_, List.getElem?_eq_getElem (by simp only at hLl2; omega)⟩
                        obtain ⟨r1, r2, r3, r4⟩ := HS3.out.mat.cells hrow2 hb2
                        have HNR : Hid (b2 = false → ¬ R i k) := Lib.hid (fun e hr => by
                          have h9 := HRR.out.kid i k x h HX.out HH.out hr n _ _ hp hq
                          simp only [Int.toNat_natCast] at h9
                          obtain ⟨x', hx'⟩ : ∃ x', XS[p]? = some x' := ⟨_, List.getElem?_eq_getElem (by rw [← HXL.out]; exact hpx)⟩
                          obtain ⟨h', hh'⟩ : ∃ h', HS[q]? = some h' := ⟨_, List.getElem?_eq_getElem (by rw [← HYL.out]; exact hqy)⟩
                          have h8 := (HS3.out.inv p _ hrow2 q b2 hb2 x' h' hx' hh').2 h9
                          rw [e] at h8
                          cases h8)
                        clear hpl hp hq hpr hqr hka hkb hgi hgj hci hcj hrow2 hLl2 hb2 r3 r4
                        cases b2 with
                        | true =>
                          go_upto_region 25 with (fail)
                          go_quiet (fail)
                          go_wp2
                          go_roundw
                          case rel => exact ⟨n + 1, again, rs, by go_num, rfl, by omega, Lib.hid (HS3.out.on (below_drewN (Below.refl _ _)))⟩
                          case measure => simp [intOf]; omega
                        | false =>
                          go_upto_region 25 with (fail)
                          go_quiet (fail)
                          clear r1 r2 x2 y2 x3 y3
                          go_wp2
                          go_roundw
                          case rel => exact ⟨n + 1, true, _, by go_num, rfl, by omega, Lib.hid ((HS3.out.on (below_drewN (Below.refl _ _))).strike HROW.out HLB.out (HNR.out rfl))⟩
                          case measure => simp [intOf]; omega
                    · have hnk2 : ¬ (n : Int) < x.kn := by omega
                      go_wp2
                      go_roundw
                      case rel => exact ⟨k + 1, again, rs, by go_num, rfl, by omega, HS3⟩
                      case measure => simp [intOf]; omega
                · have hky2 : ¬ (k : Int) < yn := by omega
                  go_wp2
                  go_roundw
                  case rel => exact ⟨i + 1, again, rs, by go_num, rfl, by omega, HS2⟩
                  case measure => simp [intOf]; omega
            · have hix2 : ¬ (i : Int) < xn := by omega
              go_wp2
              go_roundg (2 * cntR rs + (if again = true then 1 else 0))
              case rel => exact ⟨again, rs, rfl, Lib.hid rfl, Lib.hid HS1.out.mat, Lib.hid HS1.out.inv, Lib.hid HS1.out.len⟩
              case measure => rw [HGK.out]; have h1 := HS1.out.cnt.1; have h2 := HS1.out.cnt.2; cases again <;> simp at * <;> omega
end Go.Proofs.YtifilhkkgkihpaaGreatDoor
set_option linter.unusedSimpArgs false
set_option linter.unusedVariables false
namespace Go.Proofs.YtifilhkkgkihpaaGreatDoor
open Go.RowKit
set_option maxRecDepth 20000 in
set_option maxHeartbeats 4000000 in
theorem same_any (w : World) (xa : Option Addr) (xn xc : Nat) (XS : List Hd) (hX : HeadsIn w xa xn XS) (ya : Option Addr) (yn yc : Nat) (HS : List Hd) (hH : HeadsIn w ya yn HS) (R : Nat → Nat → Prop) (hR : Rel2 XS HS R) (kx : ∀ x ∈ XS, ∀ k ∈ x.KS, 0 ≤ k ∧ k < (XS.length : Int)) (ky : ∀ x ∈ HS, ∀ k ∈ x.KS, 0 ≤ k ∧ k < (HS.length : Int)) (hxn : xn ≤ 100) (hyn : yn ≤ 100) (i0 k0 : Nat) (hi0 : i0 < xn) (hk0 : k0 < yn) (hr : R i0 k0) :
    Calls Tryz.prog 35 #[.agg #[.slice xa xn xc, .int .i64 (i0 : Int)], .agg #[.slice ya yn yc, .int .i64 (k0 : Int)]] w (BoolPost w true) := by
  have hb0 : Below w.heap.size w (w.alloc (.cells #[.slice xa xn xc, .int .i64 (i0 : Int)] 36)) := (Below.refl _ _).alloc (Nat.le_refl _) _
  have HB0 : Hid (Below w.heap.size w ((w.alloc (.cells #[.slice xa xn xc, .int .i64 (i0 : Int)] 36)).alloc (.cells #[.slice ya yn yc, .int .i64 (k0 : Int)] 36))) := Lib.hid (hb0.alloc hb0.size _)
  have HX1 : Hid (((w.alloc (.cells #[.slice xa xn xc, .int .i64 (i0 : Int)] 36)).alloc (.cells #[.slice ya yn yc, .int .i64 (k0 : Int)] 36)).heap[w.heap.size]? = some (.cells #[.slice xa xn xc, .int .i64 (i0 : Int)] 36 (0, 0))) := Lib.hid (by rw [Below.heap_alloc _ _ _ (by simp)]; exact heap_alloc_new w _)
  have HX2 : Hid (((w.alloc (.cells #[.slice xa xn xc, .int .i64 (i0 : Int)] 36)).alloc (.cells #[.slice ya yn yc, .int .i64 (k0 : Int)] 36)).heap[w.heap.size + 1]? = some (.cells #[.slice ya yn yc, .int .i64 (k0 : Int)] 36 (0, 0))) := Lib.hid (by
    have := heap_alloc_new (w.alloc (.cells #[.slice xa xn xc, .int .i64 (i0 : Int)] 36)) (.cells #[.slice ya yn yc, .int .i64 (k0 : Int)] 36)
    simpa using this)
  have HAK := Lib.hid (fun (w' : World) (hb : Below w.heap.size w w') => alike_any w' xa xn xc XS (hX.on hb) ya yn yc HS (hH.on hb) R hR kx ky hxn hyn (by omega) (by omega))
  have HXL := Lib.hid hX.1
  have HYL := Lib.hid hH.1
  have HRR := Lib.hid hr
  have hi2 : (i0 : Int) < xn := by omega
  have hk2 : (k0 : Int) < yn := by omega
  clear hb0 hX hH hR kx ky hr
  go_enter Tryz.func35, Tryz.ntmps35
  go_upto_region 1 with (fail)
  generalize ((w.alloc (.cells #[.slice xa xn xc, .int .i64 (i0 : Int)] 36)).alloc (.cells #[.slice ya yn yc, .int .i64 (k0 : Int)] 36)) = w1 at *
  have HL1 : Hid (w.heap.size + 1 < w1.heap.size) := Lib.hid (Array.getElem?_eq_some_iff.1 HX2.out).1
  have a0 : w1.cell? ⟨w.heap.size, 0, none⟩ = some (.slice xa xn xc) := (by rw [cell_of_row _ _ 0 _ 36 _ HX1.out]; rfl)
  have a1 : w1.cell? ⟨w.heap.size, 1, none⟩ = some (.int .i64 (i0 : Int)) := (by rw [cell_of_row _ _ 1 _ 36 _ HX1.out]; rfl)
  have b0 : w1.cell? ⟨w.heap.size + 1, 0, none⟩ = some (.slice ya yn yc) := (by rw [cell_of_row _ _ 0 _ 36 _ HX2.out]; rfl)
  have b1 : w1.cell? ⟨w.heap.size + 1, 1, none⟩ = some (.int .i64 (k0 : Int)) := (by rw [cell_of_row _ _ 1 _ 36 _ HX2.out]; rfl)
  go_region_law
    (first
      | (go_simp; go_at_call 72; (with_reducible refine (HAK.out _ (by exact HB0.out.drew)).mono ?_); rintro e w7 ⟨go, co, rows, rfl, hlen, hmat, hinv⟩; have HBW : Hid (Below w1.heap.size w1 w7) := Lib.hid (show Below w1.heap.size w1 w7 from (Below.refl _ _).drew.trans hmat.below); obtain ⟨⟨g, c, L⟩, hrow⟩ : ∃ r, rows[i0]? = some r := ⟨_, List.getElem?_eq_getElem (by rw [hlen, ← HXL.out]; exact hi0)⟩; have hLl := (hmat.each _ (List.mem_of_getElem? hrow)).1; obtain ⟨b, hb⟩ : ∃ b, L[k0]? = some b := ⟨_, List.getElem?_eq_getElem (by simp only at hLl; rw [hLl, ← HYL.out]; exact hk0)⟩; obtain ⟨x, hx⟩ : ∃ x, XS[i0]? = some x := ⟨_, List.getElem?_eq_getElem (by rw [← HXL.out]; exact hi0)⟩; obtain ⟨h, hh⟩ : ∃ h, HS[k0]? = some h := ⟨_, List.getElem?_eq_getElem (by rw [← HYL.out]; exact hk0)⟩; obtain rfl : b = true := (hinv i0 _ hrow k0 b hb x h hx hh).2 HRR.out; obtain ⟨m1, m2, m3, m4⟩ := hmat.cells hrow hb; rw [← HYL.out] at m1; have hlr : rows.length = xn := hlen.trans HXL.out.symm; have d0 : w7.cell? ⟨w.heap.size, 1, none⟩ = some (.int .i64 (i0 : Int)) := (by rw [cell_of_row _ _ 1 _ 36 _ ((HBW.out.block _ (Nat.lt_of_succ_lt HL1.out)).trans HX1.out)]; rfl); have d1 : w7.cell? ⟨w.heap.size + 1, 1, none⟩ = some (.int .i64 (k0 : Int)) := (by rw [cell_of_row _ _ 1 _ 36 _ ((HBW.out.block _ HL1.out).trans HX2.out)]; rfl); clear hmat hinv hrow hLl hb hx hh hlen m3 m4)
      | fail)
  all_goals
    go_wp2
    go_ret
    exact ⟨rfl, HB0.out.trans (HBW.out.mono HB0.out.size)⟩
end Go.Proofs.YtifilhkkgkihpaaGreatDoor
set_option linter.unusedSimpArgs false
set_option linter.unusedVariables false
namespace Go.Proofs.YtifilhkkgkihpaaGreatDoor
open Go.RowKit
/-- two rows of heads of the same fields, wherever they lie. -/
structure Alk (OS XS : List Hd) : Prop where
  len : XS.length = OS.length
  eq : ∀ (i : Nat) x y, OS[i]? = some x → XS[i]? = some y → y.kd = x.kd ∧ y.op = x.op ∧ y.NS = x.NS ∧ y.KS = x.KS
theorem Alk.at {OS XS : List Hd} (h : Alk OS XS) {i : Nat} {y : Hd} (hy : XS[i]? = some y) : ∃ x, OS[i]? = some x ∧ y.kd = x.kd ∧ y.op = x.op ∧ y.NS = x.NS ∧ y.KS = x.KS := by
  have hl := (List.getElem?_eq_some_iff.1 hy).1
  obtain ⟨x, hx⟩ : ∃ x, OS[i]? = some x := ⟨_, List.getElem?_eq_getElem (by rw [← h.len]; exact hl)⟩
  exact ⟨x, hx, h.eq i x y hx hy⟩
theorem Alk.graph {OS XS : List Hd} (h : Alk OS XS) {root : Int} (hg : graphB root OS = true) : graphB root XS = true := by
  unfold graphB at hg ⊢
  simp only [Bool.and_eq_true, decide_eq_true_eq, List.all_eq_true] at hg ⊢
  rw [h.len]
  refine ⟨hg.1, fun y hy => ?_⟩
  obtain ⟨i, hi⟩ := List.getElem?_of_mem hy
  obtain ⟨x, hx, e1, e2, e3, e4⟩ := h.at hi
  rw [e1, e2, e3, e4]
  exact hg.2 x (List.mem_of_getElem? hx)
theorem Alk.rel {OS XS HS : List Hd} (h : Alk OS XS) {R : Nat → Nat → Prop} (hr : Rel2 OS HS R) : Rel2 XS HS R where
  pl i k y z hy hz hR := by
    obtain ⟨x, hx, e1, e2, e3, e4⟩ := h.at hy
    obtain ⟨p1, p2, p3, p4⟩ := hr.pl i k x z hx hz hR
    exact ⟨e1.trans p1, e2.trans p2, e3.trans p3, by rw [e4]; exact p4⟩
  kid i k y z hy hz hR n a b ha hb := by
    obtain ⟨x, hx, e1, e2, e3, e4⟩ := h.at hy
    rw [e4] at ha
    exact hr.kid i k x z hx hz hR n a b ha hb
end Go.Proofs.YtifilhkkgkihpaaGreatDoor
