/- Walks and plain facts. -/
import Derived.Test.YtifilhkkgkihpaaGreatDoorBm03
import Derived.Test.YtifilhkkgkihpaaGreatDoorAs29
import Derived.Test.YtifilhkkgkihpaaGreatDoorBm04
import Derived.Test.YtifilhkkgkihpaaGreatDoorBm01
import Derived.Test.YtifilhkkgkihpaaGreatDoorBm02
import Derived.Deep.RegionHeld3
set_option linter.unusedSimpArgs false
set_option linter.unusedVariables false
namespace Go.Proofs.YtifilhkkgkihpaaGreatDoor
open Go.RowKit
theorem AkS.push_pin {α : Type} [DecidableEq α] {K : AK α} {w0 wl w : World} {R M : Nat} {C0 C1 : Value} {D : DataW Unit} {S : List α} {xa : Option Addr} {xc : Nat} {L : List α} (h : AkS K w0 wl w R M C0 C1 D S xa xc L) {wd : World} (hd : Below w.heap.size w wd) {o : Obj} {w6 : World} {g6 c6 : Nat}
    (hg : (wd.alloc o).grownBy w6 (Value.slice xa L.length xc).ownBlock) (hw : (Value.slice xa L.length xc).ownBlock = some g6 ∨ g6 = (wd.alloc o).heap.size) {pin : Nat} {cp : Array Value} {T : TypeId} (hpn : (Value.slice xa L.length xc).ownBlock ≠ some pin) (hpR : pin ≠ R) (hpc : w.heap[pin]? = some (.cells cp T (0, 0))) (v : Value) (L' : List α) :
    (Value.slice (some ⟨g6, 0, none⟩) L'.length c6).ownBlock ≠ some pin ∧ (w6.setCell ⟨R, 3, none⟩ v).heap[pin]? = some (.cells cp T (0, 0)) := by
  have hlt := (Array.getElem?_eq_some_iff.1 hpc).1
  have hbd : Below w.heap.size w (wd.alloc o) := hd.alloc hd.size _
  have hds := hd.size
  have hsd : (wd.alloc o).heap.size = wd.heap.size + 1 := by simp
  refine ⟨fun e => ?_, ?_⟩
  · have e2 : g6 = pin := by simpa [Value.ownBlock] using e
    rcases hw with r | r
    · exact hpn (by rw [r, e2])
    · omega
  · rw [Below.heap_setCell _ _ _ _ hpR, hg.block pin (by omega) (fun e => hpn e.symm), hbd.block pin hlt]
    exact hpc
/-- an asker, and a block of a pair that is not its row. -/
def AkTP {α : Type} [DecidableEq α] (K : AK α) (w0 wl : World) (R M : Nat) (C0 C1 : Value) (w : World) (SL : List α × List α) (pin : Nat) (cp : Array Value) : Prop := WkN K.ok SL ∧ pin ≠ R ∧ w.heap[pin]? = some (.cells cp K.TP (0, 0)) ∧ ∃ (D : DataW Unit) (xa : Option Addr) (xc : Nat), AkS K w0 wl w R M C0 C1 D SL.1 xa xc SL.2 ∧ (Value.slice xa SL.2.length xc).ownBlock ≠ some pin
section
variable {α : Type} [DecidableEq α] {K : AK α} {w0 wl w w' : World} {R M : Nat} {C0 C1 : Value} {SL : List α × List α} {pin : Nat} {cp : Array Value}
theorem AkTP.t (h : AkTP K w0 wl R M C0 C1 w SL pin cp) : AkT K w0 wl R M C0 C1 w SL := by
  obtain ⟨h1, _, _, D, xa, xc, h2, _⟩ := h
  exact ⟨h1, D, xa, xc, h2⟩
theorem AkTP.blk (h : AkTP K w0 wl R M C0 C1 w SL pin cp) : w.heap[pin]? = some (.cells cp K.TP (0, 0)) := h.2.2.1
theorem AkTP.on (h : AkTP K w0 wl R M C0 C1 w SL pin cp) (hb : Below w.heap.size w w') : AkTP K w0 wl R M C0 C1 w' SL pin cp := by
  obtain ⟨h1, h2, h3, D, xa, xc, h4, h5⟩ := h
  exact ⟨h1, h2, (hb.block _ (Array.getElem?_eq_some_iff.1 h3).1).trans h3, D, xa, xc, h4.on hb, h5⟩
theorem AkT.pinned (h : AkT K w0 wl R M C0 C1 w SL) (hb : Below w.heap.size w w') (hc : w'.heap[w.heap.size]? = some (.cells cp K.TP (0, 0))) : AkTP K w0 wl R M C0 C1 w' SL w.heap.size cp := by
  obtain ⟨h1, D, xa, xc, h2⟩ := h
  exact ⟨h1, fun e => by have := h2.ltR; omega, hc, D, xa, xc, h2.on hb, fun e => by have := (h2.row.lt _ e).2; omega⟩
end
set_option maxRecDepth 20000 in
set_option maxHeartbeats 4000000 in
theorem askB_old (w0 wl w : World) (R M : Nat) (C0 C1 : Value) (D : DataW Unit) (S : List PrB) (xa : Option Addr) (xc : Nat) (L : List PrB) (h : AkS akB w0 wl w R M C0 C1 D S xa xc L) (p q : Nat) (t : Bool) (hp : okB (p, q, t)) (hs : (p, q, t) ∈ S) :
    Calls Tryz.prog 81 #[.pointer (some ⟨R, 0, none⟩), .agg #[.int .i64 (p : Int), .int .i64 (q : Int), .bool t]] w fun e w' => e = .returned (.tuple #[]) ∧ Below w.heap.size w w' := by
  have HS := Lib.hid h
  have HK : Hid (keyOf Tryz.prog 126 (.agg #[.int .i64 (p : Int), .int .i64 (q : Int), .bool t]) = some (klB (p, q, t))) := Lib.hid (keyPB (p, q, t) hp)
  have HW1 : Hid (Below w.heap.size w (w.alloc (.cells #[.int .i64 (p : Int), .int .i64 (q : Int), .bool t] 126))) := Lib.hid ((Below.refl _ _).alloc (Nat.le_refl _) _)
  have r2 : w.cell? ⟨R, 2, none⟩ = some (.map (some M)) := h.c2
  have HM1 := Lib.hid (h.on (HW1.out.drew)).map
  have q2 : (w.alloc (.cells #[.int .i64 (p : Int), .int .i64 (q : Int), .bool t] 126)).cell? ⟨R, 2, none⟩ = some (.map (some M)) := (h.on HW1.out).c2
  obtain ⟨v, ps, hrun, hv⟩ := HM1.out.lookup (t := 120) pair126 (by kernel_rfl) (zero4 _) (plainElem_bool Tryz.underlying4 false) HK.out
  obtain ⟨c, rfl, hc⟩ := plainElem_bool_inv Tryz.underlying4 hv
  obtain rfl : c = true := ((ak_in h.mapb hp (congrArg Prod.fst hc)).2 hs)
  clear h hp hs r2 hv hc
  go_enter Tryz.func81, Tryz.ntmps81
  go_upto_region 1 with (fail)
  go_region_law (fail)
  all_goals (go_wp2; go_end0; exact ⟨rfl, HW1.out.drew⟩)
set_option maxRecDepth 20000 in
set_option maxHeartbeats 4000000 in
theorem askB_new (w0 wl w : World) (R M : Nat) (C0 C1 : Value) (D : DataW Unit) (S : List PrB) (xa : Option Addr) (xc : Nat) (L : List PrB) (h : AkS akB w0 wl w R M C0 C1 D S xa xc L) (hw : WkN okB (S, L)) (p q : Nat) (t : Bool) (hp : okB (p, q, t)) (hs : (p, q, t) ∉ S) :
    Calls Tryz.prog 81 #[.pointer (some ⟨R, 0, none⟩), .agg #[.int .i64 (p : Int), .int .i64 (q : Int), .bool t]] w fun e w' => e = .returned (.tuple #[]) ∧ AkT akB w0 wl R M C0 C1 w' ((p, q, t) :: S, L ++ [(p, q, t)]) ∧ Kp 126 R w w' := by
  have HWN : Hid (WkN okB ((p, q, t) :: S, L ++ [(p, q, t)])) := Lib.hid (by have := hw.ask hp; unfold askS at this; rw [if_neg hs] at this; exact this)
  have hn : S.length ≤ 45000 := hw.lenS (K := akB)
  have hl : L.length ≤ 45000 := hw.lenL (K := akB)
  have HL := Lib.hid hl
  have HK : Hid (keyOf Tryz.prog 126 (.agg #[.int .i64 (p : Int), .int .i64 (q : Int), .bool t]) = some (klB (p, q, t))) := Lib.hid (keyPB (p, q, t) hp)
  have HPUT : Hid (SetP klB okB (D.put (klB (p, q, t)) (.lit (.bool true))) ((p, q, t) :: S)) := Lib.hid (h.mapb.put klB_inj klB_is (p, q, t) hp)
  have HW1 : Hid (Below w.heap.size w (w.alloc (.cells #[.int .i64 (p : Int), .int .i64 (q : Int), .bool t] 126))) := Lib.hid ((Below.refl _ _).alloc (Nat.le_refl _) _)
  have HX1 : Hid ((w.alloc (.cells #[.int .i64 (p : Int), .int .i64 (q : Int), .bool t] 126)).heap[w.heap.size]? = some (.cells #[.int .i64 (p : Int), .int .i64 (q : Int), .bool t] 126 (0, 0))) := Lib.hid (heap_alloc_new w _)
  have HRW : Hid (R < w.heap.size) := Lib.hid h.ltR
  have HOWN : Hid ((Value.slice xa L.length xc).ownBlock ≠ some w.heap.size) := Lib.hid (fun e => by have := (h.row.lt _ e).2; omega)
  have HMW : Hid (M < w.heap.size) := Lib.hid h.ltM
  have HM1 := Lib.hid (h.on (HW1.out.drew)).map
  have HS0 : Hid (AkS akB w0 wl (w.alloc (.cells #[.int .i64 (p : Int), .int .i64 (q : Int), .bool t] 126)) R M C0 C1 D S xa xc L) := Lib.hid (h.on HW1.out)
  have q2 : (w.alloc (.cells #[.int .i64 (p : Int), .int .i64 (q : Int), .bool t] 126)).cell? ⟨R, 2, none⟩ = some (.map (some M)) := HS0.out.c2
  obtain ⟨v, ps, hrun, hv⟩ := HM1.out.lookup (t := 120) pair126 (by kernel_rfl) (zero4 _) (plainElem_bool Tryz.underlying4 false) HK.out
  obtain ⟨c, rfl, hc⟩ := plainElem_bool_inv Tryz.underlying4 hv
  obtain rfl : c = false := (by have h9 := ak_in h.mapb hp (congrArg Prod.fst hc); cases c with | true => exact absurd (h9.1 rfl) hs | false => rfl)
  clear h hw hp hs hv hc hl
  go_enter Tryz.func81, Tryz.ntmps81
  go_upto_region 1 with (fail)
  generalize hw1 : (w.alloc (.cells #[.int .i64 (p : Int), .int .i64 (q : Int), .bool t] 126)) = w1 at *
  have HSZ : Hid (w.heap.size < w1.heap.size) := Lib.hid (Array.getElem?_eq_some_iff.1 HX1.out).1
  clear hw1
  have b0 : w1.cell? ⟨w.heap.size, 0, none⟩ = some (.int .i64 (p : Int)) := (by rw [cell_of_row _ _ 0 _ 126 _ HX1.out]; rfl)
  have b1 : w1.cell? ⟨w.heap.size, 1, none⟩ = some (.int .i64 (q : Int)) := (by rw [cell_of_row _ _ 1 _ 126 _ HX1.out]; rfl)
  have b2 : w1.cell? ⟨w.heap.size, 2, none⟩ = some (.bool t) := (by rw [cell_of_row _ _ 2 _ 126 _ HX1.out]; rfl)
  go_cut [10] (fun t10 wr => t10 = .bool true ∧ Hid (wr = w1.drew))
  case first =>
    go_region_law (fail)
    all_goals
      go_wp2
      go_meet
      case rel => exact ⟨rfl, Lib.hid rfl⟩
  case rest =>
    obtain ⟨rfl, HWR⟩ := hcut
    obtain ⟨wa, rfl⟩ : ∃ wa : World, wa = wc := ⟨_, rfl⟩
    clear hrun b0 b1 b2 q2
    have HB1 : Hid (Below w1.heap.size w1 wa) := Lib.hid (by rw [HWR.out]; exact (Below.refl _ _).drew)
    have HS1 : Hid (AkS akB w0 wl wa R M C0 C1 D S xa xc L) := Lib.hid (HS0.out.on HB1.out)
    have HS2 : Hid (AkS akB w0 wl wa.drew R M C0 C1 D S xa xc L) := Lib.hid (HS1.out.on (Below.refl _ _).drew)
    have HX1' : Hid (wa.heap[w.heap.size]? = some (.cells #[.int .i64 (p : Int), .int .i64 (q : Int), .bool t] 126 (0, 0))) := Lib.hid ((HB1.out.block _ HSZ.out).trans HX1.out)
    have HSZ' : Hid (w.heap.size < wa.heap.size) := Lib.hid (Nat.lt_of_lt_of_le HSZ.out HB1.out.size)
    have b0 : wa.cell? ⟨w.heap.size, 0, none⟩ = some (.int .i64 (p : Int)) := (by rw [cell_of_row _ _ 0 _ 126 _ HX1'.out]; rfl)
    have b1 : wa.cell? ⟨w.heap.size, 1, none⟩ = some (.int .i64 (q : Int)) := (by rw [cell_of_row _ _ 1 _ 126 _ HX1'.out]; rfl)
    have b2 : wa.cell? ⟨w.heap.size, 2, none⟩ = some (.bool t) := (by rw [cell_of_row _ _ 2 _ 126 _ HX1'.out]; rfl)
    have q2 : wa.cell? ⟨R, 2, none⟩ = some (.map (some M)) := HS1.out.c2
    go_upto_region 2 with (fail)
    go_still_tail 5, (by kernel_rfl)
    refine wpList_mapUpdate_own _ (by rfl) _ _ _ 120 (by rfl) 126 4 pair126 (by kernel_rfl) _ M S.length D (by rfl) HS2.out.map (by unfold maxLen; omega) (.agg #[.int .i64 (p : Int), .int .i64 (q : Int), .bool t]) (.bool true) (klB (p, q, t)) (by rfl) (by rfl) HK.out _ [] (plainElem_bool Tryz.underlying4 true) ?_
    intro w2 hown2 hgr2
    have HU := Lib.hid (HS2.out.upd (S' := (p, q, t) :: S) hgr2 hown2 HPUT.out)
    have HX2 : Hid (w2.heap[w.heap.size]? = some (.cells #[.int .i64 (p : Int), .int .i64 (q : Int), .bool t] 126 (0, 0))) := Lib.hid ((hgr2.block _ (by have := HSZ'.out; simpa using this) (fun e => by have := HMW.out; simp at e; omega)).trans HX1'.out)
    clear b0 b1 b2 q2 hown2 hgr2
    have b0 : w2.cell? ⟨w.heap.size, 0, none⟩ = some (.int .i64 (p : Int)) := (by rw [cell_of_row _ _ 0 _ 126 _ HX2.out]; rfl)
    have b1 : w2.cell? ⟨w.heap.size, 1, none⟩ = some (.int .i64 (q : Int)) := (by rw [cell_of_row _ _ 1 _ 126 _ HX2.out]; rfl)
    have b2 : w2.cell? ⟨w.heap.size, 2, none⟩ = some (.bool t) := (by rw [cell_of_row _ _ 2 _ 126 _ HX2.out]; rfl)
    have q3 : w2.cell? ⟨R, 3, none⟩ = some (.slice xa L.length xc) := HU.out.1.c3
    have q3' : (w2.alloc (.cells #[.int .i64 (p : Int), .int .i64 (q : Int), .bool t] 126)).cell? ⟨R, 3, none⟩ = some (.slice xa L.length xc) := (HU.out.1.on ((Below.refl _ _).alloc (Nat.le_refl _) _)).c3
    have HDR : Hid (Below w2.heap.size w2 w2.drew) := Lib.hid (Below.refl _ _).drew
    have HOD : Hid (w2.drew.ownsRow wl.heap.size 126 3 (.slice xa L.length xc) L.length (L.flatMap pcB)) := Lib.hid HU.out.1.row
    have HLE : Hid (wl.heap.size ≤ (w2.drew.alloc (.cells #[.int .i64 (p : Int), .int .i64 (q : Int), .bool t] 126)).heap.size) := Lib.hid (by have h1 := HU.out.1.lsize; have h2 := HDR.out.size; simp; omega)
    obtain ⟨i0, hi9, hz0, hz1, hz2⟩ := info_parts Tryz.infoPB
    have HIF := Lib.hid hi9
    have HIF0 := Lib.hid hz0
    have HIF1 := Lib.hid hz1
    have HIF2 := Lib.hid hz2
    clear hi9 hz0 hz1 hz2 hn
    go_upto_region 3 with (fail)
    go_region_law
      (first
        | (refine step_append_lies (w2.drew.alloc (.cells #[.int .i64 (p : Int), .int .i64 (q : Int), .bool t] 126)) rfl _ _ 121 rfl wl.heap.size 126 i0 (.agg #[.int .i64 0, .int .i64 0, .bool false]) 3 24 Tryz.underlying121 HIF.out HIF0.out HIF1.out HIF2.out rfl (by decide) (.slice xa L.length xc) L.length (L.flatMap pcB) rfl (HOD.out.alloc _) ⟨w2.heap.size, 0, none⟩ 1 1 [.int .i64 (p : Int), .int .i64 (q : Int), .bool t] rfl rfl (news_of (heap_alloc_new w2.drew _)) (by simp [Value.oneCell']) (by decide) (by unfold maxLen; have := HL.out; omega) (by have := HL.out; omega) HLE.out _ rfl ?_; intro g5 cc5 w5 hown5 hgr5 hat5 hlt5; have HNH := Lib.hid (HU.out.1.push (x := (p, q, t)) HDR.out hgr5 hown5 hat5); have q4 : w5.cell? ⟨R, 3, none⟩ = some (.slice xa L.length xc) := (by rw [cell_of_row _ _ 3 _ 123 _ HNH.out.2]; rfl); have p4 : w5.frozen? ⟨R, 3, none⟩ = false := frozen_of_row _ _ 3 _ 123 HNH.out.2; have o4 : R < w5.heap.size := (Array.getElem?_eq_some_iff.1 HNH.out.2).1; clear hown5 hgr5 hat5 hlt5)
        | fail)
    all_goals
      go_wp2
      go_end0
      exact ⟨rfl, ⟨HWN.out, _, _, _, HNH.out.1.1⟩, (Kp.of_below HW1.out).trans ((Kp.of_below HB1.out).trans ((Kp.of_below ((Below.refl _ _).drew)).trans (HU.out.2.trans HNH.out.1.2)))⟩
theorem askB_any (w0 wl w : World) (R M : Nat) (C0 C1 : Value) (SL : List PrB × List PrB) (h : AkT akB w0 wl R M C0 C1 w SL) (p q : Nat) (t : Bool) (hp : okB (p, q, t)) :
    Calls Tryz.prog 81 #[.pointer (some ⟨R, 0, none⟩), .agg #[.int .i64 (p : Int), .int .i64 (q : Int), .bool t]] w fun e w' => e = .returned (.tuple #[]) ∧ AkT akB w0 wl R M C0 C1 w' (askS SL (p, q, t)) ∧ Kp 126 R w w' := by
  obtain ⟨S, L⟩ := SL
  obtain ⟨hw, D, xa, xc, hs⟩ := h
  by_cases hm : (p, q, t) ∈ S
  · refine (askB_old w0 wl w R M C0 C1 D S xa xc L hs p q t hp hm).mono ?_
    rintro e w' ⟨he, hb⟩
    have e1 : askS (S, L) (p, q, t) = (S, L) := by unfold askS; rw [if_pos hm]
    rw [e1]
    exact ⟨he, ⟨hw, D, xa, xc, hs.on hb⟩, Kp.of_below hb⟩
  · refine (askB_new w0 wl w R M C0 C1 D S xa xc L hs hw p q t hp hm).mono ?_
    rintro e w' ⟨he, ha, hk⟩
    have e1 : askS (S, L) (p, q, t) = ((p, q, t) :: S, L ++ [(p, q, t)]) := by unfold askS; rw [if_neg hm]
    rw [e1]
    exact ⟨he, ha, hk⟩
set_option maxRecDepth 20000 in
set_option maxHeartbeats 4000000 in
theorem askP_new (w0 wl w : World) (R M : Nat) (C0 C1 : Value) (D : DataW Unit) (S : List PrB) (xa : Option Addr) (xc : Nat) (L : List PrB) (h : AkS akB w0 wl w R M C0 C1 D S xa xc L) (hw : WkN okB (S, L)) (p q : Nat) (t : Bool) (hp : okB (p, q, t)) (pin : Nat) (cp : Array Value) (hpn : (Value.slice xa L.length xc).ownBlock ≠ some pin) (hpR : pin ≠ R) (hpc : w.heap[pin]? = some (.cells cp 126 (0, 0))) (hs : (p, q, t) ∉ S) :
    Calls Tryz.prog 81 #[.pointer (some ⟨R, 0, none⟩), .agg #[.int .i64 (p : Int), .int .i64 (q : Int), .bool t]] w fun e w' => e = .returned (.tuple #[]) ∧ AkTP akB w0 wl R M C0 C1 w' ((p, q, t) :: S, L ++ [(p, q, t)]) pin cp ∧ Kp 126 R w w' := by
  have HPN := Lib.hid hpn
  have HPR := Lib.hid hpR
  have HPC := Lib.hid hpc
  have HPM : Hid (pin ≠ M) := Lib.hid (h.notM hpc)
  have HPL : Hid (pin < w.heap.size) := Lib.hid (Array.getElem?_eq_some_iff.1 hpc).1
  have HWN : Hid (WkN okB ((p, q, t) :: S, L ++ [(p, q, t)])) := Lib.hid (by have := hw.ask hp; unfold askS at this; rw [if_neg hs] at this; exact this)
  have hn : S.length ≤ 45000 := hw.lenS (K := akB)
  have hl : L.length ≤ 45000 := hw.lenL (K := akB)
  have HL := Lib.hid hl
  have HK : Hid (keyOf Tryz.prog 126 (.agg #[.int .i64 (p : Int), .int .i64 (q : Int), .bool t]) = some (klB (p, q, t))) := Lib.hid (keyPB (p, q, t) hp)
  have HPUT : Hid (SetP klB okB (D.put (klB (p, q, t)) (.lit (.bool true))) ((p, q, t) :: S)) := Lib.hid (h.mapb.put klB_inj klB_is (p, q, t) hp)
  have HW1 : Hid (Below w.heap.size w (w.alloc (.cells #[.int .i64 (p : Int), .int .i64 (q : Int), .bool t] 126))) := Lib.hid ((Below.refl _ _).alloc (Nat.le_refl _) _)
  have HX1 : Hid ((w.alloc (.cells #[.int .i64 (p : Int), .int .i64 (q : Int), .bool t] 126)).heap[w.heap.size]? = some (.cells #[.int .i64 (p : Int), .int .i64 (q : Int), .bool t] 126 (0, 0))) := Lib.hid (heap_alloc_new w _)
  have HRW : Hid (R < w.heap.size) := Lib.hid h.ltR
  have HOWN : Hid ((Value.slice xa L.length xc).ownBlock ≠ some w.heap.size) := Lib.hid (fun e => by have := (h.row.lt _ e).2; omega)
  have HMW : Hid (M < w.heap.size) := Lib.hid h.ltM
  have HM1 := Lib.hid (h.on (HW1.out.drew)).map
  have HS0 : Hid (AkS akB w0 wl (w.alloc (.cells #[.int .i64 (p : Int), .int .i64 (q : Int), .bool t] 126)) R M C0 C1 D S xa xc L) := Lib.hid (h.on HW1.out)
  have q2 : (w.alloc (.cells #[.int .i64 (p : Int), .int .i64 (q : Int), .bool t] 126)).cell? ⟨R, 2, none⟩ = some (.map (some M)) := HS0.out.c2
  obtain ⟨v, ps, hrun, hv⟩ := HM1.out.lookup (t := 120) pair126 (by kernel_rfl) (zero4 _) (plainElem_bool Tryz.underlying4 false) HK.out
  obtain ⟨c, rfl, hc⟩ := plainElem_bool_inv Tryz.underlying4 hv
  obtain rfl : c = false := (by have h9 := ak_in h.mapb hp (congrArg Prod.fst hc); cases c with | true => exact absurd (h9.1 rfl) hs | false => rfl)
  clear h hw hp hs hpn hpR hpc hv hc hl
  go_enter Tryz.func81, Tryz.ntmps81
  go_upto_region 1 with (fail)
  generalize hw1 : (w.alloc (.cells #[.int .i64 (p : Int), .int .i64 (q : Int), .bool t] 126)) = w1 at *
  have HSZ : Hid (w.heap.size < w1.heap.size) := Lib.hid (Array.getElem?_eq_some_iff.1 HX1.out).1
  clear hw1
  have b0 : w1.cell? ⟨w.heap.size, 0, none⟩ = some (.int .i64 (p : Int)) := (by rw [cell_of_row _ _ 0 _ 126 _ HX1.out]; rfl)
  have b1 : w1.cell? ⟨w.heap.size, 1, none⟩ = some (.int .i64 (q : Int)) := (by rw [cell_of_row _ _ 1 _ 126 _ HX1.out]; rfl)
  have b2 : w1.cell? ⟨w.heap.size, 2, none⟩ = some (.bool t) := (by rw [cell_of_row _ _ 2 _ 126 _ HX1.out]; rfl)
  go_cut [10] (fun t10 wr => t10 = .bool true ∧ Hid (wr = w1.drew))
  case first =>
    go_region_law (fail)
    all_goals
      go_wp2
      go_meet
      case rel => exact ⟨rfl, Lib.hid rfl⟩
  case rest =>
    obtain ⟨rfl, HWR⟩ := hcut
    obtain ⟨wa, rfl⟩ : ∃ wa : World, wa = wc := ⟨_, rfl⟩
    clear hrun b0 b1 b2 q2
    have HB1 : Hid (Below w1.heap.size w1 wa) := Lib.hid (by rw [HWR.out]; exact (Below.refl _ _).drew)
    have HS1 : Hid (AkS akB w0 wl wa R M C0 C1 D S xa xc L) := Lib.hid (HS0.out.on HB1.out)
    have HS2 : Hid (AkS akB w0 wl wa.drew R M C0 C1 D S xa xc L) := Lib.hid (HS1.out.on (Below.refl _ _).drew)
    have HX1' : Hid (wa.heap[w.heap.size]? = some (.cells #[.int .i64 (p : Int), .int .i64 (q : Int), .bool t] 126 (0, 0))) := Lib.hid ((HB1.out.block _ HSZ.out).trans HX1.out)
    have HSZ' : Hid (w.heap.size < wa.heap.size) := Lib.hid (Nat.lt_of_lt_of_le HSZ.out HB1.out.size)
    have b0 : wa.cell? ⟨w.heap.size, 0, none⟩ = some (.int .i64 (p : Int)) := (by rw [cell_of_row _ _ 0 _ 126 _ HX1'.out]; rfl)
    have b1 : wa.cell? ⟨w.heap.size, 1, none⟩ = some (.int .i64 (q : Int)) := (by rw [cell_of_row _ _ 1 _ 126 _ HX1'.out]; rfl)
    have b2 : wa.cell? ⟨w.heap.size, 2, none⟩ = some (.bool t) := (by rw [cell_of_row _ _ 2 _ 126 _ HX1'.out]; rfl)
    have q2 : wa.cell? ⟨R, 2, none⟩ = some (.map (some M)) := HS1.out.c2
    go_upto_region 2 with (fail)
    go_still_tail 5, (by kernel_rfl)
    refine wpList_mapUpdate_own _ (by rfl) _ _ _ 120 (by rfl) 126 4 pair126 (by kernel_rfl) _ M S.length D (by rfl) HS2.out.map (by unfold maxLen; omega) (.agg #[.int .i64 (p : Int), .int .i64 (q : Int), .bool t]) (.bool true) (klB (p, q, t)) (by rfl) (by rfl) HK.out _ [] (plainElem_bool Tryz.underlying4 true) ?_
    intro w2 hown2 hgr2
    have HU := Lib.hid (HS2.out.upd (S' := (p, q, t) :: S) hgr2 hown2 HPUT.out)
    have HX2 : Hid (w2.heap[w.heap.size]? = some (.cells #[.int .i64 (p : Int), .int .i64 (q : Int), .bool t] 126 (0, 0))) := Lib.hid ((hgr2.block _ (by have := HSZ'.out; simpa using this) (fun e => by have := HMW.out; simp at e; omega)).trans HX1'.out)
    have HPC2 : Hid (w2.heap[pin]? = some (.cells cp 126 (0, 0))) := Lib.hid ((hgr2.block pin (by have h1 := HPL.out; have h2 := HW1.out.size; have h3 := HB1.out.size; show pin < wa.heap.size; omega) (fun e => HPM.out (by cases e; rfl))).trans ((HB1.out.block _ (by have h1 := HPL.out; have h2 := HW1.out.size; omega)).trans ((HW1.out.block _ HPL.out).trans HPC.out)))
    clear b0 b1 b2 q2 hown2 hgr2
    have b0 : w2.cell? ⟨w.heap.size, 0, none⟩ = some (.int .i64 (p : Int)) := (by rw [cell_of_row _ _ 0 _ 126 _ HX2.out]; rfl)
    have b1 : w2.cell? ⟨w.heap.size, 1, none⟩ = some (.int .i64 (q : Int)) := (by rw [cell_of_row _ _ 1 _ 126 _ HX2.out]; rfl)
    have b2 : w2.cell? ⟨w.heap.size, 2, none⟩ = some (.bool t) := (by rw [cell_of_row _ _ 2 _ 126 _ HX2.out]; rfl)
    have q3 : w2.cell? ⟨R, 3, none⟩ = some (.slice xa L.length xc) := HU.out.1.c3
    have q3' : (w2.alloc (.cells #[.int .i64 (p : Int), .int .i64 (q : Int), .bool t] 126)).cell? ⟨R, 3, none⟩ = some (.slice xa L.length xc) := (HU.out.1.on ((Below.refl _ _).alloc (Nat.le_refl _) _)).c3
    have HDR : Hid (Below w2.heap.size w2 w2.drew) := Lib.hid (Below.refl _ _).drew
    have HOD : Hid (w2.drew.ownsRow wl.heap.size 126 3 (.slice xa L.length xc) L.length (L.flatMap pcB)) := Lib.hid HU.out.1.row
    have HLE : Hid (wl.heap.size ≤ (w2.drew.alloc (.cells #[.int .i64 (p : Int), .int .i64 (q : Int), .bool t] 126)).heap.size) := Lib.hid (by have h1 := HU.out.1.lsize; have h2 := HDR.out.size; simp; omega)
    obtain ⟨i0, hi9, hz0, hz1, hz2⟩ := info_parts Tryz.infoPB
    have HIF := Lib.hid hi9
    have HIF0 := Lib.hid hz0
    have HIF1 := Lib.hid hz1
    have HIF2 := Lib.hid hz2
    clear hi9 hz0 hz1 hz2 hn
    go_upto_region 3 with (fail)
    go_region_law
      (first
        | (refine step_append_lies (w2.drew.alloc (.cells #[.int .i64 (p : Int), .int .i64 (q : Int), .bool t] 126)) rfl _ _ 121 rfl wl.heap.size 126 i0 (.agg #[.int .i64 0, .int .i64 0, .bool false]) 3 24 Tryz.underlying121 HIF.out HIF0.out HIF1.out HIF2.out rfl (by decide) (.slice xa L.length xc) L.length (L.flatMap pcB) rfl (HOD.out.alloc _) ⟨w2.heap.size, 0, none⟩ 1 1 [.int .i64 (p : Int), .int .i64 (q : Int), .bool t] rfl rfl (news_of (heap_alloc_new w2.drew _)) (by simp [Value.oneCell']) (by decide) (by unfold maxLen; have := HL.out; omega) (by have := HL.out; omega) HLE.out _ rfl ?_; intro g5 cc5 w5 hown5 hgr5 hat5 hlt5; have HNH := Lib.hid (HU.out.1.push (x := (p, q, t)) HDR.out hgr5 hown5 hat5); have HPP := Lib.hid (HU.out.1.push_pin (c6 := cc5) HDR.out hgr5 hat5 HPN.out HPR.out HPC2.out (.slice (some ⟨g5, 0, none⟩) (L.length + 1) cc5) (L ++ [(p, q, t)])); have q4 : w5.cell? ⟨R, 3, none⟩ = some (.slice xa L.length xc) := (by rw [cell_of_row _ _ 3 _ 123 _ HNH.out.2]; rfl); have p4 : w5.frozen? ⟨R, 3, none⟩ = false := frozen_of_row _ _ 3 _ 123 HNH.out.2; have o4 : R < w5.heap.size := (Array.getElem?_eq_some_iff.1 HNH.out.2).1; clear hown5 hgr5 hat5 hlt5)
        | fail)
    all_goals
      go_wp2
      go_end0
      exact ⟨rfl, ⟨HWN.out, HPR.out, HPP.out.2, _, _, _, HNH.out.1.1, HPP.out.1⟩, (Kp.of_below HW1.out).trans ((Kp.of_below HB1.out).trans ((Kp.of_below ((Below.refl _ _).drew)).trans (HU.out.2.trans HNH.out.1.2)))⟩
theorem askP_any (w0 wl w : World) (R M : Nat) (C0 C1 : Value) (SL : List PrB × List PrB) (p q : Nat) (t : Bool) (hp : okB (p, q, t)) (pin : Nat) (cp : Array Value) (h : AkTP akB w0 wl R M C0 C1 w SL pin cp) :
    Calls Tryz.prog 81 #[.pointer (some ⟨R, 0, none⟩), .agg #[.int .i64 (p : Int), .int .i64 (q : Int), .bool t]] w fun e w' => e = .returned (.tuple #[]) ∧ AkTP akB w0 wl R M C0 C1 w' (askS SL (p, q, t)) pin cp ∧ Kp 126 R w w' := by
  obtain ⟨S, L⟩ := SL
  obtain ⟨hw, hpR, hpc, D, xa, xc, hs, hpn⟩ := h
  by_cases hm : (p, q, t) ∈ S
  · refine (askB_old w0 wl w R M C0 C1 D S xa xc L hs p q t hp hm).mono ?_
    rintro e w' ⟨he, hb⟩
    have e1 : askS (S, L) (p, q, t) = (S, L) := by unfold askS; rw [if_pos hm]
    rw [e1]
    exact ⟨he, ⟨hw, hpR, (hb.block _ (Array.getElem?_eq_some_iff.1 hpc).1).trans hpc, D, xa, xc, hs.on hb, hpn⟩, Kp.of_below hb⟩
  · refine (askP_new w0 wl w R M C0 C1 D S xa xc L hs hw p q t hp pin cp hpn hpR hpc hm).mono ?_
    rintro e w' ⟨he, ha, hk⟩
    have e1 : askS (S, L) (p, q, t) = ((p, q, t) :: S, L ++ [(p, q, t)]) := by unfold askS; rw [if_neg hm]
    rw [e1]
    exact ⟨he, ha, hk⟩
end Go.Proofs.YtifilhkkgkihpaaGreatDoor
namespace Go.Proofs.YtifilhkkgkihpaaGreatDoor
open Go.RowKit
def hdV (h : Hd) : Value := .agg #[.int .i64 h.kd, .slice h.na h.nn h.nc, .slice h.ka h.kn h.kc, .bool h.op]
theorem three_box (w : World) (a b c : Array Value) (T U : TypeId) : (((w.alloc (.cells a T)).alloc (.cells b U)).alloc (.cells c U)).heap[w.heap.size]? = some (.cells a T (0, 0)) ∧ (((w.alloc (.cells a T)).alloc (.cells b U)).alloc (.cells c U)).heap[w.heap.size + 1]? = some (.cells b U (0, 0)) ∧ (((w.alloc (.cells a T)).alloc (.cells b U)).alloc (.cells c U)).heap[w.heap.size + 1 + 1]? = some (.cells c U (0, 0)) ∧ Below w.heap.size w (((w.alloc (.cells a T)).alloc (.cells b U)).alloc (.cells c U)) := by
  refine ⟨?_, ?_, ?_, (((Below.refl _ _).alloc (Nat.le_refl _) _).alloc (by simp) _).alloc (by simp; omega) _⟩
  · rw [Below.heap_alloc _ _ _ (by simp; omega), Below.heap_alloc _ _ _ (by simp)]
    exact heap_alloc_new w _
  · rw [Below.heap_alloc _ _ _ (by simp)]
    have := heap_alloc_new (w.alloc (.cells a T)) (.cells b U)
    simpa using this
  · have := heap_alloc_new ((w.alloc (.cells a T)).alloc (.cells b U)) (.cells c U)
    simpa using this
theorem results_two33 {fn : Func} {p q : Tmp} (h : fn.results = #[.cell p 33, .cell q 33]) (tmps : Array Value) (w : World) (g g2 : Nat) (cs cs2 : Array Value) (hp : tmps.getD p undef = .pointer (some ⟨g, 0, none⟩)) (hq : tmps.getD q undef = .pointer (some ⟨g2, 0, none⟩)) (hg : w.heap[g]? = some (.cells cs 33 (0, 0))) (hg2 : w.heap[g2]? = some (.cells cs2 33 (0, 0))) (hs : cs.size = 4) (hs2 : cs2.size = 4) :
    (results fn tmps).run Tryz.prog w = .ok (.tuple #[.agg cs, .agg cs2]) w := by
  have hi : (Tryz.prog.info? 33).map (·.size) = some cs.size := by rw [hs]; kernel_rfl
  have hi2 : (Tryz.prog.info? 33).map (·.size) = some cs2.size := by rw [hs2]; kernel_rfl
  have hp' : tmps[p]?.getD undef = .pointer (some ⟨g, 0, none⟩) := by simpa using hp
  have hq' : tmps[q]?.getD undef = .pointer (some ⟨g2, 0, none⟩) := by simpa using hq
  simp [results, h, hp', hq', asAddr, run_loadVar_row w g 33 33 cs (0, 0) _ hg Tryz.underlying33 rfl hi, run_loadVar_row w g2 33 33 cs2 (0, 0) _ hg2 Tryz.underlying33 rfl hi2]
set_option maxRecDepth 20000 in
set_option maxHeartbeats 4000000 in
theorem heads_false (w : World) (R : Nat) (la : Option Addr) (NA lc : Nat) (A : List Hd) (lb : Option Addr) (NB ld : Nat) (B : List Hd) (hR : R < w.heap.size) (c0 : w.cell? ⟨R, 0, none⟩ = some (.slice la NA lc)) (c1 : w.cell? ⟨R, 1, none⟩ = some (.slice lb NB ld)) (hA : HeadsIn w la NA A) (hB : HeadsIn w lb NB B) (a b : Nat) (h k : Hd) (h1 : A[a]? = some h) (h2 : B[b]? = some k) :
    Calls Tryz.prog 107 #[.pointer (some ⟨R, 0, none⟩), .agg #[.int .i64 (a : Int), .int .i64 (b : Int), .bool false]] w fun e w' => e = .returned (.tuple #[hdV h, hdV k]) ∧ Below w.heap.size w w' := by
  have hal : a < NA := by have := (List.getElem?_eq_some_iff.1 h1).1; rw [hA.1]; exact this
  have hbl : b < NB := by have := (List.getElem?_eq_some_iff.1 h2).1; rw [hB.1]; exact this
  have hal2 : (a : Int) < NA := by omega
  have hbl2 : (b : Int) < NB := by omega
  obtain ⟨gf, of, ef, hgf, hcf⟩ := (hA.2).resolve_left (by omega)
  obtain ⟨gs, os, es, hgs, hcs⟩ := (hB.2).resolve_left (by omega)
  have rf := hcf a h h1
  have rs := hcs b k h2
  subst ef es
  have HKK : Hid (∀ x y : Array Value, ((((w.alloc (.cells #[.int .i64 (a : Int), .int .i64 (b : Int), .bool false] 126)).alloc (.cells x 33)).alloc (.cells y 33))).cell? ⟨w.heap.size, 0, none⟩ = some (.int .i64 (a : Int)) ∧ ((((w.alloc (.cells #[.int .i64 (a : Int), .int .i64 (b : Int), .bool false] 126)).alloc (.cells x 33)).alloc (.cells y 33))).cell? ⟨w.heap.size, 1, none⟩ = some (.int .i64 (b : Int)) ∧ ((((w.alloc (.cells #[.int .i64 (a : Int), .int .i64 (b : Int), .bool false] 126)).alloc (.cells x 33)).alloc (.cells y 33))).cell? ⟨w.heap.size, 2, none⟩ = some (.bool false) ∧ ((((w.alloc (.cells #[.int .i64 (a : Int), .int .i64 (b : Int), .bool false] 126)).alloc (.cells x 33)).alloc (.cells y 33))).cell? ⟨R, 0, none⟩ = some (.slice (some ⟨gf, of, none⟩) NA lc) ∧ ((((w.alloc (.cells #[.int .i64 (a : Int), .int .i64 (b : Int), .bool false] 126)).alloc (.cells x 33)).alloc (.cells y 33))).cell? ⟨R, 1, none⟩ = some (.slice (some ⟨gs, os, none⟩) NB ld) ∧ ((((w.alloc (.cells #[.int .i64 (a : Int), .int .i64 (b : Int), .bool false] 126)).alloc (.cells x 33)).alloc (.cells y 33))).cell? ⟨gf, of + a * 4, none⟩ = some (.int .i64 h.kd) ∧ ((((w.alloc (.cells #[.int .i64 (a : Int), .int .i64 (b : Int), .bool false] 126)).alloc (.cells x 33)).alloc (.cells y 33))).cell? ⟨gf, of + a * 4 + 1, none⟩ = some (.slice h.na h.nn h.nc) ∧ ((((w.alloc (.cells #[.int .i64 (a : Int), .int .i64 (b : Int), .bool false] 126)).alloc (.cells x 33)).alloc (.cells y 33))).cell? ⟨gf, of + a * 4 + 2, none⟩ = some (.slice h.ka h.kn h.kc) ∧ ((((w.alloc (.cells #[.int .i64 (a : Int), .int .i64 (b : Int), .bool false] 126)).alloc (.cells x 33)).alloc (.cells y 33))).cell? ⟨gf, of + a * 4 + 3, none⟩ = some (.bool h.op) ∧ ((((w.alloc (.cells #[.int .i64 (a : Int), .int .i64 (b : Int), .bool false] 126)).alloc (.cells x 33)).alloc (.cells y 33))).cell? ⟨gs, os + b * 4, none⟩ = some (.int .i64 k.kd) ∧ ((((w.alloc (.cells #[.int .i64 (a : Int), .int .i64 (b : Int), .bool false] 126)).alloc (.cells x 33)).alloc (.cells y 33))).cell? ⟨gs, os + b * 4 + 1, none⟩ = some (.slice k.na k.nn k.nc) ∧ ((((w.alloc (.cells #[.int .i64 (a : Int), .int .i64 (b : Int), .bool false] 126)).alloc (.cells x 33)).alloc (.cells y 33))).cell? ⟨gs, os + b * 4 + 2, none⟩ = some (.slice k.ka k.kn k.kc) ∧ ((((w.alloc (.cells #[.int .i64 (a : Int), .int .i64 (b : Int), .bool false] 126)).alloc (.cells x 33)).alloc (.cells y 33))).cell? ⟨gs, os + b * 4 + 3, none⟩ = some (.bool k.op)) := Lib.hid (fun x y => by
    have hb := (three_box w #[.int .i64 (a : Int), .int .i64 (b : Int), .bool false] x y 126 33)
    exact ⟨by rw [cell_of_row _ _ 0 _ 126 _ hb.1]; rfl, by rw [cell_of_row _ _ 1 _ 126 _ hb.1]; rfl, by rw [cell_of_row _ _ 2 _ 126 _ hb.1]; rfl, keepB hb.2.2.2 hR c0, keepB hb.2.2.2 hR c1, keepB hb.2.2.2 hgf rf.c0, keepB hb.2.2.2 hgf rf.c1, keepB hb.2.2.2 hgf rf.c2, keepB hb.2.2.2 hgf rf.c3, keepB hb.2.2.2 hgs rs.c0, keepB hb.2.2.2 hgs rs.c1, keepB hb.2.2.2 hgs rs.c2, keepB hb.2.2.2 hgs rs.c3⟩)
  have HBX : Hid (∀ x y : Array Value, Below w.heap.size w ((((w.alloc (.cells #[.int .i64 (a : Int), .int .i64 (b : Int), .bool false] 126)).alloc (.cells x 33)).alloc (.cells y 33))) ∧ ((((w.alloc (.cells #[.int .i64 (a : Int), .int .i64 (b : Int), .bool false] 126)).alloc (.cells x 33)).alloc (.cells y 33))).heap[w.heap.size + 1]? = some (.cells x 33 (0, 0)) ∧ ((((w.alloc (.cells #[.int .i64 (a : Int), .int .i64 (b : Int), .bool false] 126)).alloc (.cells x 33)).alloc (.cells y 33))).heap[w.heap.size + 1 + 1]? = some (.cells y 33 (0, 0))) := Lib.hid (fun x y => ⟨(three_box w #[.int .i64 (a : Int), .int .i64 (b : Int), .bool false] x y 126 33).2.2.2, (three_box w #[.int .i64 (a : Int), .int .i64 (b : Int), .bool false] x y 126 33).2.1, (three_box w #[.int .i64 (a : Int), .int .i64 (b : Int), .bool false] x y 126 33).2.2.1⟩)
  have hp2 : ((((w.alloc (.cells #[.int .i64 (a : Int), .int .i64 (b : Int), .bool false] 126)).alloc (.cells #[.int .i64 0, .slice none 0 0, .slice none 0 0, .bool false] 33)).alloc (.cells #[.int .i64 0, .slice none 0 0, .slice none 0 0, .bool false] 33))).cell? ⟨w.heap.size, 2, none⟩ = some (.bool false) := (HKK.out _ _).2.2.1
  clear c0 c1 hA hB h1 h2 hcf hcs hgf hgs hal hbl rf rs hR
  go_enter Tryz.func107, Tryz.ntmps107
  go_upto_region 3 with (fail)
  clear hp2
  go_region_held3 (fun w' => w'.cell? ⟨w.heap.size, 0, none⟩ = some (.int .i64 (a : Int)) ∧ w'.cell? ⟨w.heap.size, 1, none⟩ = some (.int .i64 (b : Int)) ∧ w'.cell? ⟨w.heap.size, 2, none⟩ = some (.bool false) ∧ w'.cell? ⟨R, 0, none⟩ = some (.slice (some ⟨gf, of, none⟩) NA lc) ∧ w'.cell? ⟨R, 1, none⟩ = some (.slice (some ⟨gs, os, none⟩) NB ld) ∧ w'.cell? ⟨gf, of + a * 4, none⟩ = some (.int .i64 h.kd) ∧ w'.cell? ⟨gf, of + a * 4 + 1, none⟩ = some (.slice h.na h.nn h.nc) ∧ w'.cell? ⟨gf, of + a * 4 + 2, none⟩ = some (.slice h.ka h.kn h.kc) ∧ w'.cell? ⟨gf, of + a * 4 + 3, none⟩ = some (.bool h.op) ∧ w'.cell? ⟨gs, os + b * 4, none⟩ = some (.int .i64 k.kd) ∧ w'.cell? ⟨gs, os + b * 4 + 1, none⟩ = some (.slice k.na k.nn k.nc) ∧ w'.cell? ⟨gs, os + b * 4 + 2, none⟩ = some (.slice k.ka k.kn k.kc) ∧ w'.cell? ⟨gs, os + b * 4 + 3, none⟩ = some (.bool k.op)) (first | exact HKK.out _ _ | go_keep) ((fail))
  all_goals
    go_wp2
    (try simp only [Exit.inBlock, Exit.then])
    exact bodyPost_ret (v := .tuple #[hdV h, hdV k]) (results_two33 (fn := Tryz.f107) (p := 4) (q := 5) rfl _ _ (w.heap.size + 1) (w.heap.size + 1 + 1) _ _ rfl rfl (HBX.out _ _).2.1 (HBX.out _ _).2.2 rfl rfl) rfl ⟨rfl, (HBX.out _ _).1.drew⟩
set_option maxRecDepth 20000 in
set_option maxHeartbeats 4000000 in
theorem heads_true (w : World) (R : Nat) (la : Option Addr) (NA lc : Nat) (A : List Hd) (lb : Option Addr) (NB ld : Nat) (B : List Hd) (hR : R < w.heap.size) (c0 : w.cell? ⟨R, 0, none⟩ = some (.slice la NA lc)) (c1 : w.cell? ⟨R, 1, none⟩ = some (.slice lb NB ld)) (hA : HeadsIn w la NA A) (hB : HeadsIn w lb NB B) (a b : Nat) (h k : Hd) (h1 : B[a]? = some h) (h2 : A[b]? = some k) :
    Calls Tryz.prog 107 #[.pointer (some ⟨R, 0, none⟩), .agg #[.int .i64 (a : Int), .int .i64 (b : Int), .bool true]] w fun e w' => e = .returned (.tuple #[hdV h, hdV k]) ∧ Below w.heap.size w w' := by
  have hal : a < NB := by have := (List.getElem?_eq_some_iff.1 h1).1; rw [hB.1]; exact this
  have hbl : b < NA := by have := (List.getElem?_eq_some_iff.1 h2).1; rw [hA.1]; exact this
  have hal2 : (a : Int) < NB := by omega
  have hbl2 : (b : Int) < NA := by omega
  obtain ⟨gf, of, ef, hgf, hcf⟩ := (hB.2).resolve_left (by omega)
  obtain ⟨gs, os, es, hgs, hcs⟩ := (hA.2).resolve_left (by omega)
  have rf := hcf a h h1
  have rs := hcs b k h2
  subst ef es
  have HKK : Hid (∀ x y : Array Value, ((((w.alloc (.cells #[.int .i64 (a : Int), .int .i64 (b : Int), .bool true] 126)).alloc (.cells x 33)).alloc (.cells y 33))).cell? ⟨w.heap.size, 0, none⟩ = some (.int .i64 (a : Int)) ∧ ((((w.alloc (.cells #[.int .i64 (a : Int), .int .i64 (b : Int), .bool true] 126)).alloc (.cells x 33)).alloc (.cells y 33))).cell? ⟨w.heap.size, 1, none⟩ = some (.int .i64 (b : Int)) ∧ ((((w.alloc (.cells #[.int .i64 (a : Int), .int .i64 (b : Int), .bool true] 126)).alloc (.cells x 33)).alloc (.cells y 33))).cell? ⟨w.heap.size, 2, none⟩ = some (.bool true) ∧ ((((w.alloc (.cells #[.int .i64 (a : Int), .int .i64 (b : Int), .bool true] 126)).alloc (.cells x 33)).alloc (.cells y 33))).cell? ⟨R, 1, none⟩ = some (.slice (some ⟨gf, of, none⟩) NB ld) ∧ ((((w.alloc (.cells #[.int .i64 (a : Int), .int .i64 (b : Int), .bool true] 126)).alloc (.cells x 33)).alloc (.cells y 33))).cell? ⟨R, 0, none⟩ = some (.slice (some ⟨gs, os, none⟩) NA lc) ∧ ((((w.alloc (.cells #[.int .i64 (a : Int), .int .i64 (b : Int), .bool true] 126)).alloc (.cells x 33)).alloc (.cells y 33))).cell? ⟨gf, of + a * 4, none⟩ = some (.int .i64 h.kd) ∧ ((((w.alloc (.cells #[.int .i64 (a : Int), .int .i64 (b : Int), .bool true] 126)).alloc (.cells x 33)).alloc (.cells y 33))).cell? ⟨gf, of + a * 4 + 1, none⟩ = some (.slice h.na h.nn h.nc) ∧ ((((w.alloc (.cells #[.int .i64 (a : Int), .int .i64 (b : Int), .bool true] 126)).alloc (.cells x 33)).alloc (.cells y 33))).cell? ⟨gf, of + a * 4 + 2, none⟩ = some (.slice h.ka h.kn h.kc) ∧ ((((w.alloc (.cells #[.int .i64 (a : Int), .int .i64 (b : Int), .bool true] 126)).alloc (.cells x 33)).alloc (.cells y 33))).cell? ⟨gf, of + a * 4 + 3, none⟩ = some (.bool h.op) ∧ ((((w.alloc (.cells #[.int .i64 (a : Int), .int .i64 (b : Int), .bool true] 126)).alloc (.cells x 33)).alloc (.cells y 33))).cell? ⟨gs, os + b * 4, none⟩ = some (.int .i64 k.kd) ∧ ((((w.alloc (.cells #[.int .i64 (a : Int), .int .i64 (b : Int), .bool true] 126)).alloc (.cells x 33)).alloc (.cells y 33))).cell? ⟨gs, os + b * 4 + 1, none⟩ = some (.slice k.na k.nn k.nc) ∧ ((((w.alloc (.cells #[.int .i64 (a : Int), .int .i64 (b : Int), .bool true] 126)).alloc (.cells x 33)).alloc (.cells y 33))).cell? ⟨gs, os + b * 4 + 2, none⟩ = some (.slice k.ka k.kn k.kc) ∧ ((((w.alloc (.cells #[.int .i64 (a : Int), .int .i64 (b : Int), .bool true] 126)).alloc (.cells x 33)).alloc (.cells y 33))).cell? ⟨gs, os + b * 4 + 3, none⟩ = some (.bool k.op)) := Lib.hid (fun x y => by
    have hb := (three_box w #[.int .i64 (a : Int), .int .i64 (b : Int), .bool true] x y 126 33)
    exact ⟨by rw [cell_of_row _ _ 0 _ 126 _ hb.1]; rfl, by rw [cell_of_row _ _ 1 _ 126 _ hb.1]; rfl, by rw [cell_of_row _ _ 2 _ 126 _ hb.1]; rfl, keepB hb.2.2.2 hR c1, keepB hb.2.2.2 hR c0, keepB hb.2.2.2 hgf rf.c0, keepB hb.2.2.2 hgf rf.c1, keepB hb.2.2.2 hgf rf.c2, keepB hb.2.2.2 hgf rf.c3, keepB hb.2.2.2 hgs rs.c0, keepB hb.2.2.2 hgs rs.c1, keepB hb.2.2.2 hgs rs.c2, keepB hb.2.2.2 hgs rs.c3⟩)
  have HBX : Hid (∀ x y : Array Value, Below w.heap.size w ((((w.alloc (.cells #[.int .i64 (a : Int), .int .i64 (b : Int), .bool true] 126)).alloc (.cells x 33)).alloc (.cells y 33))) ∧ ((((w.alloc (.cells #[.int .i64 (a : Int), .int .i64 (b : Int), .bool true] 126)).alloc (.cells x 33)).alloc (.cells y 33))).heap[w.heap.size + 1]? = some (.cells x 33 (0, 0)) ∧ ((((w.alloc (.cells #[.int .i64 (a : Int), .int .i64 (b : Int), .bool true] 126)).alloc (.cells x 33)).alloc (.cells y 33))).heap[w.heap.size + 1 + 1]? = some (.cells y 33 (0, 0))) := Lib.hid (fun x y => ⟨(three_box w #[.int .i64 (a : Int), .int .i64 (b : Int), .bool true] x y 126 33).2.2.2, (three_box w #[.int .i64 (a : Int), .int .i64 (b : Int), .bool true] x y 126 33).2.1, (three_box w #[.int .i64 (a : Int), .int .i64 (b : Int), .bool true] x y 126 33).2.2.1⟩)
  have hp2 : ((((w.alloc (.cells #[.int .i64 (a : Int), .int .i64 (b : Int), .bool true] 126)).alloc (.cells #[.int .i64 0, .slice none 0 0, .slice none 0 0, .bool false] 33)).alloc (.cells #[.int .i64 0, .slice none 0 0, .slice none 0 0, .bool false] 33))).cell? ⟨w.heap.size, 2, none⟩ = some (.bool true) := (HKK.out _ _).2.2.1
  clear c0 c1 hA hB h1 h2 hcf hcs hgf hgs hal hbl rf rs hR
  go_enter Tryz.func107, Tryz.ntmps107
  go_upto_region 2 with (fail)
  clear hp2
  go_region_held3 (fun w' => w'.cell? ⟨w.heap.size, 0, none⟩ = some (.int .i64 (a : Int)) ∧ w'.cell? ⟨w.heap.size, 1, none⟩ = some (.int .i64 (b : Int)) ∧ w'.cell? ⟨w.heap.size, 2, none⟩ = some (.bool true) ∧ w'.cell? ⟨R, 1, none⟩ = some (.slice (some ⟨gf, of, none⟩) NB ld) ∧ w'.cell? ⟨R, 0, none⟩ = some (.slice (some ⟨gs, os, none⟩) NA lc) ∧ w'.cell? ⟨gf, of + a * 4, none⟩ = some (.int .i64 h.kd) ∧ w'.cell? ⟨gf, of + a * 4 + 1, none⟩ = some (.slice h.na h.nn h.nc) ∧ w'.cell? ⟨gf, of + a * 4 + 2, none⟩ = some (.slice h.ka h.kn h.kc) ∧ w'.cell? ⟨gf, of + a * 4 + 3, none⟩ = some (.bool h.op) ∧ w'.cell? ⟨gs, os + b * 4, none⟩ = some (.int .i64 k.kd) ∧ w'.cell? ⟨gs, os + b * 4 + 1, none⟩ = some (.slice k.na k.nn k.nc) ∧ w'.cell? ⟨gs, os + b * 4 + 2, none⟩ = some (.slice k.ka k.kn k.kc) ∧ w'.cell? ⟨gs, os + b * 4 + 3, none⟩ = some (.bool k.op)) (first | exact HKK.out _ _ | go_keep) ((fail))
  all_goals
    go_wp2
    (try simp only [Exit.inBlock, Exit.then])
    exact bodyPost_ret (v := .tuple #[hdV h, hdV k]) (results_two33 (fn := Tryz.f107) (p := 4) (q := 5) rfl _ _ (w.heap.size + 1) (w.heap.size + 1 + 1) _ _ rfl rfl (HBX.out _ _).2.1 (HBX.out _ _).2.2 rfl rfl) rfl ⟨rfl, (HBX.out _ _).1.drew⟩
set_option maxRecDepth 20000 in
set_option maxHeartbeats 4000000 in
theorem any_false (w : World) (R : Nat) (la : Option Addr) (NA lc : Nat) (A : List Hd) (lb : Option Addr) (NB ld : Nat) (B : List Hd) (hR : R < w.heap.size) (c0 : w.cell? ⟨R, 0, none⟩ = some (.slice la NA lc)) (c1 : w.cell? ⟨R, 1, none⟩ = some (.slice lb NB ld)) (hA : HeadsIn w la NA A) (hB : HeadsIn w lb NB B) (a b i : Nat) (z : Hd) (hz : B[i]? = some z) :
    Calls Tryz.prog 143 #[.pointer (some ⟨R, 0, none⟩), .agg #[.int .i64 (a : Int), .int .i64 (b : Int), .bool false], .int .i64 (i : Int)] w (BoolPost w (z.kd == 5)) := by
  have hba : Below w.heap.size w (w.alloc (.cells #[.int .i64 (a : Int), .int .i64 (b : Int), .bool false] 126)) := (Below.refl _ _).alloc (Nat.le_refl _) _
  have hx : (w.alloc (.cells #[.int .i64 (a : Int), .int .i64 (b : Int), .bool false] 126)).heap[w.heap.size]? = some (.cells #[.int .i64 (a : Int), .int .i64 (b : Int), .bool false] 126 (0, 0)) := heap_alloc_new w _
  have HB := Lib.hid hba
  have HX := Lib.hid hx
  have hil : i < NB := by have := (List.getElem?_eq_some_iff.1 hz).1; rw [hB.1]; exact this
  have hil2 : (i : Int) < NB := by omega
  obtain ⟨gs, os, es, hgs, hcs⟩ := ((hB.on hba).2).resolve_left (by omega)
  have rs := (hcs i z hz).c0
  have d0 := keepB hba hR c1
  subst es
  clear c0 c1 hA hB hz hcs hgs hba hx hil
  generalize z.kd = zk at *
  go_enter Tryz.func143, Tryz.ntmps143
  go_upto_region 1 with (fail)
  obtain ⟨w1, hw1⟩ : ∃ w1, (w.alloc (.cells #[.int .i64 (a : Int), .int .i64 (b : Int), .bool false] 126)) = w1 := ⟨_, rfl⟩
  rw [hw1] at HB HX rs d0 ⊢
  clear hw1
  have p2 : w1.cell? ⟨w.heap.size, 2, none⟩ = some (.bool false) := (by rw [cell_of_row _ _ 2 _ 126 _ HX.out]; rfl)
  go_wp2
  go_ret
  exact ⟨rfl, HB.out⟩
set_option maxRecDepth 20000 in
set_option maxHeartbeats 4000000 in
theorem any_true (w : World) (R : Nat) (la : Option Addr) (NA lc : Nat) (A : List Hd) (lb : Option Addr) (NB ld : Nat) (B : List Hd) (hR : R < w.heap.size) (c0 : w.cell? ⟨R, 0, none⟩ = some (.slice la NA lc)) (c1 : w.cell? ⟨R, 1, none⟩ = some (.slice lb NB ld)) (hA : HeadsIn w la NA A) (hB : HeadsIn w lb NB B) (a b i : Nat) (z : Hd) (hz : A[i]? = some z) :
    Calls Tryz.prog 143 #[.pointer (some ⟨R, 0, none⟩), .agg #[.int .i64 (a : Int), .int .i64 (b : Int), .bool true], .int .i64 (i : Int)] w (BoolPost w (z.kd == 5)) := by
  have hba : Below w.heap.size w (w.alloc (.cells #[.int .i64 (a : Int), .int .i64 (b : Int), .bool true] 126)) := (Below.refl _ _).alloc (Nat.le_refl _) _
  have hx : (w.alloc (.cells #[.int .i64 (a : Int), .int .i64 (b : Int), .bool true] 126)).heap[w.heap.size]? = some (.cells #[.int .i64 (a : Int), .int .i64 (b : Int), .bool true] 126 (0, 0)) := heap_alloc_new w _
  have HB := Lib.hid hba
  have HX := Lib.hid hx
  have hil : i < NA := by have := (List.getElem?_eq_some_iff.1 hz).1; rw [hA.1]; exact this
  have hil2 : (i : Int) < NA := by omega
  obtain ⟨gs, os, es, hgs, hcs⟩ := ((hA.on hba).2).resolve_left (by omega)
  have rs := (hcs i z hz).c0
  have d0 := keepB hba hR c0
  subst es
  clear c0 c1 hA hB hz hcs hgs hba hx hil
  generalize z.kd = zk at *
  go_enter Tryz.func143, Tryz.ntmps143
  go_upto_region 1 with (fail)
  obtain ⟨w1, hw1⟩ : ∃ w1, (w.alloc (.cells #[.int .i64 (a : Int), .int .i64 (b : Int), .bool true] 126)) = w1 := ⟨_, rfl⟩
  rw [hw1] at HB HX rs d0 ⊢
  clear hw1
  have p2 : w1.cell? ⟨w.heap.size, 2, none⟩ = some (.bool true) := (by rw [cell_of_row _ _ 2 _ 126 _ HX.out]; rfl)
  go_wp2
  go_ret
  exact ⟨rfl, HB.out⟩
theorem heads_ok (w : World) (R : Nat) (la : Option Addr) (NA lc : Nat) (A : List Hd) (lb : Option Addr) (NB ld : Nat) (B : List Hd) (hR : R < w.heap.size) (c0 : w.cell? ⟨R, 0, none⟩ = some (.slice la NA lc)) (c1 : w.cell? ⟨R, 1, none⟩ = some (.slice lb NB ld)) (hA : HeadsIn w la NA A) (hB : HeadsIn w lb NB B) (a b : Nat) (t : Bool) (h k : Hd) (h1 : (rowB A B t)[a]? = some h) (h2 : (rowB A B (!t))[b]? = some k) :
    Calls Tryz.prog 107 #[.pointer (some ⟨R, 0, none⟩), .agg #[.int .i64 (a : Int), .int .i64 (b : Int), .bool t]] w fun e w' => e = .returned (.tuple #[hdV h, hdV k]) ∧ Below w.heap.size w w' := by
  cases t with
  | false => exact heads_false w R la NA lc A lb NB ld B hR c0 c1 hA hB a b h k h1 h2
  | true => exact heads_true w R la NA lc A lb NB ld B hR c0 c1 hA hB a b h k h1 h2
theorem any_ok (w : World) (R : Nat) (la : Option Addr) (NA lc : Nat) (A : List Hd) (lb : Option Addr) (NB ld : Nat) (B : List Hd) (hR : R < w.heap.size) (c0 : w.cell? ⟨R, 0, none⟩ = some (.slice la NA lc)) (c1 : w.cell? ⟨R, 1, none⟩ = some (.slice lb NB ld)) (hA : HeadsIn w la NA A) (hB : HeadsIn w lb NB B) (a b : Nat) (t : Bool) (i : Nat) (z : Hd) (hz : (rowB A B (!t))[i]? = some z) :
    Calls Tryz.prog 143 #[.pointer (some ⟨R, 0, none⟩), .agg #[.int .i64 (a : Int), .int .i64 (b : Int), .bool t], .int .i64 (i : Int)] w (BoolPost w (z.kd == 5)) := by
  cases t with
  | false => exact any_false w R la NA lc A lb NB ld B hR c0 c1 hA hB a b i z hz
  | true => exact any_true w R la NA lc A lb NB ld B hR c0 c1 hA hB a b i z hz
end Go.Proofs.YtifilhkkgkihpaaGreatDoor
