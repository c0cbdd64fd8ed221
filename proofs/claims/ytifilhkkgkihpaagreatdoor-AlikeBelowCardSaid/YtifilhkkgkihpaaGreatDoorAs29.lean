/- Walks: alike's ask. Walks: alike's ask. Walks: alike's ask, of any pair. Walks: alike's kid, ends. Walks: alike's records. -/
import Derived.Test.YtifilhkkgkihpaaGreatDoorAs21
import Derived.Test.YtifilhkkgkihpaaGreatDoorAs27
import Derived.Test.YtifilhkkgkihpaaGreatDoorAs28
import Derived.BigQuiet
import Derived.StillTailTactics
set_option linter.unusedSimpArgs false
set_option linter.unusedVariables false
set_option linter.unusedSimpArgs false
set_option linter.unusedVariables false
namespace Go.Proofs.YtifilhkkgkihpaaGreatDoor
open Go.RowKit
end Go.Proofs.YtifilhkkgkihpaaGreatDoor
set_option linter.unusedSimpArgs false
set_option linter.unusedVariables false
namespace Go.Proofs.YtifilhkkgkihpaaGreatDoor
open Go.RowKit
theorem ak_in {α : Type} [DecidableEq α] {S : List α} {kl : α → Lit} {ok : α → Prop} {D : DataW Unit} (h : SetP kl ok D S) {q : α} (hq : ok q) {c : Bool} (hc : D.atKey (kl q) (.lit (.bool false)) = .lit (.bool c)) : (c = true ↔ q ∈ S) := by
  rw [h.at_ q hq] at hc
  injection hc with hc
  injection hc with hc
  rw [← hc]
  exact decide_eq_true_iff
set_option maxRecDepth 20000 in
set_option maxHeartbeats 4000000 in
theorem askA_old (w0 wl w : World) (R M : Nat) (C0 C1 : Value) (D : DataW Unit) (S : List PrA) (xa : Option Addr) (xc : Nat) (L : List PrA) (h : AkS akA w0 wl w R M C0 C1 D S xa xc L) (p q : Nat) (hp : okA (p, q)) (hs : (p, q) ∈ S) :
    Calls Tryz.prog 85 #[.pointer (some ⟨R, 0, none⟩), .int .i64 (p : Int), .int .i64 (q : Int)] w fun e w' => e = .returned (.tuple #[]) ∧ Below w.heap.size w w' := by
  have HS := Lib.hid h
  have HK : Hid (keyOf Tryz.prog 141 (.agg #[.int .i64 (p : Int), .int .i64 (q : Int)]) = some (klA (p, q))) := Lib.hid (keyA (p, q) hp)
  have HW1 : Hid (Below w.heap.size w (w.alloc (.cells #[.int .i64 (p : Int), .int .i64 (q : Int)] 141))) := Lib.hid ((Below.refl _ _).alloc (Nat.le_refl _) _)
  have r2 : w.cell? ⟨R, 2, none⟩ = some (.map (some M)) := h.c2
  have HM1 := Lib.hid (h.on (HW1.out.drew)).map
  have q2 : (w.alloc (.cells #[.int .i64 (p : Int), .int .i64 (q : Int)] 141)).cell? ⟨R, 2, none⟩ = some (.map (some M)) := (h.on HW1.out).c2
  obtain ⟨v, ps, hrun, hv⟩ := HM1.out.lookup (t := 134) pair141 (by kernel_rfl) (zero4 _) (plainElem_bool Tryz.underlying4 false) HK.out
  obtain ⟨c, rfl, hc⟩ := plainElem_bool_inv Tryz.underlying4 hv
  obtain rfl : c = true := ((ak_in h.mapb hp (congrArg Prod.fst hc)).2 hs)
  clear h hp hs r2 hv hc
  go_enter Tryz.func85, Tryz.ntmps85
  go_upto_region 1 with (fail)
  go_region_law (fail)
  all_goals (go_wp2; go_end0; exact ⟨rfl, HW1.out.drew⟩)
end Go.Proofs.YtifilhkkgkihpaaGreatDoor
set_option linter.unusedSimpArgs false
set_option linter.unusedVariables false
namespace Go.Proofs.YtifilhkkgkihpaaGreatDoor
open Go.RowKit
theorem Tryz.infoPA : (Tryz.prog.info? 141).map (fun i => (i.zero, i.size, i.bytes)) = some (some (.agg #[.int .i64 0, .int .i64 0]), 2, 16) := by kernel_rfl
set_option maxRecDepth 20000 in
set_option maxHeartbeats 4000000 in
theorem askA_new (w0 wl w : World) (R M : Nat) (C0 C1 : Value) (D : DataW Unit) (S : List PrA) (xa : Option Addr) (xc : Nat) (L : List PrA) (h : AkS akA w0 wl w R M C0 C1 D S xa xc L) (hw : WkN okA (S, L)) (p q : Nat) (hp : okA (p, q)) (hs : (p, q) ∉ S) :
    Calls Tryz.prog 85 #[.pointer (some ⟨R, 0, none⟩), .int .i64 (p : Int), .int .i64 (q : Int)] w fun e w' => e = .returned (.tuple #[]) ∧ AkT akA w0 wl R M C0 C1 w' ((p, q) :: S, L ++ [(p, q)]) ∧ Kp 141 R w w' := by
  have HWN : Hid (WkN okA ((p, q) :: S, L ++ [(p, q)])) := Lib.hid (by have := hw.ask hp; unfold askS at this; rw [if_neg hs] at this; exact this)
  have hn : S.length ≤ 90000 := hw.lenS (K := akA)
  have hl : L.length ≤ 90000 := hw.lenL (K := akA)
  have HL := Lib.hid hl
  have HK : Hid (keyOf Tryz.prog 141 (.agg #[.int .i64 (p : Int), .int .i64 (q : Int)]) = some (klA (p, q))) := Lib.hid (keyA (p, q) hp)
  have HPUT : Hid (SetP klA okA (D.put (klA (p, q)) (.lit (.bool true))) ((p, q) :: S)) := Lib.hid (h.mapb.put klA_inj klA_is (p, q) hp)
  have HW1 : Hid (Below w.heap.size w (w.alloc (.cells #[.int .i64 (p : Int), .int .i64 (q : Int)] 141))) := Lib.hid ((Below.refl _ _).alloc (Nat.le_refl _) _)
  have HX1 : Hid ((w.alloc (.cells #[.int .i64 (p : Int), .int .i64 (q : Int)] 141)).heap[w.heap.size]? = some (.cells #[.int .i64 (p : Int), .int .i64 (q : Int)] 141 (0, 0))) := Lib.hid (heap_alloc_new w _)
  have HRW : Hid (R < w.heap.size) := Lib.hid h.ltR
  have HOWN : Hid ((Value.slice xa L.length xc).ownBlock ≠ some w.heap.size) := Lib.hid (fun e => by have := (h.row.lt _ e).2; omega)
  have HMW : Hid (M < w.heap.size) := Lib.hid h.ltM
  have HM1 := Lib.hid (h.on (HW1.out.drew)).map
  have HS0 : Hid (AkS akA w0 wl (w.alloc (.cells #[.int .i64 (p : Int), .int .i64 (q : Int)] 141)) R M C0 C1 D S xa xc L) := Lib.hid (h.on HW1.out)
  have q2 : (w.alloc (.cells #[.int .i64 (p : Int), .int .i64 (q : Int)] 141)).cell? ⟨R, 2, none⟩ = some (.map (some M)) := HS0.out.c2
  obtain ⟨v, ps, hrun, hv⟩ := HM1.out.lookup (t := 134) pair141 (by kernel_rfl) (zero4 _) (plainElem_bool Tryz.underlying4 false) HK.out
  obtain ⟨c, rfl, hc⟩ := plainElem_bool_inv Tryz.underlying4 hv
  obtain rfl : c = false := (by have h9 := ak_in h.mapb hp (congrArg Prod.fst hc); cases c with | true => exact absurd (h9.1 rfl) hs | false => rfl)
  clear h hw hp hs hv hc hl
  go_enter Tryz.func85, Tryz.ntmps85
  go_upto_region 1 with (fail)
  generalize hw1 : (w.alloc (.cells #[.int .i64 (p : Int), .int .i64 (q : Int)] 141)) = w1 at *
  have HSZ : Hid (w.heap.size < w1.heap.size) := Lib.hid (Array.getElem?_eq_some_iff.1 HX1.out).1
  clear hw1
  have b0 : w1.cell? ⟨w.heap.size, 0, none⟩ = some (.int .i64 (p : Int)) := (by rw [cell_of_row _ _ 0 _ 141 _ HX1.out]; rfl)
  have b1 : w1.cell? ⟨w.heap.size, 1, none⟩ = some (.int .i64 (q : Int)) := (by rw [cell_of_row _ _ 1 _ 141 _ HX1.out]; rfl)
  go_cut [16] (fun t16 wr => t16 = .bool true ∧ Hid (wr = w1.drew))
  case first =>
    go_region_law (fail)
    all_goals
      go_wp2
      go_meet
      case rel => exact ⟨rfl, Lib.hid rfl⟩
  case rest =>
    obtain ⟨rfl, HWR⟩ := hcut
    obtain ⟨wa, rfl⟩ : ∃ wa : World, wa = wc := ⟨_, rfl⟩
    clear hrun b0 b1 q2
    have HB1 : Hid (Below w1.heap.size w1 wa) := Lib.hid (by rw [HWR.out]; exact (Below.refl _ _).drew)
    have HS1 : Hid (AkS akA w0 wl wa R M C0 C1 D S xa xc L) := Lib.hid (HS0.out.on HB1.out)
    have HS2 : Hid (AkS akA w0 wl wa.drew R M C0 C1 D S xa xc L) := Lib.hid (HS1.out.on (Below.refl _ _).drew)
    have HX1' : Hid (wa.heap[w.heap.size]? = some (.cells #[.int .i64 (p : Int), .int .i64 (q : Int)] 141 (0, 0))) := Lib.hid ((HB1.out.block _ HSZ.out).trans HX1.out)
    have HSZ' : Hid (w.heap.size < wa.heap.size) := Lib.hid (Nat.lt_of_lt_of_le HSZ.out HB1.out.size)
    have b0 : wa.cell? ⟨w.heap.size, 0, none⟩ = some (.int .i64 (p : Int)) := (by rw [cell_of_row _ _ 0 _ 141 _ HX1'.out]; rfl)
    have b1 : wa.cell? ⟨w.heap.size, 1, none⟩ = some (.int .i64 (q : Int)) := (by rw [cell_of_row _ _ 1 _ 141 _ HX1'.out]; rfl)
    have q2 : wa.cell? ⟨R, 2, none⟩ = some (.map (some M)) := HS1.out.c2
    go_upto_region 2 with (fail)
    go_still_tail 5, (by kernel_rfl)
    refine wpList_mapUpdate_own _ (by rfl) _ _ _ 134 (by rfl) 141 4 pair141 (by kernel_rfl) _ M S.length D (by rfl) HS2.out.map (by unfold maxLen; omega) (.agg #[.int .i64 (p : Int), .int .i64 (q : Int)]) (.bool true) (klA (p, q)) (by rfl) (by rfl) HK.out _ [] (plainElem_bool Tryz.underlying4 true) ?_
    intro w2 hown2 hgr2
    have HU := Lib.hid (HS2.out.upd (S' := (p, q) :: S) hgr2 hown2 HPUT.out)
    have HX2 : Hid (w2.heap[w.heap.size]? = some (.cells #[.int .i64 (p : Int), .int .i64 (q : Int)] 141 (0, 0))) := Lib.hid ((hgr2.block _ (by have := HSZ'.out; simpa using this) (fun e => by have := HMW.out; simp at e; omega)).trans HX1'.out)
    clear b0 b1 q2 hown2 hgr2
    have b0 : w2.cell? ⟨w.heap.size, 0, none⟩ = some (.int .i64 (p : Int)) := (by rw [cell_of_row _ _ 0 _ 141 _ HX2.out]; rfl)
    have b1 : w2.cell? ⟨w.heap.size, 1, none⟩ = some (.int .i64 (q : Int)) := (by rw [cell_of_row _ _ 1 _ 141 _ HX2.out]; rfl)
    have q3 : w2.cell? ⟨R, 3, none⟩ = some (.slice xa L.length xc) := HU.out.1.c3
    have q3' : (w2.alloc (.cells #[.int .i64 (p : Int), .int .i64 (q : Int)] 141)).cell? ⟨R, 3, none⟩ = some (.slice xa L.length xc) := (HU.out.1.on ((Below.refl _ _).alloc (Nat.le_refl _) _)).c3
    have HDR : Hid (Below w2.heap.size w2 w2.drew) := Lib.hid (Below.refl _ _).drew
    have HOD : Hid (w2.drew.ownsRow wl.heap.size 141 2 (.slice xa L.length xc) L.length (L.flatMap pcA)) := Lib.hid HU.out.1.row
    have HLE : Hid (wl.heap.size ≤ (w2.drew.alloc (.cells #[.int .i64 (p : Int), .int .i64 (q : Int)] 141)).heap.size) := Lib.hid (by have h1 := HU.out.1.lsize; have h2 := HDR.out.size; simp; omega)
    obtain ⟨i0, hi9, hz0, hz1, hz2⟩ := info_parts Tryz.infoPA
    have HIF := Lib.hid hi9
    have HIF0 := Lib.hid hz0
    have HIF1 := Lib.hid hz1
    have HIF2 := Lib.hid hz2
    clear hi9 hz0 hz1 hz2 hn
    go_upto_region 3 with (fail)
    go_region_law
      (first
        | (refine step_append_lies (w2.drew.alloc (.cells #[.int .i64 (p : Int), .int .i64 (q : Int)] 141)) rfl _ _ 135 rfl wl.heap.size 141 i0 (.agg #[.int .i64 0, .int .i64 0]) 2 16 Tryz.underlying135 HIF.out HIF0.out HIF1.out HIF2.out rfl (by decide) (.slice xa L.length xc) L.length (L.flatMap pcA) rfl (HOD.out.alloc _) ⟨w2.heap.size, 0, none⟩ 1 1 [.int .i64 (p : Int), .int .i64 (q : Int)] rfl rfl (news_of (heap_alloc_new w2.drew _)) (by simp [Value.oneCell']) (by decide) (by unfold maxLen; have := HL.out; omega) (by have := HL.out; omega) HLE.out _ rfl ?_; intro g5 cc5 w5 hown5 hgr5 hat5 hlt5; have HNH := Lib.hid (HU.out.1.push (x := (p, q)) HDR.out hgr5 hown5 hat5); have q4 : w5.cell? ⟨R, 3, none⟩ = some (.slice xa L.length xc) := (by rw [cell_of_row _ _ 3 _ 137 _ HNH.out.2]; rfl); have p4 : w5.frozen? ⟨R, 3, none⟩ = false := frozen_of_row _ _ 3 _ 137 HNH.out.2; have o4 : R < w5.heap.size := (Array.getElem?_eq_some_iff.1 HNH.out.2).1; clear hown5 hgr5 hat5 hlt5)
        | fail)
    all_goals
      go_wp2
      go_end0
      exact ⟨rfl, ⟨HWN.out, _, _, _, HNH.out.1.1⟩, (Kp.of_below HW1.out).trans ((Kp.of_below HB1.out).trans ((Kp.of_below ((Below.refl _ _).drew)).trans (HU.out.2.trans HNH.out.1.2)))⟩
theorem askA_any (w0 wl w : World) (R M : Nat) (C0 C1 : Value) (SL : List PrA × List PrA) (h : AkT akA w0 wl R M C0 C1 w SL) (p q : Nat) (hp : okA (p, q)) :
    Calls Tryz.prog 85 #[.pointer (some ⟨R, 0, none⟩), .int .i64 (p : Int), .int .i64 (q : Int)] w fun e w' => e = .returned (.tuple #[]) ∧ AkT akA w0 wl R M C0 C1 w' (askS SL (p, q)) ∧ Kp 141 R w w' := by
  obtain ⟨S, L⟩ := SL
  obtain ⟨hw, D, xa, xc, hs⟩ := h
  by_cases hm : (p, q) ∈ S
  · refine (askA_old w0 wl w R M C0 C1 D S xa xc L hs p q hp hm).mono ?_
    rintro e w' ⟨he, hb⟩
    have e1 : askS (S, L) (p, q) = (S, L) := by unfold askS; rw [if_pos hm]
    rw [e1]
    exact ⟨he, ⟨hw, D, xa, xc, hs.on hb⟩, Kp.of_below hb⟩
  · refine (askA_new w0 wl w R M C0 C1 D S xa xc L hs hw p q hp hm).mono ?_
    rintro e w' ⟨he, ha, hk⟩
    have e1 : askS (S, L) (p, q) = ((p, q) :: S, L ++ [(p, q)]) := by unfold askS; rw [if_neg hm]
    rw [e1]
    exact ⟨he, ha, hk⟩
end Go.Proofs.YtifilhkkgkihpaaGreatDoor
set_option linter.unusedSimpArgs false
set_option linter.unusedVariables false
namespace Go.Proofs.YtifilhkkgkihpaaGreatDoor
open Go.RowKit
def kidV (dyn : Nat) (kd : Int) (NS : List ByteArray) (KS : List Int) (s : ByteArray) : Int := if kd = 4 then (dyn : Int) else findK NS KS s
set_option maxRecDepth 20000 in
set_option maxHeartbeats 2000000 in
theorem kidA_dyn (w : World) (R dyn : Nat) (hR : R < w.heap.size) (hd : w.cell? ⟨R, 1, none⟩ = some (.int .i64 (dyn : Int))) (kd : Int) (na : Option Addr) (nn nc : Nat) (NS : List ByteArray) (ka : Option Addr) (kn kc : Nat) (KS : List Int) (op : Bool) (s : ByteArray) (h4 : kd = 4) :
    Calls Tryz.prog 146 #[.pointer (some ⟨R, 0, none⟩), .agg #[.int .i64 kd, .slice na nn nc, .slice ka kn kc, .bool op], .string s] w (IntPost w (dyn : Int)) := by
  subst h4
  have hba : Below w.heap.size w (w.alloc (.cells #[.int .i64 4, .slice na nn nc, .slice ka kn kc, .bool op] 33)) := (Below.refl _ _).alloc (Nat.le_refl _) _
  have HB := Lib.hid hba
  have d1 : (w.alloc (.cells #[.int .i64 4, .slice na nn nc, .slice ka kn kc, .bool op] 33)).cell? ⟨R, 1, none⟩ = some (.int .i64 (dyn : Int)) := keepB hba hR hd
  clear hba hd
  go_enter Tryz.func146, Tryz.ntmps146
  go_wp2
  go_ret
  exact ⟨rfl, HB.out⟩
set_option maxRecDepth 20000 in
set_option maxHeartbeats 2000000 in
theorem kidA_name (w : World) (R dyn : Nat) (hR : R < w.heap.size) (hd : w.cell? ⟨R, 1, none⟩ = some (.int .i64 (dyn : Int))) (kd : Int) (na : Option Addr) (nn nc : Nat) (NS : List ByteArray) (ka : Option Addr) (kn kc : Nat) (KS : List Int) (op : Bool) (s : ByteArray) (h4 : kd ≠ 4) (hN : NamesAt w na nn NS) (hK : IntsAt w ka kn KS) (hn : nn ≤ 100000) (hl : nn = kn) (hr : risesB NS = true) :
    Calls Tryz.prog 146 #[.pointer (some ⟨R, 0, none⟩), .agg #[.int .i64 kd, .slice na nn nc, .slice ka kn kc, .bool op], .string s] w (IntPost w (findK NS KS s)) := by
  have h4' : (kd == 4) = false := by simpa using h4
  clear h4
  have hxb : (w.alloc (.cells #[.int .i64 kd, .slice na nn nc, .slice ka kn kc, .bool op] 33)).heap[w.heap.size]? = some (.cells #[.int .i64 kd, .slice na nn nc, .slice ka kn kc, .bool op] 33 (0, 0)) := heap_alloc_new w _
  have hba : Below w.heap.size w (w.alloc (.cells #[.int .i64 kd, .slice na nn nc, .slice ka kn kc, .bool op] 33)) := (Below.refl _ _).alloc (Nat.le_refl _) _
  have hbs := bs_names (w.alloc (.cells #[.int .i64 kd, .slice na nn nc, .slice ka kn kc, .bool op] 33)) na nn nc NS s (hN.on hba) hn hr
  have hkk := hK.on hba
  have b0 : (w.alloc (.cells #[.int .i64 kd, .slice na nn nc, .slice ka kn kc, .bool op] 33)).cell? ⟨w.heap.size, 0, none⟩ = some (.int .i64 kd) := by rw [cell_of_row _ _ 0 _ 33 _ hxb]; rfl
  have b1 : (w.alloc (.cells #[.int .i64 kd, .slice na nn nc, .slice ka kn kc, .bool op] 33)).cell? ⟨w.heap.size, 1, none⟩ = some (.slice na nn nc) := by rw [cell_of_row _ _ 1 _ 33 _ hxb]; rfl
  have b2 : (w.alloc (.cells #[.int .i64 kd, .slice na nn nc, .slice ka kn kc, .bool op] 33)).cell? ⟨w.heap.size, 2, none⟩ = some (.slice ka kn kc) := by rw [cell_of_row _ _ 2 _ 33 _ hxb]; rfl
  have HB := Lib.hid hba
  have hfl := find_low NS KS s hr (by rw [← hN.1, ← hK.1]; exact hl)
  rcases hfl with ⟨h1, k, h2, h3, h4⟩ | ⟨h1, h4⟩
  · have hlt : lowN NS s < kn := by rw [hK.1]; exact (List.getElem?_eq_some_iff.1 h2).1
    obtain ⟨gk, ok, rfl, hgk, hck⟩ := hkk.2.resolve_left (by omega)
    have ck := hck _ _ h2
    have hlt2 : ((lowN NS s : Nat) : Int) < kn := by omega
    rw [h1] at hbs
    have HBS := Lib.hid hbs
    have H4 := Lib.hid h4
    clear hbs h1 h2 h3 h4 hck hxb hkk hN hK hr hba hl hd hR
    go_enter Tryz.func146, Tryz.ntmps146
    go_upto_region 1 with (fail)
    generalize (w.alloc (.cells #[.int .i64 kd, .slice na nn nc, .slice (some ⟨gk, ok, none⟩) kn kc, .bool op] 33)) = w1 at *
    generalize lowN NS s = p at *
    go_wp2_with (go_at_call 144; refine HBS.out.mono ?_; rintro e w' ⟨rfl, rfl⟩)
    go_ret
    exact ⟨by rw [H4.out]; rfl, HB.out⟩
  · rw [h1] at hbs
    have HBS := Lib.hid hbs
    have H4 := Lib.hid h4
    clear hbs h1 h4 hxb hkk hN hK hr hba hl hd hR
    go_enter Tryz.func146, Tryz.ntmps146
    go_wp2_with (go_at_call 144; refine HBS.out.mono ?_; rintro e w' ⟨rfl, rfl⟩)
    go_ret
    exact ⟨by rw [H4.out]; rfl, HB.out⟩
theorem kidA_any (w : World) (R dyn : Nat) (hR : R < w.heap.size) (hd : w.cell? ⟨R, 1, none⟩ = some (.int .i64 (dyn : Int))) (kd : Int) (na : Option Addr) (nn nc : Nat) (NS : List ByteArray) (ka : Option Addr) (kn kc : Nat) (KS : List Int) (op : Bool) (s : ByteArray) (hN : NamesAt w na nn NS) (hK : IntsAt w ka kn KS) (hn : nn ≤ 100000) (hl : nn = kn) (hr : risesB NS = true) :
    Calls Tryz.prog 146 #[.pointer (some ⟨R, 0, none⟩), .agg #[.int .i64 kd, .slice na nn nc, .slice ka kn kc, .bool op], .string s] w (IntPost w (kidV dyn kd NS KS s)) := by
  unfold kidV
  by_cases h4 : kd = 4
  · rw [if_pos h4]; exact kidA_dyn w R dyn hR hd kd na nn nc NS ka kn kc KS op s h4
  · rw [if_neg h4]; exact kidA_name w R dyn hR hd kd na nn nc NS ka kn kc KS op s h4 hN hK hn hl hr
set_option maxRecDepth 20000 in
set_option maxHeartbeats 2000000 in
theorem ends_dyn (w : World) (R dyn : Nat) (hR : R < w.heap.size) (hd : w.cell? ⟨R, 1, none⟩ = some (.int .i64 (dyn : Int))) (kd : Int) (na : Option Addr) (nn nc : Nat) (NS : List ByteArray) (ka : Option Addr) (kn kc : Nat) (KS : List Int) (op : Bool) (h4 : kd = 4) :
    Calls Tryz.prog 112 #[.pointer (some ⟨R, 0, none⟩), .agg #[.int .i64 kd, .slice na nn nc, .slice ka kn kc, .bool op]] w fun e w' => e = .returned (.tuple #[.int .i64 (dyn : Int), .int .i64 (dyn : Int)]) ∧ Below w.heap.size w w' := by
  subst h4
  have hba : Below w.heap.size w (w.alloc (.cells #[.int .i64 4, .slice na nn nc, .slice ka kn kc, .bool op] 33)) := (Below.refl _ _).alloc (Nat.le_refl _) _
  have HB := Lib.hid hba
  have d1 : (w.alloc (.cells #[.int .i64 4, .slice na nn nc, .slice ka kn kc, .bool op] 33)).cell? ⟨R, 1, none⟩ = some (.int .i64 (dyn : Int)) := keepB hba hR hd
  clear hba hd
  go_enter Tryz.func112, Tryz.ntmps112
  go_upto_region 2 with (fail)
  go_quiet (fail)
  go_wp2
  go_ret2
  exact ⟨rfl, below_drewN HB.out⟩
set_option maxRecDepth 20000 in
set_option maxHeartbeats 2000000 in
theorem ends_fun (w : World) (R dyn : Nat) (hR : R < w.heap.size) (hd : w.cell? ⟨R, 1, none⟩ = some (.int .i64 (dyn : Int))) (kd : Int) (na : Option Addr) (nn nc : Nat) (NS : List ByteArray) (ka : Option Addr) (kn kc : Nat) (KS : List Int) (op : Bool) (h4 : kd ≠ 4) (hK : IntsAt w ka kn KS) (a b : Int) (hks : KS = [a, b]) :
    Calls Tryz.prog 112 #[.pointer (some ⟨R, 0, none⟩), .agg #[.int .i64 kd, .slice na nn nc, .slice ka kn kc, .bool op]] w fun e w' => e = .returned (.tuple #[.int .i64 a, .int .i64 b]) ∧ Below w.heap.size w w' := by
  have h4' : (kd == 4) = false := by simpa using h4
  subst hks
  have hxb : (w.alloc (.cells #[.int .i64 kd, .slice na nn nc, .slice ka kn kc, .bool op] 33)).heap[w.heap.size]? = some (.cells #[.int .i64 kd, .slice na nn nc, .slice ka kn kc, .bool op] 33 (0, 0)) := heap_alloc_new w _
  have hba : Below w.heap.size w (w.alloc (.cells #[.int .i64 kd, .slice na nn nc, .slice ka kn kc, .bool op] 33)) := (Below.refl _ _).alloc (Nat.le_refl _) _
  have hkk := hK.on hba
  obtain rfl : kn = 2 := hK.1
  obtain ⟨gk, ok, rfl, hgk, hck⟩ := hkk.2.resolve_left (by omega)
  have c0 := hck 0 a rfl
  have c1 := hck 1 b rfl
  rw [Nat.add_zero] at c0
  have b2 : (w.alloc (.cells #[.int .i64 kd, .slice na nn nc, .slice (some ⟨gk, ok, none⟩) 2 kc, .bool op] 33)).cell? ⟨w.heap.size, 2, none⟩ = some (.slice (some ⟨gk, ok, none⟩) 2 kc) := by rw [cell_of_row _ _ 2 _ 33 _ hxb]; rfl
  have HB := Lib.hid hba
  clear h4 hxb hba hkk hK hck hd hR hgk
  go_enter Tryz.func112, Tryz.ntmps112
  go_upto_region 3 with (fail)
  go_quiet (fail)
  go_wp2
  go_ret2
  exact ⟨rfl, below_drewN HB.out⟩
end Go.Proofs.YtifilhkkgkihpaaGreatDoor
set_option linter.unusedSimpArgs false
set_option linter.unusedVariables false
namespace Go.Proofs.YtifilhkkgkihpaaGreatDoor
open Go.RowKit
/-- a world in which all that wl holds lies still, but the asker's box and map. -/
def Lk (wl : World) (R M : Nat) (w' : World) : Prop := wl.heap.size ≤ w'.heap.size ∧ ∀ b, b < wl.heap.size → b ≠ R → b ≠ M → w'.heap[b]? = wl.heap[b]?
theorem AkT.lk {α : Type} [DecidableEq α] {K : AK α} {w0 wl w : World} {R M : Nat} {C0 C1 : Value} {SL : List α × List α} (h : AkT K w0 wl R M C0 C1 w SL) : Lk wl R M w := ⟨h.lsize, h.keep⟩
theorem AkT.ltR {α : Type} [DecidableEq α] {K : AK α} {w0 wl w : World} {R M : Nat} {C0 C1 : Value} {SL : List α × List α} (h : AkT K w0 wl R M C0 C1 w SL) : R < w.heap.size := by
  obtain ⟨cs, h1⟩ := h.box
  exact (Array.getElem?_eq_some_iff.1 h1).1
theorem AkT.neR {α : Type} [DecidableEq α] {K : AK α} {w0 wl w : World} {R M : Nat} {C0 C1 : Value} {SL : List α × List α} (h : AkT K w0 wl R M C0 C1 w SL) {b : Nat} (hb : w.heap.size ≤ b) : b ≠ R := by
  have := h.ltR; omega
theorem fold_take {α β : Type} [DecidableEq α] (f : β → α) {l : List β} {j : Nat} {x : β} (h : l[j]? = some x) (SL : List α × List α) : ((l.take (j + 1)).map f).foldl askS SL = askS (((l.take j).map f).foldl askS SL) (f x) := by
  rw [List.take_add_one, h]
  simp
/-- what a step leaves: its answer, and what it asked. -/
def StpPost {α : Type} [DecidableEq α] (K : AK α) (w0 wl : World) (R M : Nat) (C0 C1 : Value) (SL : List α × List α) (w : World) (F : Option (List α)) (e : Ending) (w' : World) : Prop := e = .returned (.bool F.isSome) ∧ ∃ qs : List α, AkT K w0 wl R M C0 C1 w' (qs.foldl askS SL) ∧ Kp K.TP R w w' ∧ (∀ q ∈ qs, K.ok q) ∧ ∀ m, F = some m → (∀ q ∈ qs, q ∈ m) ∧ ∀ q ∈ m, q ∈ qs
theorem two_box (w : World) (a b : Array Value) (T : TypeId) : ((w.alloc (.cells a T)).alloc (.cells b T)).heap[w.heap.size]? = some (.cells a T (0, 0)) ∧ ((w.alloc (.cells a T)).alloc (.cells b T)).heap[w.heap.size + 1]? = some (.cells b T (0, 0)) ∧ Below w.heap.size w ((w.alloc (.cells a T)).alloc (.cells b T)) := ⟨by rw [Below.heap_alloc _ _ _ (by simp)]; exact heap_alloc_new w _, by have := heap_alloc_new (w.alloc (.cells a T)) (.cells b T); simpa using this, ((Below.refl _ _).alloc (Nat.le_refl _) _).alloc (by simp) _⟩
set_option maxRecDepth 20000 in
set_option maxHeartbeats 4000000 in
theorem records_dyn (w0 wl w : World) (R M N dyn : Nat) (C0 : Value) (SL : List PrA × List PrA) (hT : AkT akA w0 wl R M C0 (.int .i64 (dyn : Int)) w SL) (hdn : dyn < N) (hN : N ≤ 300) (kd : Int) (na : Option Addr) (nn nc : Nat) (NS : List ByteArray) (ka : Option Addr) (kn kc : Nat) (KS : List Int) (op : Bool) (hh : ∀ w', Lk wl R M w' → HdOk w' ⟨kd, na, nn, nc, NS, ka, kn, kc, KS, op⟩) (hb : headB kd op (N : Int) NS KS = true)
    (ed : Int) (ma : Option Addr) (mn mc : Nat) (MS : List ByteArray) (ja : Option Addr) (jn jc : Nat) (JS : List Int) (oq : Bool) (hk : ∀ w', Lk wl R M w' → HdOk w' ⟨ed, ma, mn, mc, MS, ja, jn, jc, JS, oq⟩) (gb : headB ed oq (N : Int) MS JS = true) (h8 : kd = 8) (h4 : ed = 4) :
    Calls Tryz.prog 113 #[.pointer (some ⟨R, 0, none⟩), .agg #[.int .i64 kd, .slice na nn nc, .slice ka kn kc, .bool op], .agg #[.int .i64 ed, .slice ma mn mc, .slice ja jn jc, .bool oq]] w (StpPost akA w0 wl R M C0 (.int .i64 (dyn : Int)) SL w (some (KS.map fun x => (x.toNat, dyn)))) := by
  subst h4 h8
  have q1 := head_kind (h := ⟨8, na, nn, nc, NS, ka, kn, kc, KS, op⟩) hb
  simp only at q1
  have HQK := Lib.hid q1.2.2.1
  have HH := Lib.hid hh
  have HTT := Lib.hid hT
  have H2 := Lib.hid (two_box w #[.int .i64 8, .slice na nn nc, .slice ka kn kc, .bool op] #[.int .i64 4, .slice ma mn mc, .slice ja jn jc, .bool oq] 33)
  have HT1 := Lib.hid (hT.on H2.out.2.2)
  have HWR : Hid (w.heap.size ≠ R ∧ w.heap.size + 1 ≠ R) := Lib.hid ⟨hT.neR (Nat.le_refl _), hT.neR (by omega)⟩
  have HKN : Hid (kn = KS.length) := Lib.hid (hh w hT.lk).kids.1
  have HKB : Hid (kn ≤ 1000) := Lib.hid (hh w hT.lk).knb
  clear hh hk hT q1 hb gb
  go_enter Tryz.func113, Tryz.ntmps113
  go_upto_region 1 with (fail)
  obtain ⟨w2, hw2⟩ : ∃ w2, ((w.alloc (.cells #[.int .i64 8, .slice na nn nc, .slice ka kn kc, .bool op] 33)).alloc (.cells #[.int .i64 4, .slice ma mn mc, .slice ja jn jc, .bool oq] 33)) = w2 := ⟨_, rfl⟩
  rw [hw2] at H2 HT1 ⊢
  clear hw2
  have b2 : w2.cell? ⟨w.heap.size, 2, none⟩ = some (.slice ka kn kc) := (by rw [cell_of_row _ _ 2 _ 33 _ H2.out.1]; rfl)
  have d0 : w2.cell? ⟨w.heap.size + 1, 0, none⟩ = some (.int .i64 4) := (by rw [cell_of_row _ _ 0 _ 33 _ H2.out.2.1]; rfl)
  go_upto_region 3 with (fail)
  clear b2 d0
  have hkb : (kn : Int) ≤ 1000 := (by have := HKB.out; omega)
  go_loopw [18] (fun s18 wr => ∃ j : Nat, s18 = .int .i64 (j : Int) ∧ j ≤ kn ∧ Hid (AkT akA w0 wl R M C0 (.int .i64 (dyn : Int)) wr (((KS.take j).map fun x => (x.toNat, dyn)).foldl askS SL)) ∧ Hid (Kp 141 R w2 wr)) (fun s18 _ => kn - (intOf s18).toNat)
  case atStart => exact ⟨0, rfl, Nat.zero_le _, HT1, Lib.hid (Kp.refl _ _ _)⟩
  case round =>
    obtain ⟨j, rfl, hj, HA, HKP⟩ := hrel
    obtain ⟨wi, rfl⟩ : ∃ wi : World, wi = wr := ⟨_, rfl⟩
    have hwj : IntKind.i64.wrap ((j : Int) + 1) = (j : Int) + 1 := by rw [IntKind.wrap_i64]; omega
    by_cases hjk : j < kn
    · have hjk2 : (j : Int) < kn := by omega
      obtain ⟨q, hq⟩ : ∃ q, KS[j]? = some q := ⟨_, List.getElem?_eq_getElem (by rw [← HKN.out]; exact hjk)⟩
      have hqr := HQK.out q (List.mem_of_getElem? hq)
      obtain ⟨qn, rfl⟩ : ∃ qn : Nat, q = (qn : Int) := ⟨q.toNat, by omega⟩
      obtain ⟨gk, ok, ek, hgk, hck⟩ := ((HH.out wi HA.out.lk).kids.2).resolve_left (by simp only; omega)
      simp only at ek
      have ck : wi.cell? ⟨gk, ok + j, none⟩ = some (.int .i64 (qn : Int)) := hck j _ hq
      have cd : wi.cell? ⟨R, 1, none⟩ = some (.int .i64 (dyn : Int)) := HA.out.c1
      have HFT := Lib.hid (fold_take (fun x : Int => (x.toNat, dyn)) hq SL)
      have HAS := Lib.hid (askA_any w0 wl wi R M C0 (.int .i64 (dyn : Int)) _ HA.out qn dyn ⟨by simp only; omega, by simp only; omega⟩)
      clear hq hck hgk hqr
      subst ek
      go_wp2_with (go_at_call 85; (with_reducible refine HAS.out.mono ?_); rintro e w8 ⟨rfl, ha8, hk8⟩; have HA8 := Lib.hid ha8; have HK8 := Lib.hid hk8; clear ha8 hk8)
      go_roundw
      case rel => exact ⟨j + 1, by go_num, by omega, Lib.hid (by rw [HFT.out]; exact HA8.out), Lib.hid (HKP.out.trans HK8.out)⟩
      case measure => simp [intOf]; omega
    · have hjk2 : ¬ (j : Int) < kn := by omega
      obtain rfl : j = kn := by omega
      have HFIN : Hid (AkT akA w0 wl R M C0 (.int .i64 (dyn : Int)) wi ((KS.map fun x => (x.toNat, dyn)).foldl askS SL)) := Lib.hid (by
        have h1 := HA.out
        rw [List.take_of_length_le (by rw [← HKN.out]; exact Nat.le_refl _)] at h1
        exact h1)
      go_wp2
      go_ret
      exact ⟨rfl, _, HFIN.out, (Kp.of_below H2.out.2.2).trans HKP.out, fun x hx => (by
        obtain ⟨y, hy, rfl⟩ := List.mem_map.1 hx
        have := HQK.out y hy
        exact ⟨by simp only; omega, by simp only; omega⟩), fun m e => (by cases e; exact ⟨fun _ h => h, fun _ h => h⟩)⟩
theorem zip_at {α β : Type} {l : List α} {m : List β} {j : Nat} {a : α} {b : β} (h1 : l[j]? = some a) (h2 : m[j]? = some b) : (l.zip m)[j]? = some (a, b) := by
  rw [List.getElem?_zip_eq_some]; exact ⟨h1, h2⟩
theorem kidV_range {dyn N : Nat} {kd : Int} {NS : List ByteArray} {KS : List Int} (hd : dyn < N) (hl : kd ≠ 4 → NS.length = KS.length) (hk : ∀ k ∈ KS, 0 ≤ k ∧ k < (N : Int)) (s : ByteArray) : kidV dyn kd NS KS s = -1 ∨ (0 ≤ kidV dyn kd NS KS s ∧ kidV dyn kd NS KS s < (N : Int)) := by
  unfold kidV
  by_cases h4 : kd = 4
  · rw [if_pos h4]; omega
  · rw [if_neg h4]
    rcases findK_cases NS KS s (hl h4) with ⟨h1, _⟩ | ⟨p, k, _, h2, h3, _⟩
    · exact .inl h1
    · rw [h3]; exact .inr (hk k (List.mem_of_getElem? h2))
set_option maxRecDepth 20000 in
set_option maxHeartbeats 8000000 in
theorem records_gen (w0 wl w : World) (R M N dyn : Nat) (C0 : Value) (SL : List PrA × List PrA) (hT : AkT akA w0 wl R M C0 (.int .i64 (dyn : Int)) w SL) (hdn : dyn < N) (hN : N ≤ 300) (kd : Int) (na : Option Addr) (nn nc : Nat) (NS : List ByteArray) (ka : Option Addr) (kn kc : Nat) (KS : List Int) (op : Bool) (hh : ∀ w', Lk wl R M w' → HdOk w' ⟨kd, na, nn, nc, NS, ka, kn, kc, KS, op⟩) (hb : headB kd op (N : Int) NS KS = true)
    (ed : Int) (ma : Option Addr) (mn mc : Nat) (MS : List ByteArray) (ja : Option Addr) (jn jc : Nat) (JS : List Int) (oq : Bool) (hk : ∀ w', Lk wl R M w' → HdOk w' ⟨ed, ma, mn, mc, MS, ja, jn, jc, JS, oq⟩) (gb : headB ed oq (N : Int) MS JS = true) (h8 : kd = 8 ∨ kd = 4) (h4 : ed = 8) :
    Calls Tryz.prog 113 #[.pointer (some ⟨R, 0, none⟩), .agg #[.int .i64 kd, .slice na nn nc, .slice ka kn kc, .bool op], .agg #[.int .i64 ed, .slice ma mn mc, .slice ja jn jc, .bool oq]] w (StpPost akA w0 wl R M C0 (.int .i64 (dyn : Int)) SL w (recA dyn ⟨kd, na, nn, nc, NS, ka, kn, kc, KS, op⟩ ⟨ed, ma, mn, mc, MS, ja, jn, jc, JS, oq⟩)) := by
  subst h4
  have q1 := head_kind (h := ⟨kd, na, nn, nc, NS, ka, kn, kc, KS, op⟩) hb
  have q2 := head_kind (h := ⟨8, ma, mn, mc, MS, ja, jn, jc, JS, oq⟩) gb
  simp only at q1 q2
  have HNL : Hid (NS.length = KS.length) := Lib.hid (by
    rcases h8 with h | h
    · exact q1.2.2.2.1 (.inl h)
    · have := q1.2.2.2.2.2.1 (by omega); omega)
  have HML : Hid (MS.length = JS.length) := Lib.hid (q2.2.2.2.1 (by first | trivial | simp))
  have HRI := Lib.hid q1.2.1
  have HQJ := Lib.hid q2.2.2.1
  have HKR : Hid (∀ s, kidV dyn kd NS KS s = -1 ∨ (0 ≤ kidV dyn kd NS KS s ∧ kidV dyn kd NS KS s < (N : Int))) := Lib.hid (fun s => kidV_range hdn (fun _ => HNL.out) q1.2.2.1 s)
  have HH := Lib.hid hh
  have HK := Lib.hid hk
  have H2 := Lib.hid (two_box w #[.int .i64 kd, .slice na nn nc, .slice ka kn kc, .bool op] #[.int .i64 8, .slice ma mn mc, .slice ja jn jc, .bool oq] 33)
  have HT1 := Lib.hid (hT.on H2.out.2.2)
  have HWR : Hid (w.heap.size ≠ R ∧ w.heap.size + 1 ≠ R) := Lib.hid ⟨hT.neR (Nat.le_refl _), hT.neR (by omega)⟩
  have HMN : Hid (mn = MS.length) := Lib.hid (hk w hT.lk).names.1
  have HJN : Hid (jn = JS.length) := Lib.hid (hk w hT.lk).kids.1
  have HNN : Hid (nn = NS.length) := Lib.hid (hh w hT.lk).names.1
  have HKN : Hid (kn = KS.length) := Lib.hid (hh w hT.lk).kids.1
  have HMB : Hid (mn ≤ 100000) := Lib.hid (hk w hT.lk).nnb
  have HNB : Hid (nn ≤ 100000) := Lib.hid (hh w hT.lk).nnb
  have hmb : (mn : Int) ≤ 100000 := by have := HMB.out; omega
  have hmj : mn = jn := by rw [HMN.out, HJN.out]; exact HML.out
  have HMJ := Lib.hid hmj
  -- the row of what is asked
  obtain ⟨Z, hZ⟩ : ∃ Z, MS.zip JS = Z := ⟨_, rfl⟩
  have HZ := Lib.hid hZ
  have HZL : Hid (Z.length = mn) := Lib.hid (by rw [← hZ, List.length_zip, HMN.out]; have := HML.out; omega)
  obtain ⟨F, hF⟩ : ∃ F, recA dyn ⟨kd, na, nn, nc, NS, ka, kn, kc, KS, op⟩ ⟨8, ma, mn, mc, MS, ja, jn, jc, JS, oq⟩ = F := ⟨_, rfl⟩
  have HF1 : Hid (∀ e ∈ Z, kidV dyn kd NS KS e.1 < 0 → F = none) := Lib.hid (fun e he h => by
    rw [← hF]
    unfold recA
    rw [if_neg]
    intro h1
    rw [← hZ] at he
    have := List.all_eq_true.1 h1 e he
    have h2 : 0 ≤ kidV dyn kd NS KS e.1 := by simpa [kidD, kidV] using this
    omega)
  have HF2 : Hid ((∀ e ∈ Z, 0 ≤ kidV dyn kd NS KS e.1) → F = some (Z.map fun e => ((kidV dyn kd NS KS e.1).toNat, e.2.toNat))) := Lib.hid (fun h => by
    rw [← hF]
    unfold recA
    rw [if_pos]
    · simp only [hZ]; rfl
    · simp only [hZ]
      exact List.all_eq_true.2 (fun e he => by simpa [kidD, kidV] using h e he))
  rw [hF]
  clear hh hk hT q1 q2 hb gb hF hZ hmj h8
  go_enter Tryz.func113, Tryz.ntmps113
  go_upto_region 1 with (fail)
  obtain ⟨w2, hw2⟩ : ∃ w2, ((w.alloc (.cells #[.int .i64 kd, .slice na nn nc, .slice ka kn kc, .bool op] 33)).alloc (.cells #[.int .i64 8, .slice ma mn mc, .slice ja jn jc, .bool oq] 33)) = w2 := ⟨_, rfl⟩
  rw [hw2] at H2 HT1 ⊢
  clear hw2
  have d0 : w2.cell? ⟨w.heap.size + 1, 0, none⟩ = some (.int .i64 8) := (by rw [cell_of_row _ _ 0 _ 33 _ H2.out.2.1]; rfl)
  have d1 : w2.cell? ⟨w.heap.size + 1, 1, none⟩ = some (.slice ma mn mc) := (by rw [cell_of_row _ _ 1 _ 33 _ H2.out.2.1]; rfl)
  go_upto_region 9 with (fail)
  clear d0 d1
  go_loopw [33] (fun s33 wr => ∃ j : Nat, s33 = .int .i64 (j : Int) ∧ j ≤ mn ∧ Hid (AkT akA w0 wl R M C0 (.int .i64 (dyn : Int)) wr (((Z.take j).map fun e => ((kidV dyn kd NS KS e.1).toNat, e.2.toNat)).foldl askS SL)) ∧ Hid (Kp 141 R w2 wr) ∧ Hid (∀ e ∈ Z.take j, 0 ≤ kidV dyn kd NS KS e.1)) (fun s33 _ => mn - (intOf s33).toNat)
  case atStart => exact ⟨0, rfl, Nat.zero_le _, HT1, Lib.hid (Kp.refl _ _ _), Lib.hid (fun e he => by simp at he)⟩
  case round =>
    obtain ⟨j, rfl, hj, HA, HKP, HALL⟩ := hrel
    obtain ⟨wi, rfl⟩ : ∃ wi : World, wi = wr := ⟨_, rfl⟩
    have hwj : IntKind.i64.wrap ((j : Int) + 1) = (j : Int) + 1 := by rw [IntKind.wrap_i64]; omega
    have HX1 := Lib.hid (HKP.out.2 _ _ _ _ HWR.out.1 (by decide) H2.out.1)
    have HX2 := Lib.hid (HKP.out.2 _ _ _ _ HWR.out.2 (by decide) H2.out.2.1)
    by_cases hjk : j < mn
    · have hjk2 : (j : Int) < mn := by omega
      have hjk3 : (j : Int) < jn := by have := HMJ.out; omega
      obtain ⟨s, hs⟩ : ∃ s, MS[j]? = some s := ⟨_, List.getElem?_eq_getElem (by rw [← HMN.out]; exact hjk)⟩
      obtain ⟨q, hq⟩ : ∃ q, JS[j]? = some q := ⟨_, List.getElem?_eq_getElem (by rw [← HJN.out, ← HMJ.out]; exact hjk)⟩
      have hqr := HQJ.out q (List.mem_of_getElem? hq)
      obtain ⟨qn, rfl⟩ : ∃ qn : Nat, q = (qn : Int) := ⟨q.toNat, by omega⟩
      have hz : Z[j]? = some (s, (qn : Int)) := by rw [← HZ.out]; exact zip_at hs hq
      obtain ⟨gm, om, em, hgm, hcm⟩ := ((HK.out wi HA.out.lk).names.2).resolve_left (by simp only; omega)
      simp only at em
      have cm : wi.cell? ⟨gm, om + j, none⟩ = some (.string s) := hcm j _ hs
      have c0 : wi.cell? ⟨w.heap.size, 0, none⟩ = some (.int .i64 kd) := (by rw [cell_of_row _ _ 0 _ 33 _ HX1.out]; rfl)
      have c1 : wi.cell? ⟨w.heap.size, 1, none⟩ = some (.slice na nn nc) := (by rw [cell_of_row _ _ 1 _ 33 _ HX1.out]; rfl)
      have c2 : wi.cell? ⟨w.heap.size, 2, none⟩ = some (.slice ka kn kc) := (by rw [cell_of_row _ _ 2 _ 33 _ HX1.out]; rfl)
      have c3 : wi.cell? ⟨w.heap.size, 3, none⟩ = some (.bool op) := (by rw [cell_of_row _ _ 3 _ 33 _ HX1.out]; rfl)
      have HKD := Lib.hid (kidA_any wi R dyn HA.out.ltR HA.out.c1 kd na nn nc NS ka kn kc KS op s (HH.out wi HA.out.lk).names (HH.out wi HA.out.lk).kids HNB.out (by rw [HNN.out, HKN.out]; exact HNL.out) HRI.out)
      have HZJ := Lib.hid hz
      have HSS := Lib.hid hs
      have HQQ := Lib.hid hq
      have hkr := HKR.out s
      obtain ⟨x, hx⟩ : ∃ x, kidV dyn kd NS KS s = x := ⟨_, rfl⟩
      rw [hx] at HKD hkr
      have HX := Lib.hid hx
      clear hs hq hcm hgm hz hx
      subst em
      by_cases hx0 : x < 0
      · have HBAD : Hid (F = none) := Lib.hid (HF1.out _ (List.mem_of_getElem? HZJ.out) (by simp only; rw [HX.out]; exact hx0))
        clear hkr
        go_wp2_with (go_at_call 146; (with_reducible refine HKD.out.mono ?_); rintro e w8 ⟨rfl, hb8⟩; have HB8 := Lib.hid hb8; clear hb8)
        go_ret
        exact ⟨by rw [HBAD.out]; rfl, _, HA.out.on HB8.out, ((Kp.of_below H2.out.2.2).trans HKP.out).trans (Kp.of_below HB8.out), fun y hy => (by
          obtain ⟨e, he, rfl⟩ := List.mem_map.1 hy
          have h1 := HALL.out e he
          have h2 := HKR.out e.1
          have h3 := HQJ.out e.2 (by have h4 := List.mem_of_mem_take he; rw [← HZ.out] at h4; exact (List.of_mem_zip h4).2)
          exact ⟨by simp only; omega, by simp only; omega⟩), fun m e => (by rw [HBAD.out] at e; cases e)⟩
      · obtain ⟨xn, rfl⟩ : ∃ xn : Nat, x = (xn : Int) := ⟨x.toNat, by omega⟩
        have hxn : xn < N := by omega
        have HALS : Hid (∀ e ∈ Z.take (j + 1), 0 ≤ kidV dyn kd NS KS e.1) := Lib.hid (fun e he => by
          rw [List.take_add_one, HZJ.out] at he
          rcases List.mem_append.1 he with h | h
          · exact HALL.out e h
          · simp at h; rw [h, HX.out]; omega)
        have HFT := Lib.hid (fold_take (fun e : ByteArray × Int => ((kidV dyn kd NS KS e.1).toNat, e.2.toNat)) HZJ.out SL)
        have HASK : Hid (∀ w', Below wi.heap.size wi w' → Calls Tryz.prog 85 #[.pointer (some ⟨R, 0, none⟩), .int .i64 (xn : Int), .int .i64 (qn : Int)] w' fun e w'' => e = .returned (.tuple #[]) ∧ AkT akA w0 wl R M C0 (.int .i64 (dyn : Int)) w'' (askS (((Z.take j).map fun e => ((kidV dyn kd NS KS e.1).toNat, e.2.toNat)).foldl askS SL) (xn, qn)) ∧ Kp 141 R w' w'') := Lib.hid (fun w' hb => askA_any w0 wl w' R M C0 (.int .i64 (dyn : Int)) _ (HA.out.on hb) xn qn ⟨by simp only; omega, by simp only; omega⟩)
        have hx1 : ¬ (xn : Int) < 0 := by omega
        clear hkr hx0
        go_upto_region 12 with (go_at_call 146; (with_reducible refine HKD.out.mono ?_); rintro e w8 ⟨rfl, hb8⟩; have HB8 := Lib.hid hb8; clear hb8)
        clear c0 c1 c2 c3 cm
        have HX3 := Lib.hid ((HB8.out.block _ (Array.getElem?_eq_some_iff.1 HX2.out).1).trans HX2.out)
        have e2 : w8.cell? ⟨w.heap.size + 1, 2, none⟩ = some (.slice ja jn jc) := (by rw [cell_of_row _ _ 2 _ 33 _ HX3.out]; rfl)
        obtain ⟨gj, oj, ej, hgj, hcj⟩ := ((HK.out w8 (HA.out.on HB8.out).lk).kids.2).resolve_left (by simp only; omega)
        simp only at ej
        have cj : w8.cell? ⟨gj, oj + j, none⟩ = some (.int .i64 (qn : Int)) := hcj j _ HQQ.out
        clear hcj hgj
        subst ej
        go_wp2_with (go_at_call 85; (with_reducible refine (HASK.out _ HB8.out).mono ?_); rintro e w9 ⟨rfl, ha9, hk9⟩; have HA9 := Lib.hid ha9; have HK9 := Lib.hid hk9; clear ha9 hk9)
        go_roundw
        case rel => exact ⟨j + 1, by go_num, by omega, Lib.hid (by rw [HFT.out, HX.out]; exact HA9.out), Lib.hid ((HKP.out.trans (Kp.of_below HB8.out)).trans HK9.out), HALS⟩
        case measure => simp [intOf]; omega
    · have hjk2 : ¬ (j : Int) < mn := by omega
      obtain rfl : j = mn := by omega
      have HTK : Hid (Z.take j = Z) := Lib.hid (List.take_of_length_le (by rw [HZL.out]; exact Nat.le_refl _))
      have HFF : Hid (F = some (Z.map fun e => ((kidV dyn kd NS KS e.1).toNat, e.2.toNat))) := Lib.hid (HF2.out (by have := HALL.out; rw [HTK.out] at this; exact this))
      go_wp2
      go_ret
      exact ⟨by rw [HFF.out]; rfl, _, (by have := HA.out; rw [HTK.out] at this; exact this), (Kp.of_below H2.out.2.2).trans HKP.out, fun y hy => (by
        obtain ⟨e, he, rfl⟩ := List.mem_map.1 hy
        have h1 := HALL.out e (by rw [HTK.out]; exact he)
        have h2 := HKR.out e.1
        have h3 := HQJ.out e.2 (by rw [← HZ.out] at he; exact (List.of_mem_zip he).2)
        exact ⟨by simp only; omega, by simp only; omega⟩), fun m e => (by rw [HFF.out] at e; cases e; exact ⟨fun _ h => h, fun _ h => h⟩)⟩
end Go.Proofs.YtifilhkkgkihpaaGreatDoor
