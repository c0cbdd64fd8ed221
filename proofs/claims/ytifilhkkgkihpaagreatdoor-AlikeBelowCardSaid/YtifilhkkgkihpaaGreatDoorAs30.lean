/- Walks: alike's variants. -/
import Derived.Test.YtifilhkkgkihpaaGreatDoorAs29
import Derived.Deep.RegionHeld3
set_option linter.unusedSimpArgs false
set_option linter.unusedVariables false
set_option linter.unusedSimpArgs false
set_option linter.unusedVariables false
namespace Go.Proofs.YtifilhkkgkihpaaGreatDoor
open Go.RowKit
theorem fold_takeM {α β : Type} [DecidableEq α] (f : β → Option α) {l : List β} {j : Nat} {x : β} (h : l[j]? = some x) (SL : List α × List α) : ((l.take (j + 1)).filterMap f).foldl askS SL = match f x with | some q => askS (((l.take j).filterMap f).foldl askS SL) q | none => ((l.take j).filterMap f).foldl askS SL := by
  rw [List.take_add_one, h, List.filterMap_append, List.foldl_append]
  cases hx : f x with
  | none => simp [hx]
  | some q => simp [hx]
def varNames (h k : Hd) : List ByteArray := if h.kd = 4 then k.NS else h.NS
def varG (dyn : Nat) (h k : Hd) (s : ByteArray) : Option PrA := if 0 ≤ kidD dyn k s then some ((kidD dyn h s).toNat, (kidD dyn k s).toNat) else none
def okE (L : List Hd) (dyn : Nat) (h : Hd) (e : ByteArray × Int) : Bool := decide (0 ≤ kidD dyn h e.1) || !h.op || (match L[e.2.toNat]? with | some z => z.kd == 5 | none => false)
/-- what variants asks, in its own order. -/
def varF (L : List Hd) (dyn : Nat) (h k : Hd) : Option (List PrA) := if (h.op && decide (k.kd = 4)) = true then none else if (k.NS.zip k.KS).all (okE L dyn h) = true then some ((varNames h k).filterMap (varG dyn h k)) else none
set_option maxRecDepth 20000 in
set_option maxHeartbeats 4000000 in
theorem variants_bad (w0 wl w : World) (R M N dyn : Nat) (la : Option Addr) (lc : Nat) (OS : List Hd) (HL : ∀ w', Lk wl R M w' → HeadsIn w' la N OS) (SL : List PrA × List PrA) (hT : AkT akA w0 wl R M (.slice la N lc) (.int .i64 (dyn : Int)) w SL) (hdn : dyn < N) (hN : N ≤ 300) (kd : Int) (na : Option Addr) (nn nc : Nat) (NS : List ByteArray) (ka : Option Addr) (kn kc : Nat) (KS : List Int) (op : Bool) (hh : ∀ w', Lk wl R M w' → HdOk w' ⟨kd, na, nn, nc, NS, ka, kn, kc, KS, op⟩) (hb : headB kd op (N : Int) NS KS = true)
    (ed : Int) (ma : Option Addr) (mn mc : Nat) (MS : List ByteArray) (ja : Option Addr) (jn jc : Nat) (JS : List Int) (oq : Bool) (hk : ∀ w', Lk wl R M w' → HdOk w' ⟨ed, ma, mn, mc, MS, ja, jn, jc, JS, oq⟩) (gb : headB ed oq (N : Int) MS JS = true) (h9 : kd = 9) (ho : op = true) (h4 : ed = 4) :
    Calls Tryz.prog 114 #[.pointer (some ⟨R, 0, none⟩), .agg #[.int .i64 kd, .slice na nn nc, .slice ka kn kc, .bool op], .agg #[.int .i64 ed, .slice ma mn mc, .slice ja jn jc, .bool oq]] w (StpPost akA w0 wl R M (.slice la N lc) (.int .i64 (dyn : Int)) SL w (varF OS dyn ⟨kd, na, nn, nc, NS, ka, kn, kc, KS, op⟩ ⟨ed, ma, mn, mc, MS, ja, jn, jc, JS, oq⟩)) := by
  subst h4 h9 ho
  have H2 := Lib.hid (two_box w #[.int .i64 9, .slice na nn nc, .slice ka kn kc, .bool true] #[.int .i64 4, .slice ma mn mc, .slice ja jn jc, .bool oq] 33)
  have HT1 := Lib.hid (hT.on H2.out.2.2)
  clear hh hk hT hb gb HL
  have HF : Hid (varF OS dyn ⟨9, na, nn, nc, NS, ka, kn, kc, KS, true⟩ ⟨4, ma, mn, mc, MS, ja, jn, jc, JS, oq⟩ = none) := Lib.hid (by unfold varF; simp)
  rw [HF.out]
  go_enter Tryz.func114, Tryz.ntmps114
  go_wp2
  go_ret
  exact ⟨rfl, [], HT1.out, Kp.of_below H2.out.2.2, fun q h => (by cases h), fun m e => (by cases e)⟩
set_option maxRecDepth 20000 in
set_option maxHeartbeats 8000000 in
theorem variants_9 (w0 wl w : World) (R M N dyn : Nat) (la : Option Addr) (lc : Nat) (OS : List Hd) (HL : ∀ w', Lk wl R M w' → HeadsIn w' la N OS) (SL : List PrA × List PrA) (hT : AkT akA w0 wl R M (.slice la N lc) (.int .i64 (dyn : Int)) w SL) (hdn : dyn < N) (hN : N ≤ 300) (kd : Int) (na : Option Addr) (nn nc : Nat) (NS : List ByteArray) (ka : Option Addr) (kn kc : Nat) (KS : List Int) (op : Bool) (hh : ∀ w', Lk wl R M w' → HdOk w' ⟨kd, na, nn, nc, NS, ka, kn, kc, KS, op⟩) (hb : headB kd op (N : Int) NS KS = true)
    (ed : Int) (ma : Option Addr) (mn mc : Nat) (MS : List ByteArray) (ja : Option Addr) (jn jc : Nat) (JS : List Int) (oq : Bool) (hk : ∀ w', Lk wl R M w' → HdOk w' ⟨ed, ma, mn, mc, MS, ja, jn, jc, JS, oq⟩) (gb : headB ed oq (N : Int) MS JS = true) (h9 : kd = 9) (hoe : op = true → ed = 9) (he : ed = 9 ∨ ed = 4) :
    Calls Tryz.prog 114 #[.pointer (some ⟨R, 0, none⟩), .agg #[.int .i64 kd, .slice na nn nc, .slice ka kn kc, .bool op], .agg #[.int .i64 ed, .slice ma mn mc, .slice ja jn jc, .bool oq]] w (StpPost akA w0 wl R M (.slice la N lc) (.int .i64 (dyn : Int)) SL w (varF OS dyn ⟨kd, na, nn, nc, NS, ka, kn, kc, KS, op⟩ ⟨ed, ma, mn, mc, MS, ja, jn, jc, JS, oq⟩)) := by
  subst h9
  have q1 := head_kind (h := ⟨9, na, nn, nc, NS, ka, kn, kc, KS, op⟩) hb
  have q2 := head_kind (h := ⟨ed, ma, mn, mc, MS, ja, jn, jc, JS, oq⟩) gb
  simp only at q1 q2
  have HNL : Hid (NS.length = KS.length) := Lib.hid (q1.2.2.2.1 (by first | trivial | simp))
  have HML : Hid (MS.length = JS.length) := Lib.hid (by
    rcases he with h | h
    · exact q2.2.2.2.1 (.inr h)
    · have := q2.2.2.2.2.2.1 (by omega); omega)
  have HRI := Lib.hid q1.2.1
  have HRJ := Lib.hid q2.2.1
  have HQJ := Lib.hid q2.2.2.1
  have HKR : Hid (∀ s, kidV dyn 9 NS KS s = -1 ∨ (0 ≤ kidV dyn 9 NS KS s ∧ kidV dyn 9 NS KS s < (N : Int))) := Lib.hid (fun s => kidV_range hdn (fun _ => HNL.out) q1.2.2.1 s)
  have HJR : Hid (∀ s, kidV dyn ed MS JS s = -1 ∨ (0 ≤ kidV dyn ed MS JS s ∧ kidV dyn ed MS JS s < (N : Int))) := Lib.hid (fun s => kidV_range hdn (fun _ => HML.out) q2.2.2.1 s)
  have HIN : Hid (∀ s ∈ NS, 0 ≤ kidV dyn 9 NS KS s) := Lib.hid (fun s hs => by
    unfold kidV
    rw [if_neg (by decide)]
    rcases findK_cases NS KS s HNL.out with ⟨_, h2⟩ | ⟨p, k, _, h2, h3, _⟩
    · obtain ⟨p, hp⟩ := List.getElem?_of_mem hs
      exact absurd hp (h2 p)
    · rw [h3]; exact (q1.2.2.1 k (List.mem_of_getElem? h2)).1)
  have HH := Lib.hid hh
  have HK := Lib.hid hk
  have HLL := Lib.hid HL
  have H2 := Lib.hid (two_box w #[.int .i64 9, .slice na nn nc, .slice ka kn kc, .bool op] #[.int .i64 ed, .slice ma mn mc, .slice ja jn jc, .bool oq] 33)
  have HT1 := Lib.hid (hT.on H2.out.2.2)
  have HWR : Hid (w.heap.size ≠ R ∧ w.heap.size + 1 ≠ R) := Lib.hid ⟨hT.neR (Nat.le_refl _), hT.neR (by omega)⟩
  have HMN : Hid (mn = MS.length) := Lib.hid (hk w hT.lk).names.1
  have HJN : Hid (jn = JS.length) := Lib.hid (hk w hT.lk).kids.1
  have HNN : Hid (nn = NS.length) := Lib.hid (hh w hT.lk).names.1
  have HKN : Hid (kn = KS.length) := Lib.hid (hh w hT.lk).kids.1
  have HMB : Hid (mn ≤ 100000) := Lib.hid (hk w hT.lk).nnb
  have HNB : Hid (nn ≤ 100000) := Lib.hid (hh w hT.lk).nnb
  have hmb : (mn : Int) ≤ 100000 := by have := HMB.out; omega
  have hnb : (nn : Int) ≤ 100000 := by have := HNB.out; omega
  have HMJ : Hid (mn = jn) := Lib.hid (by rw [HMN.out, HJN.out]; exact HML.out)
  have HOE := Lib.hid hoe
  have HEE := Lib.hid he
  have HOP : Hid (op = true → (9 : Int) = 9) := Lib.hid (fun h => by first | rfl | exact (q1.2.2.2.2.2.2 h).elim | exact q1.2.2.2.2.2.2 h)
  have HOL : Hid (N = OS.length) := Lib.hid (HL w hT.lk).1
  obtain ⟨Z, hZ⟩ : ∃ Z, MS.zip JS = Z := ⟨_, rfl⟩
  have HZ := Lib.hid hZ
  have HZL : Hid (Z.length = mn) := Lib.hid (by rw [← hZ, List.length_zip, HMN.out]; have := HML.out; omega)
  obtain ⟨F, hF⟩ : ∃ F, varF OS dyn ⟨9, na, nn, nc, NS, ka, kn, kc, KS, op⟩ ⟨ed, ma, mn, mc, MS, ja, jn, jc, JS, oq⟩ = F := ⟨_, rfl⟩
  obtain ⟨g, hg⟩ : ∃ g : ByteArray → Option PrA, g = fun s => if 0 ≤ kidV dyn ed MS JS s then some ((kidV dyn 9 NS KS s).toNat, (kidV dyn ed MS JS s).toNat) else none := ⟨_, rfl⟩
  have HG := Lib.hid hg
  obtain ⟨okZ, hokZ⟩ : ∃ okZ : ByteArray × Int → Bool, okZ = fun e => decide (0 ≤ kidV dyn 9 NS KS e.1) || !op || (match OS[e.2.toNat]? with | some z => z.kd == 5 | none => false) := ⟨_, rfl⟩
  have HOZ := Lib.hid hokZ
  have hnb2 : (op && decide (ed = 4)) = false := by
    cases op with
    | false => rfl
    | true => have := hoe rfl; rw [this]; rfl
  have HF1 : Hid (∀ e ∈ Z, okZ e = false → F = none) := Lib.hid (fun e he h => by
    rw [← hF]
    unfold varF
    simp only [hnb2, Bool.false_eq_true, if_false, hZ]
    rw [if_neg]
    intro h1
    have h2 := List.all_eq_true.1 h1 e he
    rw [hokZ] at h
    unfold okE kidD at h2
    unfold kidV at h
    simp only at h h2
    rw [h] at h2
    cases h2)
  have HF2 : Hid ((∀ e ∈ Z, okZ e = true) → F = some (NS.filterMap g)) := Lib.hid (fun h => by
    rw [← hF]
    unfold varF
    simp only [hnb2, Bool.false_eq_true, if_false, hZ]
    rw [if_pos]
    · unfold varNames
      rw [hg]
      rfl
    · exact List.all_eq_true.2 (fun e he => by have := h e he; rw [hokZ] at this; exact this))
  rw [hF]
  clear hh hk hT q1 q2 hb gb hF hZ he hoe hg hokZ HL hnb2
  go_enter Tryz.func114, Tryz.ntmps114
  go_upto_region 1 with (fail)
  obtain ⟨w2, hw2⟩ : ∃ w2, ((w.alloc (.cells #[.int .i64 9, .slice na nn nc, .slice ka kn kc, .bool op] 33)).alloc (.cells #[.int .i64 ed, .slice ma mn mc, .slice ja jn jc, .bool oq] 33)) = w2 := ⟨_, rfl⟩
  rw [hw2] at H2 HT1 ⊢
  clear hw2
  have b0 : w2.cell? ⟨w.heap.size, 0, none⟩ = some (.int .i64 9) := (by rw [cell_of_row _ _ 0 _ 33 _ H2.out.1]; rfl)
  have b1 : w2.cell? ⟨w.heap.size, 1, none⟩ = some (.slice na nn nc) := (by rw [cell_of_row _ _ 1 _ 33 _ H2.out.1]; rfl)
  have b3 : w2.cell? ⟨w.heap.size, 3, none⟩ = some (.bool op) := (by rw [cell_of_row _ _ 3 _ 33 _ H2.out.1]; rfl)
  have d0 : w2.cell? ⟨w.heap.size + 1, 0, none⟩ = some (.int .i64 ed) := (by rw [cell_of_row _ _ 0 _ 33 _ H2.out.2.1]; rfl)
  have d1 : w2.cell? ⟨w.heap.size + 1, 1, none⟩ = some (.slice ma mn mc) := (by rw [cell_of_row _ _ 1 _ 33 _ H2.out.2.1]; rfl)
  go_cut [19] (fun t19 wr => t19 = .bool false ∧ wr = w2)
  case first =>
    have hoe := HOE.out
    cases op with
    | false =>
      clear hoe
      go_wp2
      go_meet
      case rel => exact ⟨rfl, rfl⟩
    | true =>
      obtain rfl := hoe rfl
      clear hoe
      go_wp2
      go_meet
      case rel => exact ⟨rfl, rfl⟩
  case rest =>
  obtain ⟨rfl, rfl⟩ := hcut
  obtain ⟨w2, rfl⟩ : ∃ w2 : World, w2 = wc := ⟨_, rfl⟩
  go_upto_region 7 with (fail)
  clear b0 b1 b3 d0 d1
  go_loopw [29] (fun s29 wr => ∃ j : Nat, s29 = .int .i64 (j : Int) ∧ j ≤ nn ∧ Hid (AkT akA w0 wl R M (.slice la N lc) (.int .i64 (dyn : Int)) wr (((NS.take j).filterMap g).foldl askS SL)) ∧ Hid (Kp 141 R w2 wr)) (fun s29 _ => nn - (intOf s29).toNat)
  case atStart => exact ⟨0, rfl, Nat.zero_le _, HT1, Lib.hid (Kp.refl _ _ _)⟩
  case round =>
    obtain ⟨j, rfl, hj, HA, HKP⟩ := hrel
    obtain ⟨wi, rfl⟩ : ∃ wi : World, wi = wr := ⟨_, rfl⟩
    have hwj : IntKind.i64.wrap ((j : Int) + 1) = (j : Int) + 1 := by rw [IntKind.wrap_i64]; omega
    have HX1 := Lib.hid (HKP.out.2 _ _ _ _ HWR.out.1 (by decide) H2.out.1)
    have HX2 := Lib.hid (HKP.out.2 _ _ _ _ HWR.out.2 (by decide) H2.out.2.1)
    by_cases hjk : j < nn
    · have hjk2 : (j : Int) < nn := by omega
      obtain ⟨s, hs⟩ : ∃ s, NS[j]? = some s := ⟨_, List.getElem?_eq_getElem (by rw [← HNN.out]; exact hjk)⟩
      obtain ⟨gm, om, em, hgm, hcm⟩ := ((HH.out wi HA.out.lk).names.2).resolve_left (by simp only; omega)
      simp only at em
      have cm : wi.cell? ⟨gm, om + j, none⟩ = some (.string s) := hcm j _ hs
      have c0 : wi.cell? ⟨w.heap.size + 1, 0, none⟩ = some (.int .i64 ed) := (by rw [cell_of_row _ _ 0 _ 33 _ HX2.out]; rfl)
      have c1 : wi.cell? ⟨w.heap.size + 1, 1, none⟩ = some (.slice ma mn mc) := (by rw [cell_of_row _ _ 1 _ 33 _ HX2.out]; rfl)
      have c2 : wi.cell? ⟨w.heap.size + 1, 2, none⟩ = some (.slice ja jn jc) := (by rw [cell_of_row _ _ 2 _ 33 _ HX2.out]; rfl)
      have c3 : wi.cell? ⟨w.heap.size + 1, 3, none⟩ = some (.bool oq) := (by rw [cell_of_row _ _ 3 _ 33 _ HX2.out]; rfl)
      have HKD := Lib.hid (kidA_any wi R dyn HA.out.ltR HA.out.c1 ed ma mn mc MS ja jn jc JS oq s (HK.out wi HA.out.lk).names (HK.out wi HA.out.lk).kids HMB.out HMJ.out HRJ.out)
      have HKD2 : Hid (∀ w', Below wi.heap.size wi w' → Calls Tryz.prog 146 #[.pointer (some ⟨R, 0, none⟩), .agg #[.int .i64 9, .slice na nn nc, .slice ka kn kc, .bool op], .string s] w' (IntPost w' (kidV dyn 9 NS KS s))) := Lib.hid (fun w' hb => kidA_any w' R dyn (HA.out.on hb).ltR (HA.out.on hb).c1 9 na nn nc NS ka kn kc KS op s (HH.out w' (HA.out.on hb).lk).names (HH.out w' (HA.out.on hb).lk).kids HNB.out (by rw [HNN.out, HKN.out]; exact HNL.out) HRI.out)
      have HFT := Lib.hid (fold_takeM g hs SL)
      have hkr := HKR.out s
      have hjr := HJR.out s
      have hin := HIN.out s (List.mem_of_getElem? hs)
      have HGS : Hid (g s = if 0 ≤ kidV dyn ed MS JS s then some ((kidV dyn 9 NS KS s).toNat, (kidV dyn ed MS JS s).toNat) else none) := Lib.hid (by rw [HG.out])
      obtain ⟨x, hx⟩ : ∃ x, kidV dyn 9 NS KS s = x := ⟨_, rfl⟩
      obtain ⟨y, hy⟩ : ∃ y, kidV dyn ed MS JS s = y := ⟨_, rfl⟩
      rw [hx] at HKD2 hkr HGS hin
      rw [hy] at HKD hjr HGS
      clear hs hcm hgm hx hy
      subst em
      by_cases hy0 : 0 ≤ y
      · obtain ⟨xn, rfl⟩ : ∃ xn : Nat, x = (xn : Int) := ⟨x.toNat, by omega⟩
        obtain ⟨yn', rfl⟩ : ∃ yn' : Nat, y = (yn' : Int) := ⟨y.toNat, by omega⟩
        have hxn : xn < N := by omega
        have hyn : yn' < N := by omega
        have HASK : Hid (∀ w', Below wi.heap.size wi w' → Calls Tryz.prog 85 #[.pointer (some ⟨R, 0, none⟩), .int .i64 (xn : Int), .int .i64 (yn' : Int)] w' fun e w'' => e = .returned (.tuple #[]) ∧ AkT akA w0 wl R M (.slice la N lc) (.int .i64 (dyn : Int)) w'' (askS (((NS.take j).filterMap g).foldl askS SL) (xn, yn')) ∧ Kp 141 R w' w'') := Lib.hid (fun w' hb => askA_any w0 wl w' R M (.slice la N lc) (.int .i64 (dyn : Int)) _ (HA.out.on hb) xn yn' ⟨by simp only; omega, by simp only; omega⟩)
        have HFT2 : Hid (((NS.take (j + 1)).filterMap g).foldl askS SL = askS (((NS.take j).filterMap g).foldl askS SL) (xn, yn')) := Lib.hid (by rw [HFT.out, HGS.out, if_pos hy0]; rfl)
        have hge : ((yn' : Int) ≥ 0) := hy0
        clear hkr hjr hin
        go_upto_region 10 with (go_at_call 146; (with_reducible refine HKD.out.mono ?_); rintro e w8 ⟨rfl, hb8⟩; have HB8 := Lib.hid hb8; clear hb8)
        clear c0 c1 c2 c3 cm
        have HX3 := Lib.hid ((HB8.out.block _ (Array.getElem?_eq_some_iff.1 HX1.out).1).trans HX1.out)
        have e0 : w8.cell? ⟨w.heap.size, 0, none⟩ = some (.int .i64 9) := (by rw [cell_of_row _ _ 0 _ 33 _ HX3.out]; rfl)
        have e1 : w8.cell? ⟨w.heap.size, 1, none⟩ = some (.slice (some ⟨gm, om, none⟩) nn nc) := (by rw [cell_of_row _ _ 1 _ 33 _ HX3.out]; rfl)
        have e2 : w8.cell? ⟨w.heap.size, 2, none⟩ = some (.slice ka kn kc) := (by rw [cell_of_row _ _ 2 _ 33 _ HX3.out]; rfl)
        have e3 : w8.cell? ⟨w.heap.size, 3, none⟩ = some (.bool op) := (by rw [cell_of_row _ _ 3 _ 33 _ HX3.out]; rfl)
        have HKD3 := Lib.hid (HKD2.out _ HB8.out)
        clear HKD HKD2
        go_wp2_with (first | (go_at_call 146; (with_reducible refine HKD3.out.mono ?_); rintro e w9 ⟨rfl, hb9⟩; have HB9 := Lib.hid hb9; clear hb9) | (go_at_call 85; (with_reducible refine (HASK.out _ (HB8.out.trans (HB9.out.mono HB8.out.size))).mono ?_); rintro e w10 ⟨rfl, ha9, hk9⟩; have HA9 := Lib.hid ha9; have HK9 := Lib.hid hk9; clear ha9 hk9))
        go_roundw
        case rel => exact ⟨j + 1, by go_num, by omega, Lib.hid (by rw [HFT2.out]; exact HA9.out), Lib.hid ((HKP.out.trans (Kp.of_below (HB8.out.trans (HB9.out.mono HB8.out.size)))).trans HK9.out)⟩
        case measure => simp [intOf]; omega
      · have hge : ¬ (y ≥ 0) := hy0
        have HFT2 : Hid (((NS.take (j + 1)).filterMap g).foldl askS SL = ((NS.take j).filterMap g).foldl askS SL) := Lib.hid (by rw [HFT.out, HGS.out, if_neg hy0])
        clear hkr hjr hin
        go_wp2_with (go_at_call 146; (with_reducible refine HKD.out.mono ?_); rintro e w8 ⟨rfl, hb8⟩; have HB8 := Lib.hid hb8; clear hb8)
        go_roundw
        case rel => exact ⟨j + 1, by go_num, by omega, Lib.hid (by rw [HFT2.out]; exact HA.out.on HB8.out), Lib.hid (HKP.out.trans (Kp.of_below HB8.out))⟩
        case measure => simp [intOf]; omega
    · have hjk2 : ¬ (j : Int) < nn := by omega
      obtain rfl : nn = j := by omega
      have HAF : Hid (AkT akA w0 wl R M (.slice la N lc) (.int .i64 (dyn : Int)) wi ((NS.filterMap g).foldl askS SL)) := Lib.hid (by
        have h1 := HA.out
        rw [List.take_of_length_le (by rw [← HNN.out]; exact Nat.le_refl _)] at h1
        exact h1)
      have HQS : Hid (∀ q ∈ NS.filterMap g, okA q) := Lib.hid (fun q hq => by
        obtain ⟨s, hs, he⟩ := List.mem_filterMap.1 hq
        rw [HG.out] at he
        simp only at he
        have h1 := HKR.out s
        have h2 := HJR.out s
        split at he
        · cases he; exact ⟨by simp only; omega, by simp only; omega⟩
        · cases he)
      have HKW : Hid (Kp 141 R w wi) := Lib.hid ((Kp.of_below H2.out.2.2).trans HKP.out)
      have d1 : wi.cell? ⟨w.heap.size + 1, 1, none⟩ = some (.slice ma mn mc) := (by rw [cell_of_row _ _ 1 _ 33 _ HX2.out]; rfl)
      go_upto_region 14 with (fail)
      clear d1
      go_loopw [50] (fun s50 wr => ∃ i : Nat, s50 = .int .i64 (i : Int) ∧ i ≤ mn ∧ Hid (Below wi.heap.size wi wr) ∧ Hid (∀ e ∈ Z.take i, okZ e = true)) (fun s50 _ => mn - (intOf s50).toNat)
      case atStart => exact ⟨0, rfl, Nat.zero_le _, Lib.hid (Below.refl _ _), Lib.hid (fun e he => by simp at he)⟩
      case round =>
        obtain ⟨i, rfl, hi, HBI, HAL⟩ := hrel
        obtain ⟨wo, rfl⟩ : ∃ wo : World, wo = wr := ⟨_, rfl⟩
        have hwi : IntKind.i64.wrap ((i : Int) + 1) = (i : Int) + 1 := by rw [IntKind.wrap_i64]; omega
        have HY1 := Lib.hid ((HBI.out.block _ (Array.getElem?_eq_some_iff.1 HX1.out).1).trans HX1.out)
        have HY2 := Lib.hid ((HBI.out.block _ (Array.getElem?_eq_some_iff.1 HX2.out).1).trans HX2.out)
        have HAO := Lib.hid (HAF.out.on HBI.out)
        by_cases him : i < mn
        · have him2 : (i : Int) < mn := by omega
          have him3 : (i : Int) < jn := by have := HMJ.out; omega
          obtain ⟨s, hs⟩ : ∃ s, MS[i]? = some s := ⟨_, List.getElem?_eq_getElem (by rw [← HMN.out]; exact him)⟩
          obtain ⟨q, hq⟩ : ∃ q, JS[i]? = some q := ⟨_, List.getElem?_eq_getElem (by rw [← HJN.out, ← HMJ.out]; exact him)⟩
          have hqr := HQJ.out q (List.mem_of_getElem? hq)
          obtain ⟨qn, rfl⟩ : ∃ qn : Nat, q = (qn : Int) := ⟨q.toNat, by omega⟩
          have hqn : qn < N := by omega
          have hz : Z[i]? = some (s, (qn : Int)) := by rw [← HZ.out]; exact zip_at hs hq
          obtain ⟨z, hzz⟩ : ∃ z, OS[qn]? = some z := ⟨_, List.getElem?_eq_getElem (by rw [← HOL.out]; exact hqn)⟩
          have HGO : Hid (okZ (s, (qn : Int)) = true → ∀ e ∈ Z.take (i + 1), okZ e = true) := Lib.hid (fun h e he => by
            rw [List.take_add_one, hz] at he
            rcases List.mem_append.1 he with h1 | h1
            · exact HAL.out e h1
            · simp at h1; rw [h1]; exact h)
          have HBD : Hid (okZ (s, (qn : Int)) = false → F = none) := Lib.hid (HF1.out _ (List.mem_of_getElem? hz))
          have HOV : Hid (okZ (s, (qn : Int)) = (decide (0 ≤ kidV dyn 9 NS KS s) || !op || (z.kd == 5))) := Lib.hid (by rw [HOZ.out]; simp only [Int.toNat_natCast, hzz])
          obtain ⟨gm, om, em, hgm, hcm⟩ := ((HK.out wo HAO.out.lk).names.2).resolve_left (by simp only; omega)
          simp only at em
          have cm : wo.cell? ⟨gm, om + i, none⟩ = some (.string s) := hcm i _ hs
          obtain ⟨gj, oj, ej, hgj, hcj⟩ := ((HK.out wo HAO.out.lk).kids.2).resolve_left (by simp only; omega)
          simp only at ej
          have cj : wo.cell? ⟨gj, oj + i, none⟩ = some (.int .i64 (qn : Int)) := hcj i _ hq
          obtain ⟨gl, ol, el, hgl, hcl⟩ := ((HLL.out wo HAO.out.lk).2).resolve_left (by omega)
          have cl0 : wo.cell? ⟨gl, ol + qn * 4, none⟩ = some (.int .i64 z.kd) := (hcl qn z hzz).c0
          have HGL : Hid (gl < wo.heap.size ∧ gj < wo.heap.size) := Lib.hid ⟨hgl, hgj⟩
          subst em ej el
          have e0 : wo.cell? ⟨w.heap.size, 0, none⟩ = some (.int .i64 9) := (by rw [cell_of_row _ _ 0 _ 33 _ HY1.out]; rfl)
          have e1 : wo.cell? ⟨w.heap.size, 1, none⟩ = some (.slice na nn nc) := (by rw [cell_of_row _ _ 1 _ 33 _ HY1.out]; rfl)
          have e2 : wo.cell? ⟨w.heap.size, 2, none⟩ = some (.slice ka kn kc) := (by rw [cell_of_row _ _ 2 _ 33 _ HY1.out]; rfl)
          have e3 : wo.cell? ⟨w.heap.size, 3, none⟩ = some (.bool op) := (by rw [cell_of_row _ _ 3 _ 33 _ HY1.out]; rfl)
          have g2 : wo.cell? ⟨w.heap.size + 1, 2, none⟩ = some (.slice (some ⟨gj, oj, none⟩) jn jc) := (by rw [cell_of_row _ _ 2 _ 33 _ HY2.out]; rfl)
          have r0 : wo.cell? ⟨R, 0, none⟩ = some (.slice (some ⟨gl, ol, none⟩) N lc) := HAO.out.c0
          have HLT : Hid (w.heap.size < wo.heap.size ∧ w.heap.size + 1 < wo.heap.size ∧ R < wo.heap.size) := Lib.hid ⟨(Array.getElem?_eq_some_iff.1 HY1.out).1, (Array.getElem?_eq_some_iff.1 HY2.out).1, HAO.out.ltR⟩
          have HKD2 : Hid (∀ w', Below wo.heap.size wo w' → Calls Tryz.prog 146 #[.pointer (some ⟨R, 0, none⟩), .agg #[.int .i64 9, .slice na nn nc, .slice ka kn kc, .bool op], .string s] w' (IntPost w' (kidV dyn 9 NS KS s))) := Lib.hid (fun w' hb => kidA_any w' R dyn (HAO.out.on hb).ltR (HAO.out.on hb).c1 9 na nn nc NS ka kn kc KS op s (HH.out w' (HAO.out.on hb).lk).names (HH.out w' (HAO.out.on hb).lk).kids HNB.out (by rw [HNN.out, HKN.out]; exact HNL.out) HRI.out)
          have HOPP := HOP
          have HBE : Hid (Below wi.heap.size wi wo.drew) := Lib.hid HBI.out.drew
          have hqn2 : (qn : Int) < N := by omega
          clear hs hq hqr hz hzz hcm hgm hcj hgj hgl hcl
          generalize z.kd = zk at *
          obtain ⟨x, hx⟩ : ∃ x, kidV dyn 9 NS KS s = x := ⟨_, rfl⟩
          have hkr := HKR.out s
          rw [hx] at HKD2 HOV hkr
          have HX := Lib.hid hx
          clear hx
          cases op with
          | false =>
            have HGO2 := Lib.hid (HGO.out (by rw [HOV.out]; simp))
            clear hkr
            go_upto_region 16 with (fail)
            go_quiet (fail)
            go_wp2
            go_roundw
            case rel => exact ⟨i + 1, by go_num, by omega, Lib.hid (below_drewN HBI.out), HGO2⟩
            case measure => simp [intOf]; omega
          | true =>
            by_cases hx0 : x < 0
            · by_cases hb5 : zk = 5
              · subst hb5
                have HGO2 := Lib.hid (HGO.out (by rw [HOV.out]; simp))
                clear hkr
                go_upto_region 16 with (fail)
                go_region_held3 (fun w' => w'.cell? ⟨w.heap.size, 0, none⟩ = some (.int .i64 9) ∧ w'.cell? ⟨w.heap.size, 1, none⟩ = some (.slice na nn nc) ∧ w'.cell? ⟨w.heap.size, 2, none⟩ = some (.slice ka kn kc) ∧ w'.cell? ⟨w.heap.size, 3, none⟩ = some (.bool true) ∧ w'.cell? ⟨w.heap.size + 1, 2, none⟩ = some (.slice (some ⟨gj, oj, none⟩) jn jc) ∧ w'.cell? ⟨gj, oj + i, none⟩ = some (.int .i64 (qn : Int)) ∧ w'.cell? ⟨R, 0, none⟩ = some (.slice (some ⟨gl, ol, none⟩) N lc) ∧ w'.cell? ⟨gl, ol + qn * 4, none⟩ = some (.int .i64 5)) (first | exact ⟨e0, e1, e2, e3, g2, cj, r0, cl0⟩ | exact ⟨f0, f1, f2, f3, f4, f5, f6, f7⟩ | go_keep) ((first | (go_at_call 146; (with_reducible refine (HKD2.out _ (by exact (Below.refl _ _).drew)).mono ?_); rintro e w5 ⟨rfl, hb5⟩; have HB5 : Hid (Below wo.heap.size wo w5) := Lib.hid ((Below.refl _ _).drew.trans hb5); have f0 : w5.cell? ⟨w.heap.size, 0, none⟩ = some (.int .i64 9) := keepB HB5.out HLT.out.1 e0; have f1 : w5.cell? ⟨w.heap.size, 1, none⟩ = some (.slice na nn nc) := keepB HB5.out HLT.out.1 e1; have f2 : w5.cell? ⟨w.heap.size, 2, none⟩ = some (.slice ka kn kc) := keepB HB5.out HLT.out.1 e2; have f3 : w5.cell? ⟨w.heap.size, 3, none⟩ = some (.bool true) := keepB HB5.out HLT.out.1 e3; have f4 : w5.cell? ⟨w.heap.size + 1, 2, none⟩ = some (.slice (some ⟨gj, oj, none⟩) jn jc) := keepB HB5.out HLT.out.2.1 g2; have f5 : w5.cell? ⟨gj, oj + i, none⟩ = some (.int .i64 (qn : Int)) := keepB HB5.out HGL.out.2 cj; have f6 : w5.cell? ⟨R, 0, none⟩ = some (.slice (some ⟨gl, ol, none⟩) N lc) := keepB HB5.out HLT.out.2.2 r0; have f7 : w5.cell? ⟨gl, ol + qn * 4, none⟩ = some (.int .i64 5) := keepB HB5.out HGL.out.1 cl0; clear hb5) | fail))
                all_goals
                  go_wp2
                  go_roundw
                  case rel => exact ⟨i + 1, by go_num, by omega, Lib.hid (HBI.out.trans (HB5.out.mono HBI.out.size)), HGO2⟩
                  case measure => simp [intOf]; omega
              · have hbk : (zk == 5) = false := by simpa using hb5
                have hbk' : (zk != 5) = true := by simpa using hb5
                have hx1 : ¬ (0 : Int) ≤ x := by omega
                have HBAD := Lib.hid (HBD.out (by rw [HOV.out]; simp [hx1, hb5]))
                clear hkr hb5 hx1
                go_upto_region 16 with (fail)
                go_region_held3 (fun w' => w'.cell? ⟨w.heap.size, 0, none⟩ = some (.int .i64 9) ∧ w'.cell? ⟨w.heap.size, 1, none⟩ = some (.slice na nn nc) ∧ w'.cell? ⟨w.heap.size, 2, none⟩ = some (.slice ka kn kc) ∧ w'.cell? ⟨w.heap.size, 3, none⟩ = some (.bool true) ∧ w'.cell? ⟨w.heap.size + 1, 2, none⟩ = some (.slice (some ⟨gj, oj, none⟩) jn jc) ∧ w'.cell? ⟨gj, oj + i, none⟩ = some (.int .i64 (qn : Int)) ∧ w'.cell? ⟨R, 0, none⟩ = some (.slice (some ⟨gl, ol, none⟩) N lc) ∧ w'.cell? ⟨gl, ol + qn * 4, none⟩ = some (.int .i64 zk)) (first | exact ⟨e0, e1, e2, e3, g2, cj, r0, cl0⟩ | exact ⟨f0, f1, f2, f3, f4, f5, f6, f7⟩ | go_keep) ((first | (go_at_call 146; (with_reducible refine (HKD2.out _ (by exact (Below.refl _ _).drew)).mono ?_); rintro e w5 ⟨rfl, hb5⟩; have HB5 : Hid (Below wo.heap.size wo w5) := Lib.hid ((Below.refl _ _).drew.trans hb5); have f0 : w5.cell? ⟨w.heap.size, 0, none⟩ = some (.int .i64 9) := keepB HB5.out HLT.out.1 e0; have f1 : w5.cell? ⟨w.heap.size, 1, none⟩ = some (.slice na nn nc) := keepB HB5.out HLT.out.1 e1; have f2 : w5.cell? ⟨w.heap.size, 2, none⟩ = some (.slice ka kn kc) := keepB HB5.out HLT.out.1 e2; have f3 : w5.cell? ⟨w.heap.size, 3, none⟩ = some (.bool true) := keepB HB5.out HLT.out.1 e3; have f4 : w5.cell? ⟨w.heap.size + 1, 2, none⟩ = some (.slice (some ⟨gj, oj, none⟩) jn jc) := keepB HB5.out HLT.out.2.1 g2; have f5 : w5.cell? ⟨gj, oj + i, none⟩ = some (.int .i64 (qn : Int)) := keepB HB5.out HGL.out.2 cj; have f6 : w5.cell? ⟨R, 0, none⟩ = some (.slice (some ⟨gl, ol, none⟩) N lc) := keepB HB5.out HLT.out.2.2 r0; have f7 : w5.cell? ⟨gl, ol + qn * 4, none⟩ = some (.int .i64 zk) := keepB HB5.out HGL.out.1 cl0; clear hb5) | fail))
                all_goals
                  go_wp2
                  go_ret
                  exact ⟨by rw [HBAD.out]; rfl, _, HAO.out.on HB5.out, HKW.out.trans (Kp.of_below (HBI.out.trans (HB5.out.mono HBI.out.size))), HQS.out, fun m e => (by rw [HBAD.out] at e; cases e)⟩
            · have hx1 : (0 : Int) ≤ x := by omega
              have HGO2 := Lib.hid (HGO.out (by rw [HOV.out]; simp [hx1]))
              have hxb : decide (x < 0) = false := by simpa using hx0
              clear hkr
              obtain ⟨xn, rfl⟩ : ∃ xn : Nat, x = (xn : Int) := ⟨x.toNat, by omega⟩
              clear hxb hx0
              go_upto_region 16 with (fail)
              refine wp_region_held_drew (S := (fun w' => w'.cell? ⟨w.heap.size, 0, none⟩ = some (.int .i64 9) ∧ w'.cell? ⟨w.heap.size, 1, none⟩ = some (.slice na nn nc) ∧ w'.cell? ⟨w.heap.size, 2, none⟩ = some (.slice ka kn kc) ∧ w'.cell? ⟨w.heap.size, 3, none⟩ = some (.bool true) ∧ w'.cell? ⟨w.heap.size + 1, 2, none⟩ = some (.slice (some ⟨gj, oj, none⟩) jn jc) ∧ w'.cell? ⟨gj, oj + i, none⟩ = some (.int .i64 (qn : Int)) ∧ w'.cell? ⟨R, 0, none⟩ = some (.slice (some ⟨gl, ol, none⟩) N lc) ∧ w'.cell? ⟨gl, ol + qn * 4, none⟩ = some (.int .i64 zk))) (by kernel_rfl) ?_ (fun hHeld => ?_)
              · exact ⟨e0, e1, e2, e3, g2, cj, r0, cl0⟩
              refine wpAnyH_take (i := 0) (oi := { dst := some 55, op := Op.fieldAddr 33 (Operand.tmp 4) 3, type := 0, pos := "alike.go:82", after := #[], guard := none }) (v := ?_) rfl (by kernel_rfl) (by kernel_rfl) (by kernel_rfl) (fun _ _ _ h => h) (Or.inl ⟨by rfl, ?_⟩) (by assumption) ?_
              rotate_left
              · (intro w hSw; (try dsimp only at hSw); go_simp; try (with_reducible rfl))
              try simp only [Act.put, List.setIfInBounds_toArray, List.set_cons_zero, List.set_cons_succ]
              refine wpAnyH_take (i := 1) (oi := { dst := some 56, op := Op.load 4 (Operand.tmp 55), type := 4, pos := "alike.go:82", after := #[{ on := 0, ground := Ground.data }], guard := none }) (v := ?_) rfl (by kernel_rfl) (by kernel_rfl) (by kernel_rfl) (fun _ _ _ h => h) (Or.inl ⟨by rfl, ?_⟩) (by assumption) ?_
              rotate_left
              · (intro w hSw; (try dsimp only at hSw); go_simp; try (with_reducible rfl))
              try simp only [Act.put, List.setIfInBounds_toArray, List.set_cons_zero, List.set_cons_succ]
              refine wpAnyH_take (i := 2) (oi := { dst := some 57, op := Op.move (Operand.tmp 56), type := 4, pos := "alike.go:82", after := #[{ on := 1, ground := Ground.data }], guard := none }) (v := ?_) rfl (by kernel_rfl) (by kernel_rfl) (by kernel_rfl) (fun _ _ _ h => h) (Or.inl ⟨by rfl, ?_⟩) (by assumption) ?_
              rotate_left
              · (intro w hSw; (try dsimp only at hSw); go_simp; try (with_reducible rfl))
              try simp only [Act.put, List.setIfInBounds_toArray, List.set_cons_zero, List.set_cons_succ]
              refine wpAnyH_take (i := 3) (oi := { dst := some 58, op := Op.move (Operand.tmp 0), type := 133, pos := "alike.go:82", after := #[{ on := 2, ground := Ground.guard }], guard := some (2, true) }) (v := ?_) rfl (by kernel_rfl) (by kernel_rfl) (by kernel_rfl) (fun _ _ _ h => h) (Or.inl ⟨by rfl, ?_⟩) (by assumption) ?_
              rotate_left
              · (intro w hSw; (try dsimp only at hSw); go_simp; try (with_reducible rfl))
              try simp only [Act.put, List.setIfInBounds_toArray, List.set_cons_zero, List.set_cons_succ]
              refine wpAnyH_take (i := 4) (oi := { dst := some 59, op := Op.load 33 (Operand.tmp 4), type := 33, pos := "alike.go:82", after := #[{ on := 2, ground := Ground.guard }], guard := some (2, true) }) (v := ?_) rfl (by kernel_rfl) (by kernel_rfl) (by kernel_rfl) (fun _ _ _ h => h) (Or.inl ⟨by rfl, ?_⟩) (by assumption) ?_
              rotate_left
              · (intro w hSw; (try dsimp only at hSw); go_simp; try (with_reducible rfl))
              try simp only [Act.put, List.setIfInBounds_toArray, List.set_cons_zero, List.set_cons_succ]
              refine wpAnyH_take (i := 5) (oi := { dst := some 60, op := Op.move (Operand.tmp 12), type := 9, pos := "alike.go:82", after := #[{ on := 2, ground := Ground.guard }], guard := some (2, true) }) (v := ?_) rfl (by kernel_rfl) (by kernel_rfl) (by kernel_rfl) (fun _ _ _ h => h) (Or.inl ⟨by rfl, ?_⟩) (by assumption) ?_
              rotate_left
              · (intro w hSw; (try dsimp only at hSw); go_simp; try (with_reducible rfl))
              try simp only [Act.put, List.setIfInBounds_toArray, List.set_cons_zero, List.set_cons_succ]
              refine wpAnyH_ready (rs := [6]) (by kernel_rfl) (by simp) ?_
              refine AllReadyH.cons (o := { dst := some 61, op := Op.call { callee := Callee.value (Operand.func 146), args := #[Operand.tmp 58, Operand.tmp 59, Operand.tmp 60], argTypes := #[133, 33, 9] }, type := 3, pos := "alike.go:82", after := #[{ on := 3, ground := Ground.data }, { on := 4, ground := Ground.data }, { on := 5, ground := Ground.data }, { on := 2, ground := Ground.chain }, { on := 2, ground := Ground.guard }], guard := some (2, true) }) rfl (fun K hK => ?_) AllReadyH.nil
              go_simp
              (go_at_call 146; (with_reducible refine (HKD2.out _ (by exact (Below.refl _ _).drew)).mono ?_); rintro e w5 ⟨rfl, hb5⟩; have HB5 : Hid (Below wo.heap.size wo w5) := Lib.hid ((Below.refl _ _).drew.trans hb5); have f0 : w5.cell? ⟨w.heap.size, 0, none⟩ = some (.int .i64 9) := keepB HB5.out HLT.out.1 e0; have f1 : w5.cell? ⟨w.heap.size, 1, none⟩ = some (.slice na nn nc) := keepB HB5.out HLT.out.1 e1; have f2 : w5.cell? ⟨w.heap.size, 2, none⟩ = some (.slice ka kn kc) := keepB HB5.out HLT.out.1 e2; have f3 : w5.cell? ⟨w.heap.size, 3, none⟩ = some (.bool true) := keepB HB5.out HLT.out.1 e3; have f4 : w5.cell? ⟨w.heap.size + 1, 2, none⟩ = some (.slice (some ⟨gj, oj, none⟩) jn jc) := keepB HB5.out HLT.out.2.1 g2; have f5 : w5.cell? ⟨gj, oj + i, none⟩ = some (.int .i64 (qn : Int)) := keepB HB5.out HGL.out.2 cj; have f6 : w5.cell? ⟨R, 0, none⟩ = some (.slice (some ⟨gl, ol, none⟩) N lc) := keepB HB5.out HLT.out.2.2 r0; have f7 : w5.cell? ⟨gl, ol + qn * 4, none⟩ = some (.int .i64 zk) := keepB HB5.out HGL.out.1 cl0; clear hb5)
              go_wp2_with fail
              refine hK.out _ _ ?_ (fun hHeld2 => ?_)
              · exact ⟨f0, f1, f2, f3, f4, f5, f6, f7⟩
              clear hK K
              refine wpAnyH_take (i := 7) (oi := { dst := some 62, op := Op.binOp BinOp.lss 3 (Operand.tmp 61) (Operand.const (Value.int IntKind.i64 0)) 3, type := 4, pos := "alike.go:82", after := #[{ on := 6, ground := Ground.data }, { on := 2, ground := Ground.guard }], guard := some (2, true) }) (v := ?_) rfl (by kernel_rfl) (by kernel_rfl) (by kernel_rfl) (fun _ _ _ h => h) (Or.inl ⟨by rfl, ?_⟩) (by assumption) ?_
              rotate_left
              · (intro w hSw; (try dsimp only at hSw); go_simp; try (with_reducible rfl))
              try simp only [Act.put, List.setIfInBounds_toArray, List.set_cons_zero, List.set_cons_succ]
              refine wpAnyH_take (i := 8) (oi := { dst := some 63, op := Op.pick (Operand.tmp 57) (Operand.tmp 62) (Operand.const (Value.bool false)), type := 4, pos := "alike.go:82", after := #[{ on := 2, ground := Ground.data }, { on := 7, ground := Ground.data }], guard := none }) (v := ?_) rfl (by kernel_rfl) (by kernel_rfl) (by kernel_rfl) (fun _ _ _ h => h) (Or.inl ⟨by rfl, ?_⟩) (by assumption) ?_
              rotate_left
              · (intro w hSw; (try dsimp only at hSw); go_simp; try (with_reducible rfl))
              try simp only [Act.put, List.setIfInBounds_toArray, List.set_cons_zero, List.set_cons_succ]
              refine wpAnyH_take (i := 9) (oi := { dst := some 64, op := Op.move (Operand.tmp 63), type := 4, pos := "alike.go:82", after := #[{ on := 8, ground := Ground.data }, { on := 6, ground := Ground.chain }], guard := none }) (v := ?_) rfl (by kernel_rfl) (by kernel_rfl) (by kernel_rfl) (fun _ _ _ h => h) (Or.inl ⟨by rfl, ?_⟩) (by assumption) ?_
              rotate_left
              · (intro w hSw; (try dsimp only at hSw); go_simp; try (with_reducible rfl))
              try simp only [Act.put, List.setIfInBounds_toArray, List.set_cons_zero, List.set_cons_succ]
              refine wpAnyH_take (i := 10) (oi := { dst := some 65, op := Op.move (Operand.tmp 0), type := 133, pos := "alike.go:82", after := #[{ on := 9, ground := Ground.guard }], guard := some (9, true) }) (v := undef) rfl (by kernel_rfl) (by kernel_rfl) (by kernel_rfl) (fun _ _ _ h => h) (Or.inr ⟨by rfl, rfl⟩) (by assumption) ?_
              try simp only [Act.put, List.setIfInBounds_toArray, List.set_cons_zero, List.set_cons_succ]
              refine wpAnyH_take (i := 11) (oi := { dst := some 66, op := Op.nilCheck (Operand.tmp 65), type := 0, pos := "alike.go:82", after := #[{ on := 10, ground := Ground.data }, { on := 9, ground := Ground.guard }], guard := some (9, true) }) (v := undef) rfl (by kernel_rfl) (by kernel_rfl) (by kernel_rfl) (fun _ _ _ h => h) (Or.inr ⟨by rfl, rfl⟩) (by assumption) ?_
              try simp only [Act.put, List.setIfInBounds_toArray, List.set_cons_zero, List.set_cons_succ]
              refine wpAnyH_take (i := 12) (oi := { dst := some 67, op := Op.fieldAddr 137 (Operand.tmp 66) 0, type := 0, pos := "alike.go:82", after := #[{ on := 11, ground := Ground.data }, { on := 9, ground := Ground.guard }], guard := some (9, true) }) (v := undef) rfl (by kernel_rfl) (by kernel_rfl) (by kernel_rfl) (fun _ _ _ h => h) (Or.inr ⟨by rfl, rfl⟩) (by assumption) ?_
              try simp only [Act.put, List.setIfInBounds_toArray, List.set_cons_zero, List.set_cons_succ]
              refine wpAnyH_take (i := 13) (oi := { dst := some 68, op := Op.load 34 (Operand.tmp 67), type := 34, pos := "alike.go:82", after := #[{ on := 12, ground := Ground.data }, { on := 9, ground := Ground.guard }], guard := some (9, true) }) (v := undef) rfl (by kernel_rfl) (by kernel_rfl) (by kernel_rfl) (fun _ _ _ h => h) (Or.inr ⟨by rfl, rfl⟩) (by assumption) ?_
              try simp only [Act.put, List.setIfInBounds_toArray, List.set_cons_zero, List.set_cons_succ]
              refine wpAnyH_take (i := 14) (oi := { dst := some 69, op := Op.fieldAddr 33 (Operand.tmp 5) 2, type := 0, pos := "alike.go:82", after := #[{ on := 9, ground := Ground.guard }], guard := some (9, true) }) (v := undef) rfl (by kernel_rfl) (by kernel_rfl) (by kernel_rfl) (fun _ _ _ h => h) (Or.inr ⟨by rfl, rfl⟩) (by assumption) ?_
              try simp only [Act.put, List.setIfInBounds_toArray, List.set_cons_zero, List.set_cons_succ]
              refine wpAnyH_take (i := 15) (oi := { dst := some 70, op := Op.load 31 (Operand.tmp 69), type := 31, pos := "alike.go:82", after := #[{ on := 14, ground := Ground.data }, { on := 9, ground := Ground.guard }], guard := some (9, true) }) (v := undef) rfl (by kernel_rfl) (by kernel_rfl) (by kernel_rfl) (fun _ _ _ h => h) (Or.inr ⟨by rfl, rfl⟩) (by assumption) ?_
              try simp only [Act.put, List.setIfInBounds_toArray, List.set_cons_zero, List.set_cons_succ]
              refine wpAnyH_take (i := 16) (oi := { dst := some 71, op := Op.move (Operand.tmp 11), type := 3, pos := "alike.go:82", after := #[{ on := 9, ground := Ground.guard }], guard := some (9, true) }) (v := undef) rfl (by kernel_rfl) (by kernel_rfl) (by kernel_rfl) (fun _ _ _ h => h) (Or.inr ⟨by rfl, rfl⟩) (by assumption) ?_
              try simp only [Act.put, List.setIfInBounds_toArray, List.set_cons_zero, List.set_cons_succ]
              refine wpAnyH_take (i := 17) (oi := { dst := some 72, op := Op.indexAddr 31 (Operand.tmp 70) (Operand.tmp 71), type := 0, pos := "alike.go:82", after := #[{ on := 15, ground := Ground.data }, { on := 16, ground := Ground.data }, { on := 9, ground := Ground.guard }], guard := some (9, true) }) (v := undef) rfl (by kernel_rfl) (by kernel_rfl) (by kernel_rfl) (fun _ _ _ h => h) (Or.inr ⟨by rfl, rfl⟩) (by assumption) ?_
              try simp only [Act.put, List.setIfInBounds_toArray, List.set_cons_zero, List.set_cons_succ]
              refine wpAnyH_take (i := 18) (oi := { dst := some 73, op := Op.load 3 (Operand.tmp 72), type := 3, pos := "alike.go:82", after := #[{ on := 17, ground := Ground.data }, { on := 9, ground := Ground.guard }], guard := some (9, true) }) (v := undef) rfl (by kernel_rfl) (by kernel_rfl) (by kernel_rfl) (fun _ _ _ h => h) (Or.inr ⟨by rfl, rfl⟩) (by assumption) ?_
              try simp only [Act.put, List.setIfInBounds_toArray, List.set_cons_zero, List.set_cons_succ]
              refine wpAnyH_take (i := 19) (oi := { dst := some 74, op := Op.indexAddr 34 (Operand.tmp 68) (Operand.tmp 73), type := 0, pos := "alike.go:82", after := #[{ on := 13, ground := Ground.data }, { on := 18, ground := Ground.data }, { on := 9, ground := Ground.guard }], guard := some (9, true) }) (v := undef) rfl (by kernel_rfl) (by kernel_rfl) (by kernel_rfl) (fun _ _ _ h => h) (Or.inr ⟨by rfl, rfl⟩) (by assumption) ?_
              try simp only [Act.put, List.setIfInBounds_toArray, List.set_cons_zero, List.set_cons_succ]
              refine wpAnyH_take (i := 20) (oi := { dst := some 75, op := Op.fieldAddr 33 (Operand.tmp 74) 0, type := 0, pos := "alike.go:82", after := #[{ on := 19, ground := Ground.data }, { on := 9, ground := Ground.guard }], guard := some (9, true) }) (v := undef) rfl (by kernel_rfl) (by kernel_rfl) (by kernel_rfl) (fun _ _ _ h => h) (Or.inr ⟨by rfl, rfl⟩) (by assumption) ?_
              try simp only [Act.put, List.setIfInBounds_toArray, List.set_cons_zero, List.set_cons_succ]
              refine wpAnyH_take (i := 21) (oi := { dst := some 76, op := Op.load 3 (Operand.tmp 75), type := 3, pos := "alike.go:82", after := #[{ on := 20, ground := Ground.data }, { on := 9, ground := Ground.guard }], guard := some (9, true) }) (v := undef) rfl (by kernel_rfl) (by kernel_rfl) (by kernel_rfl) (fun _ _ _ h => h) (Or.inr ⟨by rfl, rfl⟩) (by assumption) ?_
              try simp only [Act.put, List.setIfInBounds_toArray, List.set_cons_zero, List.set_cons_succ]
              refine wpAnyH_take (i := 22) (oi := { dst := some 77, op := Op.binOp BinOp.neq 3 (Operand.tmp 76) (Operand.const (Value.int IntKind.i64 5)) 3, type := 4, pos := "alike.go:82", after := #[{ on := 21, ground := Ground.data }, { on := 9, ground := Ground.guard }], guard := some (9, true) }) (v := undef) rfl (by kernel_rfl) (by kernel_rfl) (by kernel_rfl) (fun _ _ _ h => h) (Or.inr ⟨by rfl, rfl⟩) (by assumption) ?_
              try simp only [Act.put, List.setIfInBounds_toArray, List.set_cons_zero, List.set_cons_succ]
              refine wpAnyH_take (i := 23) (oi := { dst := some 78, op := Op.pick (Operand.tmp 64) (Operand.tmp 77) (Operand.const (Value.bool false)), type := 4, pos := "alike.go:82", after := #[{ on := 9, ground := Ground.data }, { on := 22, ground := Ground.data }], guard := none }) (v := ?_) rfl (by kernel_rfl) (by kernel_rfl) (by kernel_rfl) (fun _ _ _ h => h) (Or.inl ⟨by rfl, ?_⟩) (by assumption) ?_
              rotate_left
              · (intro w hSw; (try dsimp only at hSw); go_simp; try (with_reducible rfl))
              try simp only [Act.put, List.setIfInBounds_toArray, List.set_cons_zero, List.set_cons_succ]
              refine wpAnyH_done (by kernel_rfl) ?_ _
              go_wp2
              go_roundw
              case rel => exact ⟨i + 1, by go_num, by omega, Lib.hid (HBI.out.trans (HB5.out.mono HBI.out.size)), HGO2⟩
              case measure => simp [intOf]; omega
        · have him2 : ¬ (i : Int) < mn := by omega
          have HFF : Hid (F = some (NS.filterMap g)) := Lib.hid (HF2.out (fun e he => HAL.out e (by rw [List.take_of_length_le (by rw [HZL.out]; omega)]; exact he)))
          go_wp2
          go_ret
          exact ⟨by rw [HFF.out]; rfl, _, HAO.out, HKW.out.trans (Kp.of_below HBI.out), HQS.out, fun m e => (by rw [HFF.out] at e; cases e; exact ⟨fun _ h => h, fun _ h => h⟩)⟩
set_option maxRecDepth 20000 in
set_option maxHeartbeats 8000000 in
theorem variants_4 (w0 wl w : World) (R M N dyn : Nat) (la : Option Addr) (lc : Nat) (OS : List Hd) (HL : ∀ w', Lk wl R M w' → HeadsIn w' la N OS) (SL : List PrA × List PrA) (hT : AkT akA w0 wl R M (.slice la N lc) (.int .i64 (dyn : Int)) w SL) (hdn : dyn < N) (hN : N ≤ 300) (kd : Int) (na : Option Addr) (nn nc : Nat) (NS : List ByteArray) (ka : Option Addr) (kn kc : Nat) (KS : List Int) (op : Bool) (hh : ∀ w', Lk wl R M w' → HdOk w' ⟨kd, na, nn, nc, NS, ka, kn, kc, KS, op⟩) (hb : headB kd op (N : Int) NS KS = true)
    (ed : Int) (ma : Option Addr) (mn mc : Nat) (MS : List ByteArray) (ja : Option Addr) (jn jc : Nat) (JS : List Int) (oq : Bool) (hk : ∀ w', Lk wl R M w' → HdOk w' ⟨ed, ma, mn, mc, MS, ja, jn, jc, JS, oq⟩) (gb : headB ed oq (N : Int) MS JS = true) (h9 : kd = 4) (hoe : op = true → ed = 9) (he : ed = 9 ∨ ed = 4) :
    Calls Tryz.prog 114 #[.pointer (some ⟨R, 0, none⟩), .agg #[.int .i64 kd, .slice na nn nc, .slice ka kn kc, .bool op], .agg #[.int .i64 ed, .slice ma mn mc, .slice ja jn jc, .bool oq]] w (StpPost akA w0 wl R M (.slice la N lc) (.int .i64 (dyn : Int)) SL w (varF OS dyn ⟨kd, na, nn, nc, NS, ka, kn, kc, KS, op⟩ ⟨ed, ma, mn, mc, MS, ja, jn, jc, JS, oq⟩)) := by
  subst h9
  have q1 := head_kind (h := ⟨4, na, nn, nc, NS, ka, kn, kc, KS, op⟩) hb
  have q2 := head_kind (h := ⟨ed, ma, mn, mc, MS, ja, jn, jc, JS, oq⟩) gb
  simp only at q1 q2
  have HNL : Hid (NS.length = KS.length) := Lib.hid (by have := q1.2.2.2.2.2.1 (by omega); omega)
  have HML : Hid (MS.length = JS.length) := Lib.hid (by
    rcases he with h | h
    · exact q2.2.2.2.1 (.inr h)
    · have := q2.2.2.2.2.2.1 (by omega); omega)
  have HRI := Lib.hid q1.2.1
  have HRJ := Lib.hid q2.2.1
  have HQJ := Lib.hid q2.2.2.1
  have HKR : Hid (∀ s, kidV dyn 4 NS KS s = -1 ∨ (0 ≤ kidV dyn 4 NS KS s ∧ kidV dyn 4 NS KS s < (N : Int))) := Lib.hid (fun s => kidV_range hdn (fun _ => HNL.out) q1.2.2.1 s)
  have HJR : Hid (∀ s, kidV dyn ed MS JS s = -1 ∨ (0 ≤ kidV dyn ed MS JS s ∧ kidV dyn ed MS JS s < (N : Int))) := Lib.hid (fun s => kidV_range hdn (fun _ => HML.out) q2.2.2.1 s)
  have HIN : Hid (∀ s ∈ MS, 0 ≤ kidV dyn 4 NS KS s) := Lib.hid (fun s hs => by
    unfold kidV
    rw [if_pos rfl]; omega)
  have HH := Lib.hid hh
  have HK := Lib.hid hk
  have HLL := Lib.hid HL
  have H2 := Lib.hid (two_box w #[.int .i64 4, .slice na nn nc, .slice ka kn kc, .bool op] #[.int .i64 ed, .slice ma mn mc, .slice ja jn jc, .bool oq] 33)
  have HT1 := Lib.hid (hT.on H2.out.2.2)
  have HWR : Hid (w.heap.size ≠ R ∧ w.heap.size + 1 ≠ R) := Lib.hid ⟨hT.neR (Nat.le_refl _), hT.neR (by omega)⟩
  have HMN : Hid (mn = MS.length) := Lib.hid (hk w hT.lk).names.1
  have HJN : Hid (jn = JS.length) := Lib.hid (hk w hT.lk).kids.1
  have HNN : Hid (nn = NS.length) := Lib.hid (hh w hT.lk).names.1
  have HKN : Hid (kn = KS.length) := Lib.hid (hh w hT.lk).kids.1
  have HMB : Hid (mn ≤ 100000) := Lib.hid (hk w hT.lk).nnb
  have HNB : Hid (nn ≤ 100000) := Lib.hid (hh w hT.lk).nnb
  have hmb : (mn : Int) ≤ 100000 := by have := HMB.out; omega
  have hnb : (nn : Int) ≤ 100000 := by have := HNB.out; omega
  have HMJ : Hid (mn = jn) := Lib.hid (by rw [HMN.out, HJN.out]; exact HML.out)
  have HOE := Lib.hid hoe
  have HEE := Lib.hid he
  have HOP : Hid (op = true → (4 : Int) = 9) := Lib.hid (fun h => by first | rfl | exact (q1.2.2.2.2.2.2 h).elim | exact q1.2.2.2.2.2.2 h)
  have HOL : Hid (N = OS.length) := Lib.hid (HL w hT.lk).1
  obtain ⟨Z, hZ⟩ : ∃ Z, MS.zip JS = Z := ⟨_, rfl⟩
  have HZ := Lib.hid hZ
  have HZL : Hid (Z.length = mn) := Lib.hid (by rw [← hZ, List.length_zip, HMN.out]; have := HML.out; omega)
  obtain ⟨F, hF⟩ : ∃ F, varF OS dyn ⟨4, na, nn, nc, NS, ka, kn, kc, KS, op⟩ ⟨ed, ma, mn, mc, MS, ja, jn, jc, JS, oq⟩ = F := ⟨_, rfl⟩
  obtain ⟨g, hg⟩ : ∃ g : ByteArray → Option PrA, g = fun s => if 0 ≤ kidV dyn ed MS JS s then some ((kidV dyn 4 NS KS s).toNat, (kidV dyn ed MS JS s).toNat) else none := ⟨_, rfl⟩
  have HG := Lib.hid hg
  obtain ⟨okZ, hokZ⟩ : ∃ okZ : ByteArray × Int → Bool, okZ = fun e => decide (0 ≤ kidV dyn 4 NS KS e.1) || !op || (match OS[e.2.toNat]? with | some z => z.kd == 5 | none => false) := ⟨_, rfl⟩
  have HOZ := Lib.hid hokZ
  have hnb2 : (op && decide (ed = 4)) = false := by
    cases op with
    | false => rfl
    | true => have := hoe rfl; rw [this]; rfl
  have HF1 : Hid (∀ e ∈ Z, okZ e = false → F = none) := Lib.hid (fun e he h => by
    rw [← hF]
    unfold varF
    simp only [hnb2, Bool.false_eq_true, if_false, hZ]
    rw [if_neg]
    intro h1
    have h2 := List.all_eq_true.1 h1 e he
    rw [hokZ] at h
    unfold okE kidD at h2
    unfold kidV at h
    simp only at h h2
    rw [h] at h2
    cases h2)
  have HF2 : Hid ((∀ e ∈ Z, okZ e = true) → F = some (MS.filterMap g)) := Lib.hid (fun h => by
    rw [← hF]
    unfold varF
    simp only [hnb2, Bool.false_eq_true, if_false, hZ]
    rw [if_pos]
    · unfold varNames
      rw [hg]
      rfl
    · exact List.all_eq_true.2 (fun e he => by have := h e he; rw [hokZ] at this; exact this))
  rw [hF]
  clear hh hk hT q1 q2 hb gb hF hZ he hoe hg hokZ HL hnb2
  go_enter Tryz.func114, Tryz.ntmps114
  go_upto_region 1 with (fail)
  obtain ⟨w2, hw2⟩ : ∃ w2, ((w.alloc (.cells #[.int .i64 4, .slice na nn nc, .slice ka kn kc, .bool op] 33)).alloc (.cells #[.int .i64 ed, .slice ma mn mc, .slice ja jn jc, .bool oq] 33)) = w2 := ⟨_, rfl⟩
  rw [hw2] at H2 HT1 ⊢
  clear hw2
  have b0 : w2.cell? ⟨w.heap.size, 0, none⟩ = some (.int .i64 4) := (by rw [cell_of_row _ _ 0 _ 33 _ H2.out.1]; rfl)
  have b1 : w2.cell? ⟨w.heap.size, 1, none⟩ = some (.slice na nn nc) := (by rw [cell_of_row _ _ 1 _ 33 _ H2.out.1]; rfl)
  have b3 : w2.cell? ⟨w.heap.size, 3, none⟩ = some (.bool op) := (by rw [cell_of_row _ _ 3 _ 33 _ H2.out.1]; rfl)
  have d0 : w2.cell? ⟨w.heap.size + 1, 0, none⟩ = some (.int .i64 ed) := (by rw [cell_of_row _ _ 0 _ 33 _ H2.out.2.1]; rfl)
  have d1 : w2.cell? ⟨w.heap.size + 1, 1, none⟩ = some (.slice ma mn mc) := (by rw [cell_of_row _ _ 1 _ 33 _ H2.out.2.1]; rfl)
  go_cut [19] (fun t19 wr => t19 = .bool false ∧ wr = w2)
  case first =>
    have hoe := HOE.out
    cases op with
    | false =>
      clear hoe
      go_wp2
      go_meet
      case rel => exact ⟨rfl, rfl⟩
    | true =>
      obtain rfl := hoe rfl
      clear hoe
      go_wp2
      go_meet
      case rel => exact ⟨rfl, rfl⟩
  case rest =>
  obtain ⟨rfl, rfl⟩ := hcut
  obtain ⟨w2, rfl⟩ : ∃ w2 : World, w2 = wc := ⟨_, rfl⟩
  go_upto_region 7 with (fail)
  clear b0 b1 b3 d0 d1
  go_loopw [29] (fun s29 wr => ∃ j : Nat, s29 = .int .i64 (j : Int) ∧ j ≤ mn ∧ Hid (AkT akA w0 wl R M (.slice la N lc) (.int .i64 (dyn : Int)) wr (((MS.take j).filterMap g).foldl askS SL)) ∧ Hid (Kp 141 R w2 wr)) (fun s29 _ => mn - (intOf s29).toNat)
  case atStart => exact ⟨0, rfl, Nat.zero_le _, HT1, Lib.hid (Kp.refl _ _ _)⟩
  case round =>
    obtain ⟨j, rfl, hj, HA, HKP⟩ := hrel
    obtain ⟨wi, rfl⟩ : ∃ wi : World, wi = wr := ⟨_, rfl⟩
    have hwj : IntKind.i64.wrap ((j : Int) + 1) = (j : Int) + 1 := by rw [IntKind.wrap_i64]; omega
    have HX1 := Lib.hid (HKP.out.2 _ _ _ _ HWR.out.1 (by decide) H2.out.1)
    have HX2 := Lib.hid (HKP.out.2 _ _ _ _ HWR.out.2 (by decide) H2.out.2.1)
    by_cases hjk : j < mn
    · have hjk2 : (j : Int) < mn := by omega
      obtain ⟨s, hs⟩ : ∃ s, MS[j]? = some s := ⟨_, List.getElem?_eq_getElem (by rw [← HMN.out]; exact hjk)⟩
      obtain ⟨gm, om, em, hgm, hcm⟩ := ((HK.out wi HA.out.lk).names.2).resolve_left (by simp only; omega)
      simp only at em
      have cm : wi.cell? ⟨gm, om + j, none⟩ = some (.string s) := hcm j _ hs
      have c0 : wi.cell? ⟨w.heap.size + 1, 0, none⟩ = some (.int .i64 ed) := (by rw [cell_of_row _ _ 0 _ 33 _ HX2.out]; rfl)
      have c1 : wi.cell? ⟨w.heap.size + 1, 1, none⟩ = some (.slice ma mn mc) := (by rw [cell_of_row _ _ 1 _ 33 _ HX2.out]; rfl)
      have c2 : wi.cell? ⟨w.heap.size + 1, 2, none⟩ = some (.slice ja jn jc) := (by rw [cell_of_row _ _ 2 _ 33 _ HX2.out]; rfl)
      have c3 : wi.cell? ⟨w.heap.size + 1, 3, none⟩ = some (.bool oq) := (by rw [cell_of_row _ _ 3 _ 33 _ HX2.out]; rfl)
      have HKD := Lib.hid (kidA_any wi R dyn HA.out.ltR HA.out.c1 ed ma mn mc MS ja jn jc JS oq s (HK.out wi HA.out.lk).names (HK.out wi HA.out.lk).kids HMB.out HMJ.out HRJ.out)
      have HKD2 : Hid (∀ w', Below wi.heap.size wi w' → Calls Tryz.prog 146 #[.pointer (some ⟨R, 0, none⟩), .agg #[.int .i64 4, .slice na nn nc, .slice ka kn kc, .bool op], .string s] w' (IntPost w' (kidV dyn 4 NS KS s))) := Lib.hid (fun w' hb => kidA_any w' R dyn (HA.out.on hb).ltR (HA.out.on hb).c1 4 na nn nc NS ka kn kc KS op s (HH.out w' (HA.out.on hb).lk).names (HH.out w' (HA.out.on hb).lk).kids HNB.out (by rw [HNN.out, HKN.out]; exact HNL.out) HRI.out)
      have HFT := Lib.hid (fold_takeM g hs SL)
      have hkr := HKR.out s
      have hjr := HJR.out s
      have hin := HIN.out s (List.mem_of_getElem? hs)
      have HGS : Hid (g s = if 0 ≤ kidV dyn ed MS JS s then some ((kidV dyn 4 NS KS s).toNat, (kidV dyn ed MS JS s).toNat) else none) := Lib.hid (by rw [HG.out])
      obtain ⟨x, hx⟩ : ∃ x, kidV dyn 4 NS KS s = x := ⟨_, rfl⟩
      obtain ⟨y, hy⟩ : ∃ y, kidV dyn ed MS JS s = y := ⟨_, rfl⟩
      rw [hx] at HKD2 hkr HGS hin
      rw [hy] at HKD hjr HGS
      clear hs hcm hgm hx hy
      subst em
      by_cases hy0 : 0 ≤ y
      · obtain ⟨xn, rfl⟩ : ∃ xn : Nat, x = (xn : Int) := ⟨x.toNat, by omega⟩
        obtain ⟨yn', rfl⟩ : ∃ yn' : Nat, y = (yn' : Int) := ⟨y.toNat, by omega⟩
        have hxn : xn < N := by omega
        have hyn : yn' < N := by omega
        have HASK : Hid (∀ w', Below wi.heap.size wi w' → Calls Tryz.prog 85 #[.pointer (some ⟨R, 0, none⟩), .int .i64 (xn : Int), .int .i64 (yn' : Int)] w' fun e w'' => e = .returned (.tuple #[]) ∧ AkT akA w0 wl R M (.slice la N lc) (.int .i64 (dyn : Int)) w'' (askS (((MS.take j).filterMap g).foldl askS SL) (xn, yn')) ∧ Kp 141 R w' w'') := Lib.hid (fun w' hb => askA_any w0 wl w' R M (.slice la N lc) (.int .i64 (dyn : Int)) _ (HA.out.on hb) xn yn' ⟨by simp only; omega, by simp only; omega⟩)
        have HFT2 : Hid (((MS.take (j + 1)).filterMap g).foldl askS SL = askS (((MS.take j).filterMap g).foldl askS SL) (xn, yn')) := Lib.hid (by rw [HFT.out, HGS.out, if_pos hy0]; rfl)
        have hge : ((yn' : Int) ≥ 0) := hy0
        clear hkr hjr hin
        go_upto_region 10 with (go_at_call 146; (with_reducible refine HKD.out.mono ?_); rintro e w8 ⟨rfl, hb8⟩; have HB8 := Lib.hid hb8; clear hb8)
        clear c0 c1 c2 c3 cm
        have HX3 := Lib.hid ((HB8.out.block _ (Array.getElem?_eq_some_iff.1 HX1.out).1).trans HX1.out)
        have e0 : w8.cell? ⟨w.heap.size, 0, none⟩ = some (.int .i64 4) := (by rw [cell_of_row _ _ 0 _ 33 _ HX3.out]; rfl)
        have e1 : w8.cell? ⟨w.heap.size, 1, none⟩ = some (.slice na nn nc) := (by rw [cell_of_row _ _ 1 _ 33 _ HX3.out]; rfl)
        have e2 : w8.cell? ⟨w.heap.size, 2, none⟩ = some (.slice ka kn kc) := (by rw [cell_of_row _ _ 2 _ 33 _ HX3.out]; rfl)
        have e3 : w8.cell? ⟨w.heap.size, 3, none⟩ = some (.bool op) := (by rw [cell_of_row _ _ 3 _ 33 _ HX3.out]; rfl)
        have HKD3 := Lib.hid (HKD2.out _ HB8.out)
        clear HKD HKD2
        go_wp2_with (first | (go_at_call 146; (with_reducible refine HKD3.out.mono ?_); rintro e w9 ⟨rfl, hb9⟩; have HB9 := Lib.hid hb9; clear hb9) | (go_at_call 85; (with_reducible refine (HASK.out _ (HB8.out.trans (HB9.out.mono HB8.out.size))).mono ?_); rintro e w10 ⟨rfl, ha9, hk9⟩; have HA9 := Lib.hid ha9; have HK9 := Lib.hid hk9; clear ha9 hk9))
        go_roundw
        case rel => exact ⟨j + 1, by go_num, by omega, Lib.hid (by rw [HFT2.out]; exact HA9.out), Lib.hid ((HKP.out.trans (Kp.of_below (HB8.out.trans (HB9.out.mono HB8.out.size)))).trans HK9.out)⟩
        case measure => simp [intOf]; omega
      · have hge : ¬ (y ≥ 0) := hy0
        have HFT2 : Hid (((MS.take (j + 1)).filterMap g).foldl askS SL = ((MS.take j).filterMap g).foldl askS SL) := Lib.hid (by rw [HFT.out, HGS.out, if_neg hy0])
        clear hkr hjr hin
        go_wp2_with (go_at_call 146; (with_reducible refine HKD.out.mono ?_); rintro e w8 ⟨rfl, hb8⟩; have HB8 := Lib.hid hb8; clear hb8)
        go_roundw
        case rel => exact ⟨j + 1, by go_num, by omega, Lib.hid (by rw [HFT2.out]; exact HA.out.on HB8.out), Lib.hid (HKP.out.trans (Kp.of_below HB8.out))⟩
        case measure => simp [intOf]; omega
    · have hjk2 : ¬ (j : Int) < mn := by omega
      obtain rfl : mn = j := by omega
      have HAF : Hid (AkT akA w0 wl R M (.slice la N lc) (.int .i64 (dyn : Int)) wi ((MS.filterMap g).foldl askS SL)) := Lib.hid (by
        have h1 := HA.out
        rw [List.take_of_length_le (by rw [← HMN.out]; exact Nat.le_refl _)] at h1
        exact h1)
      have HQS : Hid (∀ q ∈ MS.filterMap g, okA q) := Lib.hid (fun q hq => by
        obtain ⟨s, hs, he⟩ := List.mem_filterMap.1 hq
        rw [HG.out] at he
        simp only at he
        have h1 := HKR.out s
        have h2 := HJR.out s
        split at he
        · cases he; exact ⟨by simp only; omega, by simp only; omega⟩
        · cases he)
      have HKW : Hid (Kp 141 R w wi) := Lib.hid ((Kp.of_below H2.out.2.2).trans HKP.out)
      have d1 : wi.cell? ⟨w.heap.size + 1, 1, none⟩ = some (.slice ma mn mc) := (by rw [cell_of_row _ _ 1 _ 33 _ HX2.out]; rfl)
      go_upto_region 14 with (fail)
      clear d1
      go_loopw [50] (fun s50 wr => ∃ i : Nat, s50 = .int .i64 (i : Int) ∧ i ≤ mn ∧ Hid (Below wi.heap.size wi wr) ∧ Hid (∀ e ∈ Z.take i, okZ e = true)) (fun s50 _ => mn - (intOf s50).toNat)
      case atStart => exact ⟨0, rfl, Nat.zero_le _, Lib.hid (Below.refl _ _), Lib.hid (fun e he => by simp at he)⟩
      case round =>
        obtain ⟨i, rfl, hi, HBI, HAL⟩ := hrel
        obtain ⟨wo, rfl⟩ : ∃ wo : World, wo = wr := ⟨_, rfl⟩
        have hwi : IntKind.i64.wrap ((i : Int) + 1) = (i : Int) + 1 := by rw [IntKind.wrap_i64]; omega
        have HY1 := Lib.hid ((HBI.out.block _ (Array.getElem?_eq_some_iff.1 HX1.out).1).trans HX1.out)
        have HY2 := Lib.hid ((HBI.out.block _ (Array.getElem?_eq_some_iff.1 HX2.out).1).trans HX2.out)
        have HAO := Lib.hid (HAF.out.on HBI.out)
        by_cases him : i < mn
        · have him2 : (i : Int) < mn := by omega
          have him3 : (i : Int) < jn := by have := HMJ.out; omega
          obtain ⟨s, hs⟩ : ∃ s, MS[i]? = some s := ⟨_, List.getElem?_eq_getElem (by rw [← HMN.out]; exact him)⟩
          obtain ⟨q, hq⟩ : ∃ q, JS[i]? = some q := ⟨_, List.getElem?_eq_getElem (by rw [← HJN.out, ← HMJ.out]; exact him)⟩
          have hqr := HQJ.out q (List.mem_of_getElem? hq)
          obtain ⟨qn, rfl⟩ : ∃ qn : Nat, q = (qn : Int) := ⟨q.toNat, by omega⟩
          have hqn : qn < N := by omega
          have hz : Z[i]? = some (s, (qn : Int)) := by rw [← HZ.out]; exact zip_at hs hq
          obtain ⟨z, hzz⟩ : ∃ z, OS[qn]? = some z := ⟨_, List.getElem?_eq_getElem (by rw [← HOL.out]; exact hqn)⟩
          have HGO : Hid (okZ (s, (qn : Int)) = true → ∀ e ∈ Z.take (i + 1), okZ e = true) := Lib.hid (fun h e he => by
            rw [List.take_add_one, hz] at he
            rcases List.mem_append.1 he with h1 | h1
            · exact HAL.out e h1
            · simp at h1; rw [h1]; exact h)
          have HBD : Hid (okZ (s, (qn : Int)) = false → F = none) := Lib.hid (HF1.out _ (List.mem_of_getElem? hz))
          have HOV : Hid (okZ (s, (qn : Int)) = (decide (0 ≤ kidV dyn 4 NS KS s) || !op || (z.kd == 5))) := Lib.hid (by rw [HOZ.out]; simp only [Int.toNat_natCast, hzz])
          obtain ⟨gm, om, em, hgm, hcm⟩ := ((HK.out wo HAO.out.lk).names.2).resolve_left (by simp only; omega)
          simp only at em
          have cm : wo.cell? ⟨gm, om + i, none⟩ = some (.string s) := hcm i _ hs
          obtain ⟨gj, oj, ej, hgj, hcj⟩ := ((HK.out wo HAO.out.lk).kids.2).resolve_left (by simp only; omega)
          simp only at ej
          have cj : wo.cell? ⟨gj, oj + i, none⟩ = some (.int .i64 (qn : Int)) := hcj i _ hq
          obtain ⟨gl, ol, el, hgl, hcl⟩ := ((HLL.out wo HAO.out.lk).2).resolve_left (by omega)
          have cl0 : wo.cell? ⟨gl, ol + qn * 4, none⟩ = some (.int .i64 z.kd) := (hcl qn z hzz).c0
          have HGL : Hid (gl < wo.heap.size ∧ gj < wo.heap.size) := Lib.hid ⟨hgl, hgj⟩
          subst em ej el
          have e0 : wo.cell? ⟨w.heap.size, 0, none⟩ = some (.int .i64 4) := (by rw [cell_of_row _ _ 0 _ 33 _ HY1.out]; rfl)
          have e1 : wo.cell? ⟨w.heap.size, 1, none⟩ = some (.slice na nn nc) := (by rw [cell_of_row _ _ 1 _ 33 _ HY1.out]; rfl)
          have e2 : wo.cell? ⟨w.heap.size, 2, none⟩ = some (.slice ka kn kc) := (by rw [cell_of_row _ _ 2 _ 33 _ HY1.out]; rfl)
          have e3 : wo.cell? ⟨w.heap.size, 3, none⟩ = some (.bool op) := (by rw [cell_of_row _ _ 3 _ 33 _ HY1.out]; rfl)
          have g2 : wo.cell? ⟨w.heap.size + 1, 2, none⟩ = some (.slice (some ⟨gj, oj, none⟩) jn jc) := (by rw [cell_of_row _ _ 2 _ 33 _ HY2.out]; rfl)
          have r0 : wo.cell? ⟨R, 0, none⟩ = some (.slice (some ⟨gl, ol, none⟩) N lc) := HAO.out.c0
          have HLT : Hid (w.heap.size < wo.heap.size ∧ w.heap.size + 1 < wo.heap.size ∧ R < wo.heap.size) := Lib.hid ⟨(Array.getElem?_eq_some_iff.1 HY1.out).1, (Array.getElem?_eq_some_iff.1 HY2.out).1, HAO.out.ltR⟩
          have HKD2 : Hid (∀ w', Below wo.heap.size wo w' → Calls Tryz.prog 146 #[.pointer (some ⟨R, 0, none⟩), .agg #[.int .i64 4, .slice na nn nc, .slice ka kn kc, .bool op], .string s] w' (IntPost w' (kidV dyn 4 NS KS s))) := Lib.hid (fun w' hb => kidA_any w' R dyn (HAO.out.on hb).ltR (HAO.out.on hb).c1 4 na nn nc NS ka kn kc KS op s (HH.out w' (HAO.out.on hb).lk).names (HH.out w' (HAO.out.on hb).lk).kids HNB.out (by rw [HNN.out, HKN.out]; exact HNL.out) HRI.out)
          have HOPP := HOP
          have HBE : Hid (Below wi.heap.size wi wo.drew) := Lib.hid HBI.out.drew
          have hqn2 : (qn : Int) < N := by omega
          clear hs hq hqr hz hzz hcm hgm hcj hgj hgl hcl
          generalize z.kd = zk at *
          obtain ⟨x, hx⟩ : ∃ x, kidV dyn 4 NS KS s = x := ⟨_, rfl⟩
          have hkr := HKR.out s
          rw [hx] at HKD2 HOV hkr
          have HX := Lib.hid hx
          clear hx
          cases op with
          | false =>
            have HGO2 := Lib.hid (HGO.out (by rw [HOV.out]; simp))
            clear hkr
            go_upto_region 16 with (fail)
            go_quiet (fail)
            go_wp2
            go_roundw
            case rel => exact ⟨i + 1, by go_num, by omega, Lib.hid (below_drewN HBI.out), HGO2⟩
            case measure => simp [intOf]; omega
          | true =>
            exact absurd (HOPP.out rfl) (by decide)
        · have him2 : ¬ (i : Int) < mn := by omega
          have HFF : Hid (F = some (MS.filterMap g)) := Lib.hid (HF2.out (fun e he => HAL.out e (by rw [List.take_of_length_le (by rw [HZL.out]; omega)]; exact he)))
          go_wp2
          go_ret
          exact ⟨by rw [HFF.out]; rfl, _, HAO.out, HKW.out.trans (Kp.of_below HBI.out), HQS.out, fun m e => (by rw [HFF.out] at e; cases e; exact ⟨fun _ h => h, fun _ h => h⟩)⟩
end Go.Proofs.YtifilhkkgkihpaaGreatDoor
