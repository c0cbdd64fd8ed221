/- Walks and plain facts. -/
import Derived.Test.YtifilhkkgkihpaaGreatDoorBm05
import Derived.Test.YtifilhkkgkihpaaGreatDoorAs30
import Derived.Deep.RegionHeld3
import Derived.Test.YtifilhkkgkihpaaGreatDoorBm04
import Derived.Test.YtifilhkkgkihpaaGreatDoorBm01
import Derived.Test.YtifilhkkgkihpaaGreatDoorBm02
set_option linter.unusedSimpArgs false
set_option linter.unusedVariables false
namespace Go.Proofs.YtifilhkkgkihpaaGreatDoor
open Go.RowKit
set_option maxRecDepth 20000 in
set_option maxHeartbeats 4000000 in
theorem varB_bad (w0 wl w : World) (R M : Nat) (la : Option Addr) (NA lc : Nat) (A : List Hd) (lb : Option Addr) (NB ld : Nat) (B : List Hd) (HL : ∀ w', Lk wl R M w' → HeadsIn w' la NA A ∧ HeadsIn w' lb NB B) (SL : List PrB × List PrB) (hT : AkT akB w0 wl R M (.slice la NA lc) (.slice lb NB ld) w SL) (a b : Nat) (t : Bool) (NF NK : Nat) (hNF : NF ≤ 150) (hNK : NK ≤ 150) (hSK : (rowB A B (!t)).length = NK) (kd : Int) (na : Option Addr) (nn nc : Nat) (NS : List ByteArray) (ka : Option Addr) (kn kc : Nat) (KS : List Int) (op : Bool) (hh : ∀ w', Lk wl R M w' → HdOk w' ⟨kd, na, nn, nc, NS, ka, kn, kc, KS, op⟩) (hb : headB kd op (NF : Int) NS KS = true)
    (ed : Int) (ma : Option Addr) (mn mc : Nat) (MS : List ByteArray) (ja : Option Addr) (jn jc : Nat) (JS : List Int) (oq : Bool) (hk : ∀ w', Lk wl R M w' → HdOk w' ⟨ed, ma, mn, mc, MS, ja, jn, jc, JS, oq⟩) (gb : headB ed oq (NK : Int) MS JS = true) (ho : op = true) (hq : oq = false) :
    Calls Tryz.prog 108 #[.pointer (some ⟨R, 0, none⟩), .agg #[.int .i64 (a : Int), .int .i64 (b : Int), .bool t], .agg #[.int .i64 kd, .slice na nn nc, .slice ka kn kc, .bool op], .agg #[.int .i64 ed, .slice ma mn mc, .slice ja jn jc, .bool oq]] w (StpPost akB w0 wl R M (.slice la NA lc) (.slice lb NB ld) SL w (varB (rowB A B (!t)) ⟨kd, na, nn, nc, NS, ka, kn, kc, KS, op⟩ ⟨ed, ma, mn, mc, MS, ja, jn, jc, JS, oq⟩ t)) := by
  subst ho hq
  have H3 := Lib.hid (three_box w #[.int .i64 (a : Int), .int .i64 (b : Int), .bool t] #[.int .i64 kd, .slice na nn nc, .slice ka kn kc, .bool true] #[.int .i64 ed, .slice ma mn mc, .slice ja jn jc, .bool false] 126 33)
  have HT1 := Lib.hid (hT.on H3.out.2.2.2)
  clear hh hk hT hb gb HL
  have HF : Hid (varB (rowB A B (!t)) ⟨kd, na, nn, nc, NS, ka, kn, kc, KS, true⟩ ⟨ed, ma, mn, mc, MS, ja, jn, jc, JS, false⟩ t = none) := Lib.hid (by unfold varB; simp)
  rw [HF.out]
  go_enter Tryz.func108, Tryz.ntmps108
  go_wp2
  go_ret
  exact ⟨rfl, [], HT1.out, Kp.of_below H3.out.2.2.2, fun q h => (by cases h), fun m e => (by cases e)⟩
set_option maxRecDepth 20000 in
set_option maxHeartbeats 16000000 in
theorem varB_good (w0 wl w : World) (R M : Nat) (la : Option Addr) (NA lc : Nat) (A : List Hd) (lb : Option Addr) (NB ld : Nat) (B : List Hd) (HL : ∀ w', Lk wl R M w' → HeadsIn w' la NA A ∧ HeadsIn w' lb NB B) (SL : List PrB × List PrB) (hT : AkT akB w0 wl R M (.slice la NA lc) (.slice lb NB ld) w SL) (a b : Nat) (t : Bool) (NF NK : Nat) (hNF : NF ≤ 150) (hNK : NK ≤ 150) (hSK : (rowB A B (!t)).length = NK) (kd : Int) (na : Option Addr) (nn nc : Nat) (NS : List ByteArray) (ka : Option Addr) (kn kc : Nat) (KS : List Int) (op : Bool) (hh : ∀ w', Lk wl R M w' → HdOk w' ⟨kd, na, nn, nc, NS, ka, kn, kc, KS, op⟩) (hb : headB kd op (NF : Int) NS KS = true)
    (ed : Int) (ma : Option Addr) (mn mc : Nat) (MS : List ByteArray) (ja : Option Addr) (jn jc : Nat) (JS : List Int) (oq : Bool) (hk : ∀ w', Lk wl R M w' → HdOk w' ⟨ed, ma, mn, mc, MS, ja, jn, jc, JS, oq⟩) (gb : headB ed oq (NK : Int) MS JS = true) (h9 : kd = 9) (e9 : ed = 9) (hoq : op = true → oq = true) :
    Calls Tryz.prog 108 #[.pointer (some ⟨R, 0, none⟩), .agg #[.int .i64 (a : Int), .int .i64 (b : Int), .bool t], .agg #[.int .i64 kd, .slice na nn nc, .slice ka kn kc, .bool op], .agg #[.int .i64 ed, .slice ma mn mc, .slice ja jn jc, .bool oq]] w (StpPost akB w0 wl R M (.slice la NA lc) (.slice lb NB ld) SL w (varB (rowB A B (!t)) ⟨kd, na, nn, nc, NS, ka, kn, kc, KS, op⟩ ⟨ed, ma, mn, mc, MS, ja, jn, jc, JS, oq⟩ t)) := by
  subst h9 e9
  have q1 := head_kind (h := ⟨9, na, nn, nc, NS, ka, kn, kc, KS, op⟩) hb
  have q2 := head_kind (h := ⟨9, ma, mn, mc, MS, ja, jn, jc, JS, oq⟩) gb
  simp only at q1 q2
  have HNL : Hid (NS.length = KS.length) := Lib.hid (q1.2.2.2.1 (by first | trivial | simp))
  have HML : Hid (MS.length = JS.length) := Lib.hid (q2.2.2.2.1 (by first | trivial | simp))
  have HRI := Lib.hid q1.2.1
  have HRJ := Lib.hid q2.2.1
  have HQK := Lib.hid q1.2.2.1
  have HQJ := Lib.hid q2.2.2.1
  have HKR : Hid (∀ s, findK NS KS s = -1 ∨ (0 ≤ findK NS KS s ∧ findK NS KS s < (NF : Int))) := Lib.hid (fun s => by
    rcases findK_cases NS KS s HNL.out with ⟨h1, _⟩ | ⟨p, k, _, h2, h3, _⟩
    · exact .inl h1
    · rw [h3]; exact .inr (HQK.out k (List.mem_of_getElem? h2)))
  have HJR : Hid (∀ s, findK MS JS s = -1 ∨ (0 ≤ findK MS JS s ∧ findK MS JS s < (NK : Int))) := Lib.hid (fun s => by
    rcases findK_cases MS JS s HML.out with ⟨h1, _⟩ | ⟨p, k, _, h2, h3, _⟩
    · exact .inl h1
    · rw [h3]; exact .inr (HQJ.out k (List.mem_of_getElem? h2)))
  have HH1 := Lib.hid hh
  have HK1 := Lib.hid hk
  have HLL := Lib.hid HL
  have H3 := Lib.hid (three_box w #[.int .i64 (a : Int), .int .i64 (b : Int), .bool t] #[.int .i64 9, .slice na nn nc, .slice ka kn kc, .bool op] #[.int .i64 9, .slice ma mn mc, .slice ja jn jc, .bool oq] 126 33)
  have HT1 : Hid (AkTP akB w0 wl R M (.slice la NA lc) (.slice lb NB ld) (((w.alloc (.cells #[.int .i64 (a : Int), .int .i64 (b : Int), .bool t] 126)).alloc (.cells #[.int .i64 9, .slice na nn nc, .slice ka kn kc, .bool op] 33)).alloc (.cells #[.int .i64 9, .slice ma mn mc, .slice ja jn jc, .bool oq] 33)) SL w.heap.size #[.int .i64 (a : Int), .int .i64 (b : Int), .bool t]) := Lib.hid (hT.pinned H3.out.2.2.2 H3.out.1)
  have HWR : Hid (w.heap.size ≠ R ∧ w.heap.size + 1 ≠ R ∧ w.heap.size + 1 + 1 ≠ R) := Lib.hid ⟨hT.neR (Nat.le_refl _), hT.neR (by omega), hT.neR (by omega)⟩
  have HMN : Hid (mn = MS.length) := Lib.hid (hk w hT.lk).names.1
  have HJN : Hid (jn = JS.length) := Lib.hid (hk w hT.lk).kids.1
  have HNN : Hid (nn = NS.length) := Lib.hid (hh w hT.lk).names.1
  have HKN : Hid (kn = KS.length) := Lib.hid (hh w hT.lk).kids.1
  have HMB : Hid (mn ≤ 100000) := Lib.hid (hk w hT.lk).nnb
  have HNB : Hid (nn ≤ 100000) := Lib.hid (hh w hT.lk).nnb
  have hmb : (mn : Int) ≤ 100000 := by have := HMB.out; omega
  have hnb : (nn : Int) ≤ 100000 := by have := HNB.out; omega
  have HMJ : Hid (mn = jn) := Lib.hid (by rw [HMN.out, HJN.out]; exact HML.out)
  have HNK2 : Hid (nn = kn) := Lib.hid (by rw [HNN.out, HKN.out]; exact HNL.out)
  have HOQ := Lib.hid hoq
  have HSK := Lib.hid hSK
  obtain ⟨Z1, hZ1⟩ : ∃ Z, NS.zip KS = Z := ⟨_, rfl⟩
  obtain ⟨Z2, hZ2⟩ : ∃ Z, MS.zip JS = Z := ⟨_, rfl⟩
  have HZ1 := Lib.hid hZ1
  have HZ2 := Lib.hid hZ2
  have HZL1 : Hid (Z1.length = nn) := Lib.hid (by rw [← hZ1, List.length_zip, HNN.out]; have := HNL.out; omega)
  have HZL2 : Hid (Z2.length = mn) := Lib.hid (by rw [← hZ2, List.length_zip, HMN.out]; have := HML.out; omega)
  obtain ⟨F, hF⟩ : ∃ F, varB (rowB A B (!t)) ⟨9, na, nn, nc, NS, ka, kn, kc, KS, op⟩ ⟨9, ma, mn, mc, MS, ja, jn, jc, JS, oq⟩ t = F := ⟨_, rfl⟩
  obtain ⟨g, hg⟩ : ∃ g : ByteArray × Int → Option PrB, g = fun e => if 0 ≤ findK MS JS e.1 then some (e.2.toNat, (findK MS JS e.1).toNat, t) else none := ⟨_, rfl⟩
  have HG := Lib.hid hg
  obtain ⟨ok1, hok1⟩ : ∃ okZ : ByteArray × Int → Bool, okZ = fun e => decide (0 ≤ findK MS JS e.1) || oq := ⟨_, rfl⟩
  obtain ⟨ok2, hok2⟩ : ∃ okZ : ByteArray × Int → Bool, okZ = fun e => decide (0 ≤ findK NS KS e.1) || !op || (match (rowB A B (!t))[e.2.toNat]? with | some z => z.kd == 5 | none => false) := ⟨_, rfl⟩
  have HOK1 := Lib.hid hok1
  have HOK2 := Lib.hid hok2
  have hnb2 : (op && !oq) = false := by
    cases op with
    | false => rfl
    | true => rw [hoq rfl]; rfl
  have e1 : (fun e : ByteArray × Int => decide (0 ≤ findK MS JS e.1) || oq) = ok1 := hok1.symm
  have e2 : okB2 (rowB A B (!t)) ⟨9, na, nn, nc, NS, ka, kn, kc, KS, op⟩ = ok2 := by rw [hok2]; rfl
  have e3 : varGB ⟨9, ma, mn, mc, MS, ja, jn, jc, JS, oq⟩ t = g := by rw [hg]; rfl
  have HF1 : Hid (∀ e ∈ Z1, ok1 e = false → F = none) := Lib.hid (fun e he h => by
    rw [← hF]
    unfold varB
    simp only [hnb2, Bool.false_eq_true, if_false, hZ1, hZ2, e1, e2]
    rw [if_neg]
    intro h1
    simp only [Bool.and_eq_true] at h1
    have h2 := List.all_eq_true.1 h1.1 e he
    rw [h] at h2
    cases h2)
  have HF2 : Hid (∀ e ∈ Z2, ok2 e = false → F = none) := Lib.hid (fun e he h => by
    rw [← hF]
    unfold varB
    simp only [hnb2, Bool.false_eq_true, if_false, hZ1, hZ2, e1, e2]
    rw [if_neg]
    intro h1
    simp only [Bool.and_eq_true] at h1
    have h2 := List.all_eq_true.1 h1.2 e he
    rw [h] at h2
    cases h2)
  have HF3 : Hid ((∀ e ∈ Z1, ok1 e = true) → (∀ e ∈ Z2, ok2 e = true) → F = some (Z1.filterMap g)) := Lib.hid (fun h h' => by
    rw [← hF]
    unfold varB
    simp only [hnb2, Bool.false_eq_true, if_false, hZ1, hZ2, e1, e2, e3]
    rw [if_pos]
    rw [List.all_eq_true.2 h, List.all_eq_true.2 h']
    rfl)
  rw [hF]
  clear hh hk hT q1 q2 hb gb hF hZ1 hZ2 hoq hg hok1 hok2 HL hnb2 e1 e2 e3 hSK
  go_enter Tryz.func108, Tryz.ntmps108
  go_upto_region 1 with (fail)
  obtain ⟨w2, hw2⟩ : ∃ w2, (((w.alloc (.cells #[.int .i64 (a : Int), .int .i64 (b : Int), .bool t] 126)).alloc (.cells #[.int .i64 9, .slice na nn nc, .slice ka kn kc, .bool op] 33)).alloc (.cells #[.int .i64 9, .slice ma mn mc, .slice ja jn jc, .bool oq] 33)) = w2 := ⟨_, rfl⟩
  rw [hw2] at H3 HT1 ⊢
  clear hw2
  have b1 : w2.cell? ⟨w.heap.size + 1, 1, none⟩ = some (.slice na nn nc) := (by rw [cell_of_row _ _ 1 _ 33 _ H3.out.2.1]; rfl)
  have b3 : w2.cell? ⟨w.heap.size + 1, 3, none⟩ = some (.bool op) := (by rw [cell_of_row _ _ 3 _ 33 _ H3.out.2.1]; rfl)
  have d3 : w2.cell? ⟨w.heap.size + 1 + 1, 3, none⟩ = some (.bool oq) := (by rw [cell_of_row _ _ 3 _ 33 _ H3.out.2.2.1]; rfl)
  go_cut [20] (fun t20 wr => t20 = .bool false ∧ wr = w2)
  case first =>
    have hoe := HOQ.out
    cases op with
    | false =>
      clear hoe
      go_wp2
      go_meet
      case rel => exact ⟨rfl, rfl⟩
    | true =>
      obtain rfl := hoe rfl
      clear hoe
      go_wp2
      go_meet
      case rel => exact ⟨rfl, rfl⟩
  case rest =>
  obtain ⟨rfl, rfl⟩ := hcut
  obtain ⟨w2, rfl⟩ : ∃ w2 : World, w2 = wc := ⟨_, rfl⟩
  go_upto_region 4 with (fail)
  clear b1 b3 d3
  go_loopw [24] (fun s24 wr => ∃ j : Nat, s24 = .int .i64 (j : Int) ∧ j ≤ nn ∧ Hid (AkTP akB w0 wl R M (.slice la NA lc) (.slice lb NB ld) wr (((Z1.take j).filterMap g).foldl askS SL) w.heap.size #[.int .i64 (a : Int), .int .i64 (b : Int), .bool t]) ∧ Hid (Kp 126 R w2 wr) ∧ Hid (∀ e ∈ Z1.take j, ok1 e = true)) (fun s24 _ => nn - (intOf s24).toNat)
  case atStart => exact ⟨0, rfl, Nat.zero_le _, HT1, Lib.hid (Kp.refl _ _ _), Lib.hid (fun e he => by simp at he)⟩
  case round =>
    obtain ⟨j, rfl, hj, HAP, HKP, HAL1⟩ := hrel
    have HA := Lib.hid HAP.out.t
    obtain ⟨wi, rfl⟩ : ∃ wi : World, wi = wr := ⟨_, rfl⟩
    have hwj : IntKind.i64.wrap ((j : Int) + 1) = (j : Int) + 1 := by rw [IntKind.wrap_i64]; omega
    have HXP : Hid (wi.heap[w.heap.size]? = some (.cells #[.int .i64 (a : Int), .int .i64 (b : Int), .bool t] 126 (0, 0))) := Lib.hid HAP.out.blk
    have HX1 := Lib.hid (HKP.out.2 _ _ _ _ HWR.out.2.1 (by decide) H3.out.2.1)
    have HX2 := Lib.hid (HKP.out.2 _ _ _ _ HWR.out.2.2 (by decide) H3.out.2.2.1)
    by_cases hjk : j < nn
    · have hjk2 : (j : Int) < nn := by omega
      have hjk3 : (j : Int) < kn := by have := HNK2.out; omega
      obtain ⟨s, hs⟩ : ∃ s, NS[j]? = some s := ⟨_, List.getElem?_eq_getElem (by rw [← HNN.out]; exact hjk)⟩
      obtain ⟨x, hx⟩ : ∃ x, KS[j]? = some x := ⟨_, List.getElem?_eq_getElem (by rw [← HKN.out, ← HNK2.out]; exact hjk)⟩
      have hxr := HQK.out x (List.mem_of_getElem? hx)
      obtain ⟨xn, rfl⟩ : ∃ xn : Nat, x = (xn : Int) := ⟨x.toNat, by omega⟩
      have hz : Z1[j]? = some (s, (xn : Int)) := by rw [← HZ1.out]; exact zip_at hs hx
      obtain ⟨gm, om, em, hgm, hcm⟩ := ((HH1.out wi HA.out.lk).names.2).resolve_left (by simp only; omega)
      simp only at em
      have cm : wi.cell? ⟨gm, om + j, none⟩ = some (.string s) := hcm j _ hs
      have c0 : wi.cell? ⟨w.heap.size + 1 + 1, 0, none⟩ = some (.int .i64 9) := (by rw [cell_of_row _ _ 0 _ 33 _ HX2.out]; rfl)
      have c1 : wi.cell? ⟨w.heap.size + 1 + 1, 1, none⟩ = some (.slice ma mn mc) := (by rw [cell_of_row _ _ 1 _ 33 _ HX2.out]; rfl)
      have c2 : wi.cell? ⟨w.heap.size + 1 + 1, 2, none⟩ = some (.slice ja jn jc) := (by rw [cell_of_row _ _ 2 _ 33 _ HX2.out]; rfl)
      have c3 : wi.cell? ⟨w.heap.size + 1 + 1, 3, none⟩ = some (.bool oq) := (by rw [cell_of_row _ _ 3 _ 33 _ HX2.out]; rfl)
      have HKD := Lib.hid (kid_any wi 9 ma mn mc MS ja jn jc JS oq s (HK1.out wi HA.out.lk).names (HK1.out wi HA.out.lk).kids HMB.out HMJ.out HRJ.out)
      have HFT := Lib.hid (fold_takeM g hz SL)
      have hjr := HJR.out s
      have HGS : Hid (g (s, (xn : Int)) = if 0 ≤ findK MS JS s then some (xn, (findK MS JS s).toNat, t) else none) := Lib.hid (by rw [HG.out]; simp only [Int.toNat_natCast])
      have HOV : Hid (ok1 (s, (xn : Int)) = (decide (0 ≤ findK MS JS s) || oq)) := Lib.hid (by rw [HOK1.out])
      have HBD : Hid (ok1 (s, (xn : Int)) = false → F = none) := Lib.hid (HF1.out _ (List.mem_of_getElem? hz))
      have HGO : Hid (ok1 (s, (xn : Int)) = true → ∀ e ∈ Z1.take (j + 1), ok1 e = true) := Lib.hid (fun h e he => by
        rw [List.take_add_one, hz] at he
        rcases List.mem_append.1 he with h1 | h1
        · exact HAL1.out e h1
        · simp at h1; rw [h1]; exact h)
      have HSS := Lib.hid hs
      have HXX := Lib.hid hx
      have HXN : Hid (xn < NF) := Lib.hid (by omega)
      obtain ⟨y, hy⟩ : ∃ y, findK MS JS s = y := ⟨_, rfl⟩
      rw [hy] at HKD hjr HGS HOV
      clear hs hcm hgm hx hy hz hxr
      subst em
      by_cases hy0 : y < 0
      · have hge : ¬ (y ≥ 0) := by omega
        have HFT2 : Hid (((Z1.take (j + 1)).filterMap g).foldl askS SL = ((Z1.take j).filterMap g).foldl askS SL) := Lib.hid (by rw [HFT.out, HGS.out, if_neg (by omega)])
        cases oq with
        | false =>
          have HBAD := Lib.hid (HBD.out (by rw [HOV.out]; simp; omega))
          clear hjr hge
          go_wp2_with (go_at_call 109; (with_reducible refine HKD.out.mono ?_); rintro e w8 ⟨rfl, hb8⟩; have HB8 := Lib.hid hb8; have HX3 := Lib.hid ((hb8.block _ (Array.getElem?_eq_some_iff.1 HX2.out).1).trans HX2.out); have k3 : w8.cell? ⟨w.heap.size + 1 + 1, 3, none⟩ = some (.bool false) := (by rw [cell_of_row _ _ 3 _ 33 _ HX3.out]; rfl); clear hb8)
          go_ret
          exact ⟨by rw [HBAD.out]; rfl, _, HA.out.on HB8.out, ((Kp.of_below H3.out.2.2.2).trans HKP.out).trans (Kp.of_below HB8.out), fun q hq => (by
            obtain ⟨e, he, h1⟩ := List.mem_filterMap.1 hq
            rw [HG.out] at h1
            simp only at h1
            have h2 := HJR.out e.1
            have h3 := HQK.out e.2 (by have h4 := List.mem_of_mem_take he; rw [← HZ1.out] at h4; exact (List.of_mem_zip (a := e.1) (b := e.2) h4).2)
            split at h1
            · cases h1; exact ⟨by simp only; omega, by simp only; omega⟩
            · cases h1), fun m e => (by rw [HBAD.out] at e; cases e)⟩
        | true =>
          have HGO2 := Lib.hid (HGO.out (by rw [HOV.out]; simp))
          clear hjr
          go_wp2_with (go_at_call 109; (with_reducible refine HKD.out.mono ?_); rintro e w8 ⟨rfl, hb8⟩; have HB8 := Lib.hid hb8; have HX3 := Lib.hid ((hb8.block _ (Array.getElem?_eq_some_iff.1 HX2.out).1).trans HX2.out); have k3 : w8.cell? ⟨w.heap.size + 1 + 1, 3, none⟩ = some (.bool true) := (by rw [cell_of_row _ _ 3 _ 33 _ HX3.out]; rfl); clear hb8)
          go_roundw
          case rel => exact ⟨j + 1, by go_num, by omega, Lib.hid (by rw [HFT2.out]; exact HAP.out.on HB8.out), Lib.hid (HKP.out.trans (Kp.of_below HB8.out)), HGO2⟩
          case measure => simp [intOf]; omega
      · obtain ⟨yn, rfl⟩ : ∃ yn : Nat, y = (yn : Int) := ⟨y.toNat, by omega⟩
        have hyn : yn < NK := by omega
        have HGO2 := Lib.hid (HGO.out (by rw [HOV.out]; simp))
        have HASK : Hid (∀ w', Below wi.heap.size wi w' → Calls Tryz.prog 81 #[.pointer (some ⟨R, 0, none⟩), .agg #[.int .i64 (xn : Int), .int .i64 (yn : Int), .bool t]] w' fun e w'' => e = .returned (.tuple #[]) ∧ AkTP akB w0 wl R M (.slice la NA lc) (.slice lb NB ld) w'' (askS (((Z1.take j).filterMap g).foldl askS SL) (xn, yn, t)) w.heap.size #[.int .i64 (a : Int), .int .i64 (b : Int), .bool t] ∧ Kp 126 R w' w'') := Lib.hid (fun w' hb => askP_any w0 wl w' R M (.slice la NA lc) (.slice lb NB ld) _ xn yn t ⟨by have := HXN.out; simp only; omega, by simp only; omega⟩ w.heap.size #[.int .i64 (a : Int), .int .i64 (b : Int), .bool t] (HAP.out.on hb))
        have HFT2 : Hid (((Z1.take (j + 1)).filterMap g).foldl askS SL = askS (((Z1.take j).filterMap g).foldl askS SL) (xn, yn, t)) := Lib.hid (by rw [HFT.out, HGS.out, if_pos (by omega)]; rfl)
        have hge : ((yn : Int) ≥ 0) := by omega
        have hlt : ¬ ((yn : Int) < 0) := by omega
        clear hjr hy0
        go_upto_region 10 with (go_at_call 109; (with_reducible refine HKD.out.mono ?_); rintro e w8 ⟨rfl, hb8⟩; have HB8 := Lib.hid hb8; clear hb8)
        clear c0 c1 c2 c3 cm
        have HX3 := Lib.hid ((HB8.out.block _ (Array.getElem?_eq_some_iff.1 HX1.out).1).trans HX1.out)
        have HX4 := Lib.hid ((HB8.out.block _ (Array.getElem?_eq_some_iff.1 HXP.out).1).trans HXP.out)
        have e2 : w8.cell? ⟨w.heap.size + 1, 2, none⟩ = some (.slice ka kn kc) := (by rw [cell_of_row _ _ 2 _ 33 _ HX3.out]; rfl)
        have p2 : w8.cell? ⟨w.heap.size, 2, none⟩ = some (.bool t) := (by rw [cell_of_row _ _ 2 _ 126 _ HX4.out]; rfl)
        obtain ⟨gj, oj, ej, hgj, hcj⟩ := ((HH1.out w8 (HA.out.on HB8.out).lk).kids.2).resolve_left (by have := HNK2.out; simp only; omega)
        simp only at ej
        have cj : w8.cell? ⟨gj, oj + j, none⟩ = some (.int .i64 (xn : Int)) := hcj j _ HXX.out
        clear hcj hgj
        subst ej
        go_still_tail 10, (by kernel_rfl)
        go_wp2_with (go_at_call 81; (with_reducible refine (HASK.out _ (by exact HB8.out.drew)).mono ?_); rintro e w9 ⟨rfl, ha9, hk9⟩; have HA9 := Lib.hid ha9; have HK9 := Lib.hid ((Kp.of_below (Below.refl _ _).drew).trans hk9); clear ha9 hk9)
        go_roundw
        case rel => exact ⟨j + 1, by go_num, by omega, Lib.hid (by rw [HFT2.out]; exact HA9.out), Lib.hid ((HKP.out.trans (Kp.of_below HB8.out)).trans HK9.out), HGO2⟩
        case measure => simp [intOf]; omega
    · have hjk2 : ¬ (j : Int) < nn := by omega
      obtain rfl : nn = j := by omega
      have HTK : Hid (Z1.take nn = Z1) := Lib.hid (List.take_of_length_le (by rw [HZL1.out]; exact Nat.le_refl _))
      have HAF : Hid (AkT akB w0 wl R M (.slice la NA lc) (.slice lb NB ld) wi ((Z1.filterMap g).foldl askS SL)) := Lib.hid (by have := HA.out; rw [HTK.out] at this; exact this)
      have HALL1 : Hid (∀ e ∈ Z1, ok1 e = true) := Lib.hid (by have := HAL1.out; rw [HTK.out] at this; exact this)
      have HQS : Hid (∀ q ∈ Z1.filterMap g, okB q) := Lib.hid (fun q hq => by
        obtain ⟨e, he, h1⟩ := List.mem_filterMap.1 hq
        rw [HG.out] at h1
        simp only at h1
        have h2 := HJR.out e.1
        have h3 := HQK.out e.2 (by rw [← HZ1.out] at he; exact (List.of_mem_zip (a := e.1) (b := e.2) he).2)
        split at h1
        · cases h1; exact ⟨by simp only; omega, by simp only; omega⟩
        · cases h1)
      have HKW : Hid (Kp 126 R w wi) := Lib.hid ((Kp.of_below H3.out.2.2.2).trans HKP.out)
      have d1 : wi.cell? ⟨w.heap.size + 1 + 1, 1, none⟩ = some (.slice ma mn mc) := (by rw [cell_of_row _ _ 1 _ 33 _ HX2.out]; rfl)
      go_upto_region 13 with (fail)
      clear d1
      go_loopw [56] (fun s56 wr => ∃ i : Nat, s56 = .int .i64 (i : Int) ∧ i ≤ mn ∧ Hid (Below wi.heap.size wi wr) ∧ Hid (∀ e ∈ Z2.take i, ok2 e = true)) (fun s56 _ => mn - (intOf s56).toNat)
      case atStart => exact ⟨0, rfl, Nat.zero_le _, Lib.hid (Below.refl _ _), Lib.hid (fun e he => by simp at he)⟩
      case round =>
        obtain ⟨i, rfl, hi, HBI, HAL⟩ := hrel
        obtain ⟨wo, rfl⟩ : ∃ wo : World, wo = wr := ⟨_, rfl⟩
        have hwi : IntKind.i64.wrap ((i : Int) + 1) = (i : Int) + 1 := by rw [IntKind.wrap_i64]; omega
        have HYP := Lib.hid ((HBI.out.block _ (Array.getElem?_eq_some_iff.1 HXP.out).1).trans HXP.out)
        have HY1 := Lib.hid ((HBI.out.block _ (Array.getElem?_eq_some_iff.1 HX1.out).1).trans HX1.out)
        have HY2 := Lib.hid ((HBI.out.block _ (Array.getElem?_eq_some_iff.1 HX2.out).1).trans HX2.out)
        have HAO := Lib.hid (HAF.out.on HBI.out)
        by_cases him : i < mn
        · have him2 : (i : Int) < mn := by omega
          have him3 : (i : Int) < jn := by have := HMJ.out; omega
          obtain ⟨s, hs⟩ : ∃ s, MS[i]? = some s := ⟨_, List.getElem?_eq_getElem (by rw [← HMN.out]; exact him)⟩
          obtain ⟨q, hq⟩ : ∃ q, JS[i]? = some q := ⟨_, List.getElem?_eq_getElem (by rw [← HJN.out, ← HMJ.out]; exact him)⟩
          have hqr := HQJ.out q (List.mem_of_getElem? hq)
          obtain ⟨qn, rfl⟩ : ∃ qn : Nat, q = (qn : Int) := ⟨q.toNat, by omega⟩
          have hqn : qn < NK := by omega
          have hz : Z2[i]? = some (s, (qn : Int)) := by rw [← HZ2.out]; exact zip_at hs hq
          obtain ⟨z, hzz⟩ : ∃ z, (rowB A B (!t))[qn]? = some z := ⟨_, List.getElem?_eq_getElem (by rw [HSK.out]; exact hqn)⟩
          have HGO : Hid (ok2 (s, (qn : Int)) = true → ∀ e ∈ Z2.take (i + 1), ok2 e = true) := Lib.hid (fun h e he => by
            rw [List.take_add_one, hz] at he
            rcases List.mem_append.1 he with h1 | h1
            · exact HAL.out e h1
            · simp at h1; rw [h1]; exact h)
          have HBD : Hid (ok2 (s, (qn : Int)) = false → F = none) := Lib.hid (HF2.out _ (List.mem_of_getElem? hz))
          have HOV : Hid (ok2 (s, (qn : Int)) = (decide (0 ≤ findK NS KS s) || !op || (z.kd == 5))) := Lib.hid (by rw [HOK2.out]; simp only [Int.toNat_natCast, hzz])
          obtain ⟨gm, om, em, hgm, hcm⟩ := ((HK1.out wo HAO.out.lk).names.2).resolve_left (by simp only; omega)
          simp only at em
          have cm : wo.cell? ⟨gm, om + i, none⟩ = some (.string s) := hcm i _ hs
          obtain ⟨gj, oj, ej, hgj, hcj⟩ := ((HK1.out wo HAO.out.lk).kids.2).resolve_left (by simp only; omega)
          simp only at ej
          have cj : wo.cell? ⟨gj, oj + i, none⟩ = some (.int .i64 (qn : Int)) := hcj i _ hq
          have HGL : Hid (gj < wo.heap.size) := Lib.hid hgj
          have HAN : Hid (∀ w', Below wo.heap.size wo w' → Calls Tryz.prog 143 #[.pointer (some ⟨R, 0, none⟩), .agg #[.int .i64 (a : Int), .int .i64 (b : Int), .bool t], .int .i64 (qn : Int)] w' (BoolPost w' (z.kd == 5))) := Lib.hid (fun w' hb => any_ok w' R la NA lc A lb NB ld B (HAO.out.on hb).ltR (HAO.out.on hb).c0 (HAO.out.on hb).c1 (HLL.out w' (HAO.out.on hb).lk).1 (HLL.out w' (HAO.out.on hb).lk).2 a b t qn z hzz)
          subst em ej
          have e0 : wo.cell? ⟨w.heap.size + 1, 0, none⟩ = some (.int .i64 9) := (by rw [cell_of_row _ _ 0 _ 33 _ HY1.out]; rfl)
          have e1 : wo.cell? ⟨w.heap.size + 1, 1, none⟩ = some (.slice na nn nc) := (by rw [cell_of_row _ _ 1 _ 33 _ HY1.out]; rfl)
          have e2 : wo.cell? ⟨w.heap.size + 1, 2, none⟩ = some (.slice ka kn kc) := (by rw [cell_of_row _ _ 2 _ 33 _ HY1.out]; rfl)
          have e3 : wo.cell? ⟨w.heap.size + 1, 3, none⟩ = some (.bool op) := (by rw [cell_of_row _ _ 3 _ 33 _ HY1.out]; rfl)
          have g2 : wo.cell? ⟨w.heap.size + 1 + 1, 2, none⟩ = some (.slice (some ⟨gj, oj, none⟩) jn jc) := (by rw [cell_of_row _ _ 2 _ 33 _ HY2.out]; rfl)
          have p0 : wo.cell? ⟨w.heap.size, 0, none⟩ = some (.int .i64 (a : Int)) := (by rw [cell_of_row _ _ 0 _ 126 _ HYP.out]; rfl)
          have p1 : wo.cell? ⟨w.heap.size, 1, none⟩ = some (.int .i64 (b : Int)) := (by rw [cell_of_row _ _ 1 _ 126 _ HYP.out]; rfl)
          have p2 : wo.cell? ⟨w.heap.size, 2, none⟩ = some (.bool t) := (by rw [cell_of_row _ _ 2 _ 126 _ HYP.out]; rfl)
          have HLT : Hid (w.heap.size < wo.heap.size ∧ w.heap.size + 1 < wo.heap.size ∧ w.heap.size + 1 + 1 < wo.heap.size ∧ R < wo.heap.size) := Lib.hid ⟨(Array.getElem?_eq_some_iff.1 HYP.out).1, (Array.getElem?_eq_some_iff.1 HY1.out).1, (Array.getElem?_eq_some_iff.1 HY2.out).1, HAO.out.ltR⟩
          have HKD2 : Hid (∀ w', Below wo.heap.size wo w' → Calls Tryz.prog 109 #[.agg #[.int .i64 9, .slice na nn nc, .slice ka kn kc, .bool op], .string s] w' (IntPost w' (findK NS KS s))) := Lib.hid (fun w' hb => kid_any w' 9 na nn nc NS ka kn kc KS op s (HH1.out w' (HAO.out.on hb).lk).names (HH1.out w' (HAO.out.on hb).lk).kids HNB.out HNK2.out HRI.out)
          clear hs hq hqr hz hzz hcm hgm hcj hgj hqn
          generalize z.kd = zk at *
          obtain ⟨x, hx⟩ : ∃ x, findK NS KS s = x := ⟨_, rfl⟩
          have hkr := HKR.out s
          rw [hx] at HKD2 HOV hkr
          clear hx
          cases op with
          | false =>
            have HGO2 := Lib.hid (HGO.out (by rw [HOV.out]; simp))
            clear hkr
            go_upto_region 15 with (fail)
            go_quiet (fail)
            go_wp2
            go_roundw
            case rel => exact ⟨i + 1, by go_num, by omega, Lib.hid (below_drewN HBI.out), HGO2⟩
            case measure => simp [intOf]; omega
          | true =>
            by_cases hx0 : x < 0
            · have hx1 : ¬ (0 : Int) ≤ x := by omega
              by_cases hb5 : zk = 5
              · have HGO2 := Lib.hid (HGO.out (by rw [HOV.out]; simp [hb5]))
                have hbt : (zk == 5) = true := by simpa using hb5
                rw [hbt] at HAN
                clear hkr hb5 hx1 hbt
                go_upto_region 15 with (fail)
                go_region_held3 (fun w' => w'.cell? ⟨w.heap.size + 1, 0, none⟩ = some (.int .i64 9) ∧ w'.cell? ⟨w.heap.size + 1, 1, none⟩ = some (.slice na nn nc) ∧ w'.cell? ⟨w.heap.size + 1, 2, none⟩ = some (.slice ka kn kc) ∧ w'.cell? ⟨w.heap.size + 1, 3, none⟩ = some (.bool true) ∧ w'.cell? ⟨w.heap.size + 1 + 1, 2, none⟩ = some (.slice (some ⟨gj, oj, none⟩) jn jc) ∧ w'.cell? ⟨gj, oj + i, none⟩ = some (.int .i64 (qn : Int)) ∧ w'.cell? ⟨w.heap.size, 0, none⟩ = some (.int .i64 (a : Int)) ∧ w'.cell? ⟨w.heap.size, 1, none⟩ = some (.int .i64 (b : Int)) ∧ w'.cell? ⟨w.heap.size, 2, none⟩ = some (.bool t)) (first | exact ⟨e0, e1, e2, e3, g2, cj, p0, p1, p2⟩ | exact ⟨f0, f1, f2, f3, f4, f5, f6, f7, f8⟩ | exact ⟨k0, k1, k2, k3, k4, k5, k6, k7, k8⟩ | go_keep) ((first | (go_at_call 109; (with_reducible refine (HKD2.out _ (by exact (Below.refl _ _).drew)).mono ?_); rintro e w5 ⟨rfl, hb5⟩; have HB5 : Hid (Below wo.heap.size wo w5) := Lib.hid ((Below.refl _ _).drew.trans hb5); have f0 : w5.cell? ⟨w.heap.size + 1, 0, none⟩ = some (.int .i64 9) := keepB HB5.out HLT.out.2.1 e0; have f1 : w5.cell? ⟨w.heap.size + 1, 1, none⟩ = some (.slice na nn nc) := keepB HB5.out HLT.out.2.1 e1; have f2 : w5.cell? ⟨w.heap.size + 1, 2, none⟩ = some (.slice ka kn kc) := keepB HB5.out HLT.out.2.1 e2; have f3 : w5.cell? ⟨w.heap.size + 1, 3, none⟩ = some (.bool true) := keepB HB5.out HLT.out.2.1 e3; have f4 : w5.cell? ⟨w.heap.size + 1 + 1, 2, none⟩ = some (.slice (some ⟨gj, oj, none⟩) jn jc) := keepB HB5.out HLT.out.2.2.1 g2; have f5 : w5.cell? ⟨gj, oj + i, none⟩ = some (.int .i64 (qn : Int)) := keepB HB5.out HGL.out cj; have f6 : w5.cell? ⟨w.heap.size, 0, none⟩ = some (.int .i64 (a : Int)) := keepB HB5.out HLT.out.1 p0; have f7 : w5.cell? ⟨w.heap.size, 1, none⟩ = some (.int .i64 (b : Int)) := keepB HB5.out HLT.out.1 p1; have f8 : w5.cell? ⟨w.heap.size, 2, none⟩ = some (.bool t) := keepB HB5.out HLT.out.1 p2; have HAN2 := Lib.hid (HAN.out _ HB5.out); clear hb5) | (go_at_call 143; (with_reducible refine HAN2.out.mono ?_); rintro e w6 ⟨rfl, hb6⟩; have HB6 : Hid (Below wo.heap.size wo w6) := Lib.hid (HB5.out.trans (hb6.mono HB5.out.size)); have k0 : w6.cell? ⟨w.heap.size + 1, 0, none⟩ = some (.int .i64 9) := keepB HB6.out HLT.out.2.1 e0; have k1 : w6.cell? ⟨w.heap.size + 1, 1, none⟩ = some (.slice na nn nc) := keepB HB6.out HLT.out.2.1 e1; have k2 : w6.cell? ⟨w.heap.size + 1, 2, none⟩ = some (.slice ka kn kc) := keepB HB6.out HLT.out.2.1 e2; have k3 : w6.cell? ⟨w.heap.size + 1, 3, none⟩ = some (.bool true) := keepB HB6.out HLT.out.2.1 e3; have k4 : w6.cell? ⟨w.heap.size + 1 + 1, 2, none⟩ = some (.slice (some ⟨gj, oj, none⟩) jn jc) := keepB HB6.out HLT.out.2.2.1 g2; have k5 : w6.cell? ⟨gj, oj + i, none⟩ = some (.int .i64 (qn : Int)) := keepB HB6.out HGL.out cj; have k6 : w6.cell? ⟨w.heap.size, 0, none⟩ = some (.int .i64 (a : Int)) := keepB HB6.out HLT.out.1 p0; have k7 : w6.cell? ⟨w.heap.size, 1, none⟩ = some (.int .i64 (b : Int)) := keepB HB6.out HLT.out.1 p1; have k8 : w6.cell? ⟨w.heap.size, 2, none⟩ = some (.bool t) := keepB HB6.out HLT.out.1 p2; clear hb6) | fail))
                all_goals
                  go_wp2
                  go_roundw
                  case rel => exact ⟨i + 1, by go_num, by omega, Lib.hid (HBI.out.trans (HB6.out.mono HBI.out.size)), HGO2⟩
                  case measure => simp [intOf]; omega
              · have hbf : (zk == 5) = false := by simpa using hb5
                have HBAD := Lib.hid (HBD.out (by rw [HOV.out]; simp [hx1, hb5]))
                rw [hbf] at HAN
                clear hkr hb5 hx1 hbf
                go_upto_region 15 with (fail)
                go_region_held3 (fun w' => w'.cell? ⟨w.heap.size + 1, 0, none⟩ = some (.int .i64 9) ∧ w'.cell? ⟨w.heap.size + 1, 1, none⟩ = some (.slice na nn nc) ∧ w'.cell? ⟨w.heap.size + 1, 2, none⟩ = some (.slice ka kn kc) ∧ w'.cell? ⟨w.heap.size + 1, 3, none⟩ = some (.bool true) ∧ w'.cell? ⟨w.heap.size + 1 + 1, 2, none⟩ = some (.slice (some ⟨gj, oj, none⟩) jn jc) ∧ w'.cell? ⟨gj, oj + i, none⟩ = some (.int .i64 (qn : Int)) ∧ w'.cell? ⟨w.heap.size, 0, none⟩ = some (.int .i64 (a : Int)) ∧ w'.cell? ⟨w.heap.size, 1, none⟩ = some (.int .i64 (b : Int)) ∧ w'.cell? ⟨w.heap.size, 2, none⟩ = some (.bool t)) (first | exact ⟨e0, e1, e2, e3, g2, cj, p0, p1, p2⟩ | exact ⟨f0, f1, f2, f3, f4, f5, f6, f7, f8⟩ | exact ⟨k0, k1, k2, k3, k4, k5, k6, k7, k8⟩ | go_keep) ((first | (go_at_call 109; (with_reducible refine (HKD2.out _ (by exact (Below.refl _ _).drew)).mono ?_); rintro e w5 ⟨rfl, hb5⟩; have HB5 : Hid (Below wo.heap.size wo w5) := Lib.hid ((Below.refl _ _).drew.trans hb5); have f0 : w5.cell? ⟨w.heap.size + 1, 0, none⟩ = some (.int .i64 9) := keepB HB5.out HLT.out.2.1 e0; have f1 : w5.cell? ⟨w.heap.size + 1, 1, none⟩ = some (.slice na nn nc) := keepB HB5.out HLT.out.2.1 e1; have f2 : w5.cell? ⟨w.heap.size + 1, 2, none⟩ = some (.slice ka kn kc) := keepB HB5.out HLT.out.2.1 e2; have f3 : w5.cell? ⟨w.heap.size + 1, 3, none⟩ = some (.bool true) := keepB HB5.out HLT.out.2.1 e3; have f4 : w5.cell? ⟨w.heap.size + 1 + 1, 2, none⟩ = some (.slice (some ⟨gj, oj, none⟩) jn jc) := keepB HB5.out HLT.out.2.2.1 g2; have f5 : w5.cell? ⟨gj, oj + i, none⟩ = some (.int .i64 (qn : Int)) := keepB HB5.out HGL.out cj; have f6 : w5.cell? ⟨w.heap.size, 0, none⟩ = some (.int .i64 (a : Int)) := keepB HB5.out HLT.out.1 p0; have f7 : w5.cell? ⟨w.heap.size, 1, none⟩ = some (.int .i64 (b : Int)) := keepB HB5.out HLT.out.1 p1; have f8 : w5.cell? ⟨w.heap.size, 2, none⟩ = some (.bool t) := keepB HB5.out HLT.out.1 p2; have HAN2 := Lib.hid (HAN.out _ HB5.out); clear hb5) | (go_at_call 143; (with_reducible refine HAN2.out.mono ?_); rintro e w6 ⟨rfl, hb6⟩; have HB6 : Hid (Below wo.heap.size wo w6) := Lib.hid (HB5.out.trans (hb6.mono HB5.out.size)); have k0 : w6.cell? ⟨w.heap.size + 1, 0, none⟩ = some (.int .i64 9) := keepB HB6.out HLT.out.2.1 e0; have k1 : w6.cell? ⟨w.heap.size + 1, 1, none⟩ = some (.slice na nn nc) := keepB HB6.out HLT.out.2.1 e1; have k2 : w6.cell? ⟨w.heap.size + 1, 2, none⟩ = some (.slice ka kn kc) := keepB HB6.out HLT.out.2.1 e2; have k3 : w6.cell? ⟨w.heap.size + 1, 3, none⟩ = some (.bool true) := keepB HB6.out HLT.out.2.1 e3; have k4 : w6.cell? ⟨w.heap.size + 1 + 1, 2, none⟩ = some (.slice (some ⟨gj, oj, none⟩) jn jc) := keepB HB6.out HLT.out.2.2.1 g2; have k5 : w6.cell? ⟨gj, oj + i, none⟩ = some (.int .i64 (qn : Int)) := keepB HB6.out HGL.out cj; have k6 : w6.cell? ⟨w.heap.size, 0, none⟩ = some (.int .i64 (a : Int)) := keepB HB6.out HLT.out.1 p0; have k7 : w6.cell? ⟨w.heap.size, 1, none⟩ = some (.int .i64 (b : Int)) := keepB HB6.out HLT.out.1 p1; have k8 : w6.cell? ⟨w.heap.size, 2, none⟩ = some (.bool t) := keepB HB6.out HLT.out.1 p2; clear hb6) | fail))
                all_goals
                  go_wp2
                  go_ret
                  exact ⟨by rw [HBAD.out]; rfl, _, HAO.out.on HB6.out, HKW.out.trans (Kp.of_below (HBI.out.trans (HB6.out.mono HBI.out.size))), HQS.out, fun m e => (by rw [HBAD.out] at e; cases e)⟩
            · have hx1 : (0 : Int) ≤ x := by omega
              have HGO2 := Lib.hid (HGO.out (by rw [HOV.out]; simp [hx1]))
              clear hkr
              obtain ⟨xn, rfl⟩ : ∃ xn : Nat, x = (xn : Int) := ⟨x.toNat, by omega⟩
              clear hx0
              go_upto_region 15 with (fail)
              refine wp_region_held_drew (S := (fun w' => w'.cell? ⟨w.heap.size + 1, 0, none⟩ = some (.int .i64 9) ∧ w'.cell? ⟨w.heap.size + 1, 1, none⟩ = some (.slice na nn nc) ∧ w'.cell? ⟨w.heap.size + 1, 2, none⟩ = some (.slice ka kn kc) ∧ w'.cell? ⟨w.heap.size + 1, 3, none⟩ = some (.bool true) ∧ w'.cell? ⟨w.heap.size + 1 + 1, 2, none⟩ = some (.slice (some ⟨gj, oj, none⟩) jn jc) ∧ w'.cell? ⟨gj, oj + i, none⟩ = some (.int .i64 (qn : Int)) ∧ w'.cell? ⟨w.heap.size, 0, none⟩ = some (.int .i64 (a : Int)) ∧ w'.cell? ⟨w.heap.size, 1, none⟩ = some (.int .i64 (b : Int)) ∧ w'.cell? ⟨w.heap.size, 2, none⟩ = some (.bool t))) (by kernel_rfl) ?_ (fun hHeld => ?_)
              · exact ⟨e0, e1, e2, e3, g2, cj, p0, p1, p2⟩
              refine wpAnyH_take (i := 0) (oi := { dst := some 61, op := Op.fieldAddr 33 (Operand.tmp 6) 3, type := 0, pos := "below.go:72", after := #[], guard := none }) (v := ?_) rfl (by kernel_rfl) (by kernel_rfl) (by kernel_rfl) (fun _ _ _ h => h) (Or.inl ⟨by rfl, ?_⟩) (by assumption) ?_
              rotate_left
              · (intro w hSw; (try dsimp only at hSw); go_simp; try (with_reducible rfl))
              try simp only [Act.put, List.setIfInBounds_toArray, List.set_cons_zero, List.set_cons_succ]
              refine wpAnyH_take (i := 1) (oi := { dst := some 62, op := Op.load 4 (Operand.tmp 61), type := 4, pos := "below.go:72", after := #[{ on := 0, ground := Ground.data }], guard := none }) (v := ?_) rfl (by kernel_rfl) (by kernel_rfl) (by kernel_rfl) (fun _ _ _ h => h) (Or.inl ⟨by rfl, ?_⟩) (by assumption) ?_
              rotate_left
              · (intro w hSw; (try dsimp only at hSw); go_simp; try (with_reducible rfl))
              try simp only [Act.put, List.setIfInBounds_toArray, List.set_cons_zero, List.set_cons_succ]
              refine wpAnyH_take (i := 2) (oi := { dst := some 63, op := Op.move (Operand.tmp 62), type := 4, pos := "below.go:72", after := #[{ on := 1, ground := Ground.data }], guard := none }) (v := ?_) rfl (by kernel_rfl) (by kernel_rfl) (by kernel_rfl) (fun _ _ _ h => h) (Or.inl ⟨by rfl, ?_⟩) (by assumption) ?_
              rotate_left
              · (intro w hSw; (try dsimp only at hSw); go_simp; try (with_reducible rfl))
              try simp only [Act.put, List.setIfInBounds_toArray, List.set_cons_zero, List.set_cons_succ]
              refine wpAnyH_take (i := 3) (oi := { dst := some 64, op := Op.load 33 (Operand.tmp 6), type := 33, pos := "below.go:72", after := #[{ on := 2, ground := Ground.guard }], guard := some (2, true) }) (v := ?_) rfl (by kernel_rfl) (by kernel_rfl) (by kernel_rfl) (fun _ _ _ h => h) (Or.inl ⟨by rfl, ?_⟩) (by assumption) ?_
              rotate_left
              · (intro w hSw; (try dsimp only at hSw); go_simp; try (with_reducible rfl))
              try simp only [Act.put, List.setIfInBounds_toArray, List.set_cons_zero, List.set_cons_succ]
              refine wpAnyH_take (i := 4) (oi := { dst := some 65, op := Op.move (Operand.tmp 13), type := 9, pos := "below.go:72", after := #[{ on := 2, ground := Ground.guard }], guard := some (2, true) }) (v := ?_) rfl (by kernel_rfl) (by kernel_rfl) (by kernel_rfl) (fun _ _ _ h => h) (Or.inl ⟨by rfl, ?_⟩) (by assumption) ?_
              rotate_left
              · (intro w hSw; (try dsimp only at hSw); go_simp; try (with_reducible rfl))
              try simp only [Act.put, List.setIfInBounds_toArray, List.set_cons_zero, List.set_cons_succ]
              refine wpAnyH_ready (rs := [5]) (by kernel_rfl) (by simp) ?_
              refine AllReadyH.cons (o := { dst := some 66, op := Op.call { callee := Callee.value (Operand.func 109), args := #[Operand.tmp 64, Operand.tmp 65], argTypes := #[33, 9] }, type := 3, pos := "below.go:72", after := #[{ on := 3, ground := Ground.data }, { on := 4, ground := Ground.data }, { on := 2, ground := Ground.chain }, { on := 2, ground := Ground.guard }], guard := some (2, true) }) rfl (fun K hK => ?_) AllReadyH.nil
              go_simp
              (go_at_call 109; (with_reducible refine (HKD2.out _ (by exact (Below.refl _ _).drew)).mono ?_); rintro e w5 ⟨rfl, hb5⟩; have HB5 : Hid (Below wo.heap.size wo w5) := Lib.hid ((Below.refl _ _).drew.trans hb5); have f0 : w5.cell? ⟨w.heap.size + 1, 0, none⟩ = some (.int .i64 9) := keepB HB5.out HLT.out.2.1 e0; have f1 : w5.cell? ⟨w.heap.size + 1, 1, none⟩ = some (.slice na nn nc) := keepB HB5.out HLT.out.2.1 e1; have f2 : w5.cell? ⟨w.heap.size + 1, 2, none⟩ = some (.slice ka kn kc) := keepB HB5.out HLT.out.2.1 e2; have f3 : w5.cell? ⟨w.heap.size + 1, 3, none⟩ = some (.bool true) := keepB HB5.out HLT.out.2.1 e3; have f4 : w5.cell? ⟨w.heap.size + 1 + 1, 2, none⟩ = some (.slice (some ⟨gj, oj, none⟩) jn jc) := keepB HB5.out HLT.out.2.2.1 g2; have f5 : w5.cell? ⟨gj, oj + i, none⟩ = some (.int .i64 (qn : Int)) := keepB HB5.out HGL.out cj; have f6 : w5.cell? ⟨w.heap.size, 0, none⟩ = some (.int .i64 (a : Int)) := keepB HB5.out HLT.out.1 p0; have f7 : w5.cell? ⟨w.heap.size, 1, none⟩ = some (.int .i64 (b : Int)) := keepB HB5.out HLT.out.1 p1; have f8 : w5.cell? ⟨w.heap.size, 2, none⟩ = some (.bool t) := keepB HB5.out HLT.out.1 p2; have HAN2 := Lib.hid (HAN.out _ HB5.out); clear hb5)
              go_wp2_with fail
              refine hK.out _ _ ?_ (fun hHeld2 => ?_)
              · exact ⟨f0, f1, f2, f3, f4, f5, f6, f7, f8⟩
              clear hK K
              refine wpAnyH_take (i := 6) (oi := { dst := some 67, op := Op.binOp BinOp.lss 3 (Operand.tmp 66) (Operand.const (Value.int IntKind.i64 0)) 3, type := 4, pos := "below.go:72", after := #[{ on := 5, ground := Ground.data }, { on := 2, ground := Ground.guard }], guard := some (2, true) }) (v := ?_) rfl (by kernel_rfl) (by kernel_rfl) (by kernel_rfl) (fun _ _ _ h => h) (Or.inl ⟨by rfl, ?_⟩) (by assumption) ?_
              rotate_left
              · (intro w hSw; (try dsimp only at hSw); go_simp; try (with_reducible rfl))
              try simp only [Act.put, List.setIfInBounds_toArray, List.set_cons_zero, List.set_cons_succ]
              refine wpAnyH_take (i := 7) (oi := { dst := some 68, op := Op.pick (Operand.tmp 63) (Operand.tmp 67) (Operand.const (Value.bool false)), type := 4, pos := "below.go:72", after := #[{ on := 2, ground := Ground.data }, { on := 6, ground := Ground.data }], guard := none }) (v := ?_) rfl (by kernel_rfl) (by kernel_rfl) (by kernel_rfl) (fun _ _ _ h => h) (Or.inl ⟨by rfl, ?_⟩) (by assumption) ?_
              rotate_left
              · (intro w hSw; (try dsimp only at hSw); go_simp; try (with_reducible rfl))
              try simp only [Act.put, List.setIfInBounds_toArray, List.set_cons_zero, List.set_cons_succ]
              refine wpAnyH_take (i := 8) (oi := { dst := some 69, op := Op.move (Operand.tmp 68), type := 4, pos := "below.go:72", after := #[{ on := 7, ground := Ground.data }, { on := 5, ground := Ground.chain }], guard := none }) (v := ?_) rfl (by kernel_rfl) (by kernel_rfl) (by kernel_rfl) (fun _ _ _ h => h) (Or.inl ⟨by rfl, ?_⟩) (by assumption) ?_
              rotate_left
              · (intro w hSw; (try dsimp only at hSw); go_simp; try (with_reducible rfl))
              try simp only [Act.put, List.setIfInBounds_toArray, List.set_cons_zero, List.set_cons_succ]
              refine wpAnyH_take (i := 9) (oi := { dst := some 70, op := Op.move (Operand.tmp 0), type := 119, pos := "below.go:72", after := #[{ on := 8, ground := Ground.guard }], guard := some (8, true) }) (v := undef) rfl (by kernel_rfl) (by kernel_rfl) (by kernel_rfl) (fun _ _ _ h => h) (Or.inr ⟨by rfl, rfl⟩) (by assumption) ?_
              try simp only [Act.put, List.setIfInBounds_toArray, List.set_cons_zero, List.set_cons_succ]
              refine wpAnyH_take (i := 10) (oi := { dst := some 71, op := Op.load 126 (Operand.tmp 5), type := 126, pos := "below.go:72", after := #[{ on := 8, ground := Ground.guard }], guard := some (8, true) }) (v := undef) rfl (by kernel_rfl) (by kernel_rfl) (by kernel_rfl) (fun _ _ _ h => h) (Or.inr ⟨by rfl, rfl⟩) (by assumption) ?_
              try simp only [Act.put, List.setIfInBounds_toArray, List.set_cons_zero, List.set_cons_succ]
              refine wpAnyH_take (i := 11) (oi := { dst := some 72, op := Op.fieldAddr 33 (Operand.tmp 7) 2, type := 0, pos := "below.go:72", after := #[{ on := 8, ground := Ground.guard }], guard := some (8, true) }) (v := undef) rfl (by kernel_rfl) (by kernel_rfl) (by kernel_rfl) (fun _ _ _ h => h) (Or.inr ⟨by rfl, rfl⟩) (by assumption) ?_
              try simp only [Act.put, List.setIfInBounds_toArray, List.set_cons_zero, List.set_cons_succ]
              refine wpAnyH_take (i := 12) (oi := { dst := some 73, op := Op.load 31 (Operand.tmp 72), type := 31, pos := "below.go:72", after := #[{ on := 11, ground := Ground.data }, { on := 8, ground := Ground.guard }], guard := some (8, true) }) (v := undef) rfl (by kernel_rfl) (by kernel_rfl) (by kernel_rfl) (fun _ _ _ h => h) (Or.inr ⟨by rfl, rfl⟩) (by assumption) ?_
              try simp only [Act.put, List.setIfInBounds_toArray, List.set_cons_zero, List.set_cons_succ]
              refine wpAnyH_take (i := 13) (oi := { dst := some 74, op := Op.move (Operand.tmp 12), type := 3, pos := "below.go:72", after := #[{ on := 8, ground := Ground.guard }], guard := some (8, true) }) (v := undef) rfl (by kernel_rfl) (by kernel_rfl) (by kernel_rfl) (fun _ _ _ h => h) (Or.inr ⟨by rfl, rfl⟩) (by assumption) ?_
              try simp only [Act.put, List.setIfInBounds_toArray, List.set_cons_zero, List.set_cons_succ]
              refine wpAnyH_take (i := 14) (oi := { dst := some 75, op := Op.indexAddr 31 (Operand.tmp 73) (Operand.tmp 74), type := 0, pos := "below.go:72", after := #[{ on := 12, ground := Ground.data }, { on := 13, ground := Ground.data }, { on := 8, ground := Ground.guard }], guard := some (8, true) }) (v := undef) rfl (by kernel_rfl) (by kernel_rfl) (by kernel_rfl) (fun _ _ _ h => h) (Or.inr ⟨by rfl, rfl⟩) (by assumption) ?_
              try simp only [Act.put, List.setIfInBounds_toArray, List.set_cons_zero, List.set_cons_succ]
              refine wpAnyH_take (i := 15) (oi := { dst := some 76, op := Op.load 3 (Operand.tmp 75), type := 3, pos := "below.go:72", after := #[{ on := 14, ground := Ground.data }, { on := 8, ground := Ground.guard }], guard := some (8, true) }) (v := undef) rfl (by kernel_rfl) (by kernel_rfl) (by kernel_rfl) (fun _ _ _ h => h) (Or.inr ⟨by rfl, rfl⟩) (by assumption) ?_
              try simp only [Act.put, List.setIfInBounds_toArray, List.set_cons_zero, List.set_cons_succ]
              refine wpAnyH_take (i := 16) (oi := { dst := some 77, op := Op.call { callee := Callee.value (Operand.func 143), args := #[Operand.tmp 70, Operand.tmp 71, Operand.tmp 76], argTypes := #[119, 126, 3] }, type := 4, pos := "below.go:72", after := #[{ on := 9, ground := Ground.data }, { on := 10, ground := Ground.data }, { on := 15, ground := Ground.data }, { on := 8, ground := Ground.chain }, { on := 8, ground := Ground.guard }], guard := some (8, true) }) (v := undef) rfl (by kernel_rfl) (by kernel_rfl) (by kernel_rfl) (fun _ _ _ h => h) (Or.inr ⟨by rfl, rfl⟩) (by assumption) ?_
              try simp only [Act.put, List.setIfInBounds_toArray, List.set_cons_zero, List.set_cons_succ]
              refine wpAnyH_take (i := 17) (oi := { dst := some 78, op := Op.unOp UnOp.not 4 (Operand.tmp 77), type := 4, pos := "below.go:72", after := #[{ on := 16, ground := Ground.data }, { on := 8, ground := Ground.guard }], guard := some (8, true) }) (v := undef) rfl (by kernel_rfl) (by kernel_rfl) (by kernel_rfl) (fun _ _ _ h => h) (Or.inr ⟨by rfl, rfl⟩) (by assumption) ?_
              try simp only [Act.put, List.setIfInBounds_toArray, List.set_cons_zero, List.set_cons_succ]
              refine wpAnyH_take (i := 18) (oi := { dst := some 79, op := Op.pick (Operand.tmp 69) (Operand.tmp 78) (Operand.const (Value.bool false)), type := 4, pos := "below.go:72", after := #[{ on := 8, ground := Ground.data }, { on := 17, ground := Ground.data }], guard := none }) (v := ?_) rfl (by kernel_rfl) (by kernel_rfl) (by kernel_rfl) (fun _ _ _ h => h) (Or.inl ⟨by rfl, ?_⟩) (by assumption) ?_
              rotate_left
              · (intro w hSw; (try dsimp only at hSw); go_simp; try (with_reducible rfl))
              try simp only [Act.put, List.setIfInBounds_toArray, List.set_cons_zero, List.set_cons_succ]
              refine wpAnyH_done (by kernel_rfl) ?_ _
              go_wp2
              go_roundw
              case rel => exact ⟨i + 1, by go_num, by omega, Lib.hid (HBI.out.trans (HB5.out.mono HBI.out.size)), HGO2⟩
              case measure => simp [intOf]; omega
        · have him2 : ¬ (i : Int) < mn := by omega
          have HFF : Hid (F = some (Z1.filterMap g)) := Lib.hid (HF3.out HALL1.out (fun e he => HAL.out e (by rw [List.take_of_length_le (by rw [HZL2.out]; omega)]; exact he)))
          go_wp2
          go_ret
          exact ⟨by rw [HFF.out]; rfl, _, HAO.out, HKW.out.trans (Kp.of_below HBI.out), HQS.out, fun m e => (by rw [HFF.out] at e; cases e; exact ⟨fun _ h => h, fun _ h => h⟩)⟩
end Go.Proofs.YtifilhkkgkihpaaGreatDoor
