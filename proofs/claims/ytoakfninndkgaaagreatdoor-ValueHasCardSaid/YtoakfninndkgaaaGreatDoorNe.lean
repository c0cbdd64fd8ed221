/- Walks: once, rising. -/
import Derived.Test.YtoakfninndkgaaaGreatDoorNd
set_option linter.unusedVariables false
namespace Go.Proofs.YtoakfninndkgaaaGreatDoor
open Go.RowKit
def bl (a b : ByteArray) : Bool := Op.bytesLess a.toList b.toList
theorem less_lex : ∀ (x y : List UInt8), Op.bytesLess x y = decide (x < y)
  | [], [] => by simp [Op.bytesLess]
  | _ :: _, [] => by simp [Op.bytesLess]
  | [], _ :: _ => by simp [Op.bytesLess]
  | a :: x, b :: y => by
    rw [Op.bytesLess, less_lex x y]
    simp only [List.cons_lt_cons_iff]
    by_cases h1 : a < b <;> by_cases h2 : a = b <;> by_cases h3 : x < y <;> simp [h1, h2, h3]
theorem bl_irrefl (a : ByteArray) : bl a a = false := by
  unfold bl; rw [less_lex]; exact decide_eq_false (List.lt_irrefl _)
theorem bl_trans {a b c : ByteArray} (h : bl a b = true) (h2 : bl b c = true) : bl a c = true := by
  unfold bl at *; rw [less_lex] at *
  exact decide_eq_true (List.lt_trans (of_decide_eq_true h) (of_decide_eq_true h2))
/-- do names rise? -/
def risesB : List ByteArray → Bool
  | [] => true
  | [_] => true
  | a :: b :: l => bl a b && risesB (b :: l)
theorem rises_pair : ∀ (S : List ByteArray), risesB S = true → S.Pairwise (fun a b => bl a b = true)
  | [], _ => .nil
  | [a], _ => by simp
  | a :: b :: l, h => by
    simp only [risesB, Bool.and_eq_true] at h
    have ih := rises_pair (b :: l) h.2
    refine .cons (fun x hx => ?_) ih
    rcases List.mem_cons.1 hx with rfl | hx
    · exact h.1
    · exact bl_trans h.1 ((List.pairwise_cons.1 ih).1 x hx)
theorem rises_at (S : List ByteArray) (h : risesB S = true) (i j : Nat) (a b : ByteArray) (hij : i < j) (ha : S[i]? = some a) (hb : S[j]? = some b) : bl a b = true := by
  have hp := List.pairwise_iff_getElem.1 (rises_pair S h)
  obtain ⟨hi, rfl⟩ := List.getElem?_eq_some_iff.1 ha
  obtain ⟨hj, rfl⟩ := List.getElem?_eq_some_iff.1 hb
  exact hp i j hi hj hij
theorem rises_ne (S : List ByteArray) (h : risesB S = true) (i j : Nat) (a b : ByteArray) (hij : i ≠ j) (ha : S[i]? = some a) (hb : S[j]? = some b) : a ≠ b := by
  intro e
  subst e
  rcases Nat.lt_or_gt_of_ne hij with h' | h'
  · have := rises_at S h i j a a h' ha hb; rw [bl_irrefl] at this; cases this
  · have := rises_at S h j i a a h' hb ha; rw [bl_irrefl] at this; cases this
theorem rises_step (S : List ByteArray) (h : ∀ i a b, S[i]? = some a → S[i + 1]? = some b → bl a b = true) : risesB S = true := by
  induction S with
  | nil => rfl
  | cons a l ih =>
    cases l with
    | nil => rfl
    | cons b l =>
      rw [risesB, h 0 a b rfl rfl, ih (fun i x y hx hy => h (i + 1) x y (by simpa using hx) (by simpa using hy))]
      rfl
theorem rises_not (S : List ByteArray) (i : Nat) (a b : ByteArray) (ha : S[i]? = some a) (hb : S[i + 1]? = some b) (h : bl a b = false) : risesB S = false := by
  cases hr : risesB S with
  | false => rfl
  | true => have := rises_at S hr i (i + 1) a b (by omega) ha hb; rw [h] at this; cases this
abbrev keyS (x : ByteArray) : Lit := .string x.data.toList
theorem keyS_inj {x y : ByteArray} (h : keyS x = keyS y) : x = y := ByteArray.ext (Array.toList_inj.1 (Lit.string.inj h))
theorem keyS_is (x : ByteArray) : WideAt.IsKeyLit (keyS x) := by simp [WideAt.IsKeyLit]
theorem keyOf9 (x : ByteArray) (h : x.size ≤ 100000) : keyOf Tryz.prog 9 (.string x) = some (keyS x) := WideMaps.keyOf_string_mk Tryz.underlying9 (by unfold maxLen; omega)
theorem plainElem_bool_inv {H : Type} {P : Program} {e : TypeId} (he : P.underlying e = some .bool) {v : Value} {z : DataW H × List MemPlace} (h : plainElem P e v = some z) : ∃ x, v = .bool x ∧ z = (.lit (.bool x), []) := by
  unfold plainElem at h
  rw [he] at h
  cases v <;> simp at h
  exact ⟨_, rfl, h.symm⟩
theorem wpList_lookup_own_bool {H : Type} {P : Program} (w : World) {ops : Array Oper} {rest : List Oper} {o : Oper} {a : Act} {Q : Exit → Act → World → Prop}
    (hg : o.guard = none) (m x : Operand) (t : TypeId) (hop : o.op = Op.lookup t m x false)
    (k e : TypeId) (K : Maps.Keyed P k) (ht : P.underlying t = some (.map k e)) (he : P.underlying e = some .bool) (hz : (zeroValue e).run P w = .ok (.bool false) w) (b n : Nat) (D : DataW H)
    (hm : a.eval m = .map (some b)) (hown : w.ownsMap P k (plainElem P e) b n D) (key : Value) (kl : Lit) (hx : a.eval x = key) (hkey : keyOf P k key = some kl)
    (hK : ∀ c : Bool, D.atKey kl (.lit (.bool false)) = .lit (.bool c) → wpList P ops Q rest (a.put o.dst (.bool c)) w) :
    wpList P ops Q (o :: rest) a w := by
  refine wpList_plain hg fun K' hK' => ?_
  obtain ⟨v, ps, hrun, hv⟩ := hown.lookup K ht hz (plainElem_bool he false) hkey
  obtain ⟨c, rfl, hc⟩ := plainElem_bool_inv he hv
  unfold Oper.wp
  simp [execOp, hop, hm, hx, hrun, Result.andThen]
  exact hK' _ _ (hK c (congrArg Prod.fst hc))
theorem zero4 (w : World) : (zeroValue 4).run Tryz.prog w = .ok (.bool false) w := by kernel_rfl
set_option maxRecDepth 20000 in
theorem once_some (w : World) (b off n c : Nat) (S : List ByteArray) (hS : S.length = n) (hn : n ≤ 100000) (hc : Hid (∀ (k : Nat) (s : ByteArray), S[k]? = some s → w.cell? ⟨b, off + k, none⟩ = some (.string s))) (hb : b < w.heap.size) (hz : Hid (∀ s ∈ S, s.size ≤ 100000)) (hr : Hid (risesB S = true)) :
    Calls Tryz.prog 103 #[.slice (some ⟨b, off, none⟩) n c] w fun e w' => e = .returned (.bool true) ∧ Below w.heap.size w w' := by
  have HS := Lib.hid hS
  have HBB := Lib.hid hb
  have hmm := @run_makeMap Tryz.prog
  have HM0 := Lib.hid (World.ownsMap_made (H := Unit) w Tryz.prog 9 (plainElem Tryz.prog 4))
  have HB0 : Hid (Below w.heap.size w (w.alloc (.map #[] 0))) := Lib.hid ((Below.refl _ _).alloc (Nat.le_refl _) _)
  clear hS hb
  go_enter Tryz.func103, Tryz.ntmps103
  go_wp2
  generalize (w.alloc (.map #[] 0)) = w1 at *
  go_loopw [9] (fun s9 wr => ∃ k : Nat, k ≤ n ∧ s9 = .int .i64 (k : Int) ∧ Hid (∃ D : DataW Unit, wr.ownsMap Tryz.prog 9 (plainElem Tryz.prog 4) w.heap.size k D ∧ ∀ j s, S[j]? = some s → k ≤ j → Maps.has D (keyS s) = false) ∧ Hid (Below w.heap.size w wr)) (fun s9 _ => n - (intOf s9).toNat)
  case atStart => exact ⟨0, Nat.zero_le _, rfl, Lib.hid ⟨_, HM0.out, fun _ _ _ _ => rfl⟩, HB0⟩
  case round =>
    obtain ⟨k, hk, rfl, HMM, HW⟩ := hrel
    have hwk : IntKind.i64.wrap ((k : Int) + 1) = (k : Int) + 1 := by rw [IntKind.wrap_i64]; omega
    by_cases hlt : k < n
    · have hlt2 : (k : Int) < n := by omega
      obtain ⟨s, hs⟩ : ∃ s, S[k]? = some s := ⟨_, List.getElem?_eq_getElem (by rw [HS.out]; exact hlt)⟩
      have ac : wr.cell? ⟨b, off + k, none⟩ = some (.string s) := by rw [← hc.out k s hs]; exact HW.out.cell (p := ⟨b, off + k, none⟩) HBB.out
      have HSS := Lib.hid hs
      have HKX := Lib.hid (keyOf9 s (hz.out s (List.mem_of_getElem? hs)))
      obtain ⟨D, hM, hno⟩ := HMM.out
      have HM := Lib.hid hM
      have HNO := Lib.hid hno
      have HAT : Hid (D.atKey (keyS s) (.lit (.bool false)) = .lit (.bool false)) := Lib.hid (Maps.atKey_of_not_has (hno k s hs (Nat.le_refl _)) _)
      clear hs hM hno
      go_wp2_with (first | (at_lookup; refine wpList_lookup_own_bool _ rfl _ _ 200 rfl 9 4 (Maps.string_keyed Tryz.underlying9) Tryz.underlying200 Tryz.underlying4 (zero4 _) w.heap.size k D rfl HM.out _ (keyS s) rfl HKX.out ?_; intro c0 hat; obtain rfl : c0 = false := (by rw [HAT.out] at hat; injection hat with hat; injection hat with hat; exact hat.symm); clear hat) | (at_mapUpdate; refine wpList_mapUpdate_own _ rfl _ _ _ 200 rfl 9 4 (Maps.string_keyed Tryz.underlying9) Tryz.underlying200 _ w.heap.size k D rfl HM.out (by unfold maxLen; omega) _ _ _ rfl rfl HKX.out _ [] (plainElem_bool Tryz.underlying4 true) ?_; intro w5 hown5 hgrow5))
      have HO5 := Lib.hid hown5
      have HG5 : Hid (Below w.heap.size w w5) := Lib.hid (HW.out.grown hgrow5 HW.out.size (fun q hq => by cases hq; exact Nat.le_refl _))
      clear hown5 hgrow5
      go_wp2
      go_roundw
      case rel => exact ⟨k + 1, by omega, by go_num, Lib.hid ⟨_, HO5.out, fun j s' hj hkj => by
        rw [Maps.has_put_other (fun e => rises_ne S hr.out j k s' s (by omega) hj HSS.out (keyS_inj e))]
        exact HNO.out j s' hj (by omega)⟩, HG5⟩
      case measure => simp [intOf]; omega
    · have hlt2 : ¬ (k : Int) < n := by omega
      go_wp2
      go_ret
      exact ⟨rfl, HW.out⟩
theorem once_zero (w : World) (a : Option Addr) (c : Nat) : Calls Tryz.prog 103 #[.slice a 0 c] w fun e w' => e = .returned (.bool true) ∧ Below w.heap.size w w' := by
  have hmm := @run_makeMap Tryz.prog
  have HB0 : Hid (Below w.heap.size w (w.alloc (.map #[] 0))) := Lib.hid ((Below.refl _ _).alloc (Nat.le_refl _) _)
  go_enter Tryz.func103, Tryz.ntmps103
  go_wp2
  go_loop [9] (fun s9 => s9 = .int .i64 0) (fun _ => 0)
  case atStart => exact rfl
  case round =>
    obtain rfl := hrel
    go_wp2
    go_ret
    exact ⟨rfl, HB0.out⟩
theorem once_any (w : World) (a : Option Addr) (n c : Nat) (S : List ByteArray) (hN : NamesAt w a n S) (hn : n ≤ 100000) (hz : ∀ s ∈ S, s.size ≤ 100000) (hr : risesB S = true) : Calls Tryz.prog 103 #[.slice a n c] w fun e w' => e = .returned (.bool true) ∧ Below w.heap.size w w' := by
  obtain ⟨hn', hN⟩ := hN
  rcases hN with rfl | ⟨gn, on, rfl, hg, hc⟩
  · exact once_zero w a c
  · exact once_some w gn on n c S hn'.symm hn (Lib.hid hc) hg (Lib.hid hz) (Lib.hid hr)
theorem below_drewN {B q : Nat} {a w : World} (h : Below B a w) : Below B a (w.drewN q) := ⟨h.os, h.tape, h.output, h.size, h.block⟩
set_option maxRecDepth 20000 in
theorem rising_some (w : World) (b off n c : Nat) (S : List ByteArray) (hS : S.length = n) (hn : n ≤ 100000) (hc : Hid (∀ (k : Nat) (s : ByteArray), S[k]? = some s → w.cell? ⟨b, off + k, none⟩ = some (.string s))) (hb : b < w.heap.size) :
    Calls Tryz.prog 72 #[.slice (some ⟨b, off, none⟩) n c] w fun e w' => e = .returned (.bool (risesB S)) ∧ Below w.heap.size w w' := by
  have HS := Lib.hid hS
  have HBB := Lib.hid hb
  have HR := Lib.hid (Eq.refl (risesB S))
  clear hS hb
  generalize hR : risesB S = R at HR
  have HRR := Lib.hid hR
  clear hR HR
  go_enter Tryz.func72, Tryz.ntmps72
  go_wp2
  go_loopw [3] (fun s3 wr => ∃ k : Nat, (k = 0 ∨ k + 1 ≤ n) ∧ s3 = .int .i64 ((k : Int) + 1) ∧ Hid (∀ i x y, i < k → S[i]? = some x → S[i + 1]? = some y → bl x y = true) ∧ Hid (Below w.heap.size w wr)) (fun s3 _ => n - (intOf s3).toNat)
  case atStart => exact ⟨0, Or.inl rfl, rfl, Lib.hid (fun i _ _ h => by omega), Lib.hid (Below.refl _ _)⟩
  case round =>
    obtain ⟨k, hk, rfl, HA, HW⟩ := hrel
    have hwk : IntKind.i64.wrap ((k : Int) + 1 + 1) = (k : Int) + 1 + 1 := by rw [IntKind.wrap_i64]; omega
    have hwk2 : IntKind.i64.wrap ((k : Int) + 1 - 1) = (k : Int) := by rw [IntKind.wrap_i64]; omega
    have hwk3 : (k : Int) + 1 - 1 = (k : Int) := by omega
    have hk1 : ((k : Int) + 1).toNat = k + 1 := by omega
    by_cases hlt : k + 1 < n
    · have hlt2 : (k : Int) + 1 < n := by omega
      have hlt3 : (k : Int) < n := by omega
      obtain ⟨s, hs⟩ : ∃ s, S[k]? = some s := ⟨_, List.getElem?_eq_getElem (by rw [HS.out]; omega)⟩
      obtain ⟨t, ht⟩ : ∃ t, S[k + 1]? = some t := ⟨_, List.getElem?_eq_getElem (by rw [HS.out]; omega)⟩
      have ac : wr.cell? ⟨b, off + k, none⟩ = some (.string s) := by rw [← hc.out k s hs]; exact HW.out.cell (p := ⟨b, off + k, none⟩) HBB.out
      have ad : wr.cell? ⟨b, off + (k + 1), none⟩ = some (.string t) := by rw [← hc.out (k + 1) t ht]; exact HW.out.cell (p := ⟨b, off + (k + 1), none⟩) HBB.out
      have HSS := Lib.hid hs
      have HTT := Lib.hid ht
      clear hs ht
      cases hbl : bl s t with
      | true =>
        have HBL := Lib.hid hbl
        have hb2 : Op.bytesLess s.toList t.toList = true := hbl
        clear hbl
        go_wp2
        go_quiet (fail)
        go_wp2
        go_roundw
        case rel => exact ⟨k + 1, Or.inr (by omega), by go_num, Lib.hid (fun i x y hi hx hy => by
          by_cases he : i = k
          · subst he
            have e1 := hx.symm.trans HSS.out
            have e2 := hy.symm.trans HTT.out
            cases e1; cases e2
            exact HBL.out
          · exact HA.out i x y (by omega) hx hy), Lib.hid (below_drewN HW.out)⟩
        case measure => simp [intOf]; omega
      | false =>
        have HBL := Lib.hid hbl
        have hb2 : Op.bytesLess s.toList t.toList = false := hbl
        clear hbl
        go_wp2
        go_quiet (fail)
        go_wp2
        go_ret
        exact ⟨by rw [← HRR.out, rises_not S k s t HSS.out HTT.out HBL.out]; rfl, below_drewN HW.out⟩
    · have hlt2 : ¬ (k : Int) + 1 < n := by omega
      go_wp2
      go_ret
      exact ⟨by rw [← HRR.out, rises_step S (fun i x y hx hy => HA.out i x y (by
        have := (List.getElem?_eq_some_iff.1 hy).1
        rw [HS.out] at this
        omega) hx hy)]; rfl, HW.out⟩
theorem rising_zero (w : World) (a : Option Addr) (c : Nat) : Calls Tryz.prog 72 #[.slice a 0 c] w fun e w' => e = .returned (.bool true) ∧ Below w.heap.size w w' := by
  go_enter Tryz.func72, Tryz.ntmps72
  go_wp2
  go_loop [3] (fun s3 => s3 = .int .i64 1) (fun _ => 0)
  case atStart => exact rfl
  case round =>
    obtain rfl := hrel
    go_wp2
    go_ret
    exact ⟨rfl, Below.refl _ _⟩
theorem rising_any (w : World) (a : Option Addr) (n c : Nat) (S : List ByteArray) (hN : NamesAt w a n S) (hn : n ≤ 100000) : Calls Tryz.prog 72 #[.slice a n c] w fun e w' => e = .returned (.bool (risesB S)) ∧ Below w.heap.size w w' := by
  obtain ⟨hn', hN⟩ := hN
  rcases hN with rfl | ⟨gn, on, rfl, hg, hc⟩
  · rw [List.eq_nil_of_length_eq_zero hn'.symm]
    exact rising_zero w a c
  · exact rising_some w gn on n c S hn'.symm hn (Lib.hid hc) hg
end Go.Proofs.YtoakfninndkgaaaGreatDoor
