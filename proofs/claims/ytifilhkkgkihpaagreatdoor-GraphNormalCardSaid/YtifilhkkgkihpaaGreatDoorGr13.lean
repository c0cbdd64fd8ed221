/- Plain: the bytes of a row of heads tell the heads. Walks: a row of bytes that grows; strconv.AppendInt of little numbers. Walks: strconv.AppendInt of little numbers. -/
import Derived.Test.YtifilhkkgkihpaaGreatDoorGr12
import Derived.Test.YtifilhkkgkihpaaGreatDoorGr10
import Derived.Lib.AppendStr
import Derived.Laws.BytesArg
set_option linter.unusedSimpArgs false
set_option linter.unusedVariables false
set_option linter.unusedSimpArgs false
set_option linter.unusedVariables false
namespace Go.Proofs.YtifilhkkgkihpaaGreatDoor
open Go.RowKit
/-- a kid's bytes. -/
def kidL (NS : List ByteArray) (i : Nat) (k : Int) : List UInt8 := (match NS[i]? with | some s => s.data.toList ++ [58] | none => []) ++ (decL k.toNat ++ [44])
def kidsL (NS : List ByteArray) : Nat → List Int → List UInt8
  | _, [] => []
  | i, k :: l => kidL NS i k ++ kidsL NS (i + 1) l
def rowL (x : Hd) : List UInt8 := (signHead x.kd x.op).data.toList ++ (kidsL x.NS 0 x.KS ++ [59])
/-- the bytes of a row of heads. -/
def bytesL (OS : List Hd) : List UInt8 := OS.flatMap rowL
theorem dec_no_all : ((List.range 100).all fun i => (decL i).all fun c => c != 44 && c != 59 && c != 58) = true := by decide +kernel
theorem dec_no {i : Nat} (hi : i < 100) : ∀ c ∈ decL i, c ≠ 44 ∧ c ≠ 59 ∧ c ≠ 58 := by
  have := List.all_eq_true.1 dec_no_all i (List.mem_range.2 hi)
  intro c hc
  have h := List.all_eq_true.1 this c hc
  simp only [Bool.and_eq_true, bne_iff_ne] at h
  exact ⟨h.1.1, h.1.2, h.2⟩
theorem tag_no (l : List UInt8) (h : tagL l = true) : ∀ c ∈ l, c ≠ 58 ∧ c ≠ 59 ∧ c ≠ 44 := by
  have hin : ∀ c, inB c = true → c ≠ 58 ∧ c ≠ 59 ∧ c ≠ 44 := fun c hc => by
    refine ⟨?_, ?_, ?_⟩ <;> intro e <;> subst e <;> revert hc <;> decide
  cases l with
  | nil => simp [tagL] at h
  | cons c l =>
    simp only [tagL, Bool.and_eq_true, List.all_eq_true] at h
    intro x hx
    rcases List.mem_cons.1 hx with rfl | hx
    · exact hin x (by simp [inB, h.1])
    · exact hin x (h.2 x hx)
theorem kids_inj (A B : List ByteArray) (hA : ∀ s ∈ A, ∀ c ∈ s.data.toList, c ≠ 58) (hB : ∀ s ∈ B, ∀ c ∈ s.data.toList, c ≠ 58) : ∀ (K L : List Int) (i : Nat), (∀ k ∈ K, 0 ≤ k ∧ k < 100) → (∀ k ∈ L, 0 ≤ k ∧ k < 100) → ((A = [] ∧ B = []) ∨ (A.length = i + K.length ∧ B.length = i + L.length)) → kidsL A i K = kidsL B i L → K = L ∧ A.drop i = B.drop i
  | [], [], i, _, _, h, _ => ⟨rfl, by
    rcases h with ⟨rfl, rfl⟩ | ⟨h1, h2⟩
    · rfl
    · rw [List.drop_of_length_le (by simp at h1; omega), List.drop_of_length_le (by simp at h2; omega)]⟩
  | [], k :: L, i, _, _, _, h => by simp [kidsL, kidL] at h
  | k :: K, [], i, _, _, _, h => by simp [kidsL, kidL] at h
  | k :: K, l :: L, i, hK, hL, h, e => by
    have hk := hK k (by simp)
    have hl := hL l (by simp)
    have hK' : ∀ k ∈ K, 0 ≤ k ∧ k < 100 := fun x hx => hK x (by simp [hx])
    have hL' : ∀ k ∈ L, 0 ≤ k ∧ k < 100 := fun x hx => hL x (by simp [hx])
    unfold kidsL kidL at e
    rcases h with ⟨h1, h2⟩ | ⟨h1, h2⟩
    · rw [h1, h2] at e
      simp only [List.getElem?_nil, List.nil_append, List.append_assoc, List.cons_append] at e
      obtain ⟨d1, d2⟩ := split32 44 _ _ _ _ (fun c hc => (dec_no (by omega) c hc).1) (fun c hc => (dec_no (by omega) c hc).1) (Or.inr rfl) (Or.inr rfl) e
      simp only [List.cons.injEq, true_and] at d2
      rw [← h1] at d2
      rw [show kidsL A (i + 1) L = kidsL B (i + 1) L from by rw [h1, h2]] at d2
      obtain ⟨r1, r2⟩ := kids_inj A B hA hB K L (i + 1) hK' hL' (.inl ⟨h1, h2⟩) d2
      have := dec_inj (by omega) (by omega) d1
      exact ⟨by rw [r1, show k = l by omega], by rw [h1, h2]⟩
    · simp only [List.length_cons] at h1 h2
      have ha : i < A.length := by omega
      have hb : i < B.length := by omega
      rw [List.getElem?_eq_getElem ha, List.getElem?_eq_getElem hb] at e
      simp only [List.append_assoc, List.cons_append, List.nil_append] at e
      obtain ⟨d1, d2⟩ := split32 58 _ _ _ _ (hA _ (List.getElem_mem ha)) (hB _ (List.getElem_mem hb)) (Or.inr rfl) (Or.inr rfl) e
      simp only [List.cons.injEq, true_and] at d2
      obtain ⟨d3, d4⟩ := split32 44 _ _ _ _ (fun c hc => (dec_no (by omega) c hc).1) (fun c hc => (dec_no (by omega) c hc).1) (Or.inr rfl) (Or.inr rfl) d2
      simp only [List.cons.injEq, true_and] at d4
      obtain ⟨r1, r2⟩ := kids_inj A B hA hB K L (i + 1) hK' hL' (.inr ⟨by omega, by omega⟩) d4
      have := dec_inj (by omega) (by omega) d3
      refine ⟨by rw [r1, show k = l by omega], ?_⟩
      rw [List.drop_eq_getElem_cons ha, List.drop_eq_getElem_cons hb, r2, ByteArray.ext (Array.toList_inj.1 d1)]
theorem kids_no (A : List ByteArray) (hA : ∀ s ∈ A, ∀ c ∈ s.data.toList, c ≠ 59) : ∀ (K : List Int) (i : Nat), (∀ k ∈ K, 0 ≤ k ∧ k < 100) → ∀ c ∈ kidsL A i K, c ≠ 59
  | [], i, _, c, hc => by simp [kidsL] at hc
  | k :: K, i, hK, c, hc => by
    have hk := hK k (by simp)
    unfold kidsL kidL at hc
    simp only [List.mem_append] at hc
    rcases hc with (hc | hc | hc) | hc
    · cases hs : A[i]? with
      | none => rw [hs] at hc; cases hc
      | some s =>
        rw [hs] at hc
        rcases List.mem_append.1 hc with hc | hc
        · exact hA s (List.mem_of_getElem? hs) c hc
        · simp at hc; subst hc; decide
    · exact (dec_no (by omega) c hc).2.1
    · simp at hc; subst hc; decide
    · exact kids_no A hA K (i + 1) (fun x hx => hK x (by simp [hx])) c hc
theorem signHead_list (kd : Int) (op : Bool) : (signHead kd op).data.toList = [if op then 93 else kindL.getD kd.toNat 0] := by
  unfold signHead
  cases op <;> rfl
theorem shead_inj {h k : Hd} {n m : Int} (e : headB h.kd h.op n h.NS h.KS = true) (f : headB k.kd k.op m k.NS k.KS = true) (hcd : (if h.op then (93 : UInt8) else kindL.getD h.kd.toNat 0) = (if k.op then 93 else kindL.getD k.kd.toNat 0)) : k.kd = h.kd ∧ k.op = h.op := by
  have hk := head_kind e
  have hk2 := head_kind f
  obtain ⟨a, ha⟩ : ∃ a : Nat, h.kd = (a : Int) := ⟨h.kd.toNat, by omega⟩
  obtain ⟨b, hb⟩ : ∃ b : Nat, k.kd = (b : Int) := ⟨k.kd.toNat, by omega⟩
  have hop1 := hk.2.2.2.2.2.2
  have hop2 := hk2.2.2.2.2.2.2
  rw [ha] at hcd hop1 hk
  rw [hb] at hcd hop2 hk2
  have hall : ((List.range 10).all fun a => (List.range 10).all fun b => [true, false].all fun o => [true, false].all fun p => !((!o || a == 9) && (!p || b == 9) && ((if o then (93 : UInt8) else kindL.getD a 0) == (if p then (93 : UInt8) else kindL.getD b 0))) || (a == b && o == p)) = true := by decide +kernel
  have ho : ∀ o : Bool, o ∈ [true, false] := by intro o; cases o <;> simp
  have h9 := List.all_eq_true.1 (List.all_eq_true.1 (List.all_eq_true.1 (List.all_eq_true.1 hall a (List.mem_range.2 (by omega))) b (List.mem_range.2 (by omega))) h.op (ho _)) k.op (ho _)
  have g1 : (!h.op || a == 9) = true := by
    cases ho1 : h.op
    · rfl
    · have := hop1 ho1; simp; omega
  have g2 : (!k.op || b == 9) = true := by
    cases ho1 : k.op
    · rfl
    · have := hop2 ho1; simp; omega
  rw [g1, g2] at h9
  simp only [Int.toNat_natCast] at hcd
  rw [hcd] at h9
  simp at h9
  exact ⟨by rw [ha, hb, h9.1], h9.2.symm⟩
/-- a head that may be in some graph of at most a hundred. -/
def OneOk (x : Hd) : Prop := ∃ n : Int, n ≤ 100 ∧ headB x.kd x.op n x.NS x.KS = true
theorem OneOk.kids {x : Hd} (h : OneOk x) : ∀ k ∈ x.KS, 0 ≤ k ∧ k < 100 := fun k hk => by
  obtain ⟨n, hn, h⟩ := h
  have := (head_kind h).2.2.1 k hk
  omega
theorem OneOk.all {HS : List Hd} (h : OkHeads HS) (hl : HS.length ≤ 100) : ∀ x ∈ HS, OneOk x := fun x hx => ⟨HS.length, by omega, h x hx⟩
theorem OneOk.names {x : Hd} (h : OneOk x) : x.NS = [] ∨ x.NS.length = x.KS.length := by
  obtain ⟨n, hn, h⟩ := h
  obtain ⟨h1, h2, h3, h4, h5, h6, h7⟩ := head_kind h
  rcases (by omega : (x.kd = 8 ∨ x.kd = 9) ∨ x.kd = 7 ∨ x.kd ≤ 6) with r | r | r
  · exact .inr (h4 r)
  · exact .inl (List.eq_nil_of_length_eq_zero (h5 r).1)
  · exact .inl (List.eq_nil_of_length_eq_zero (h6 r).1)
theorem row_inj {x y : Hd} {r r' : List UInt8} (hx : OneOk x) (hy : OneOk y) (h : rowL x ++ r = rowL y ++ r') : (y.kd = x.kd ∧ y.op = x.op ∧ y.NS = x.NS ∧ y.KS = x.KS) ∧ r = r' := by
  have kx := hx.kids
  have ky := hy.kids
  have nx := hx.names
  have ny := hy.names
  obtain ⟨n, hn, ex⟩ := hx
  obtain ⟨m, hm, ey⟩ := hy
  unfold rowL at h
  rw [signHead_list, signHead_list] at h
  simp only [List.cons_append, List.nil_append, List.append_assoc, List.cons.injEq] at h
  obtain ⟨q1, q2⟩ := shead_inj ex ey h.1
  have tx : ∀ s ∈ x.NS, ∀ c ∈ s.data.toList, c ≠ 58 ∧ c ≠ 59 ∧ c ≠ 44 := fun s hs => tag_no _ (head_names ex s hs)
  have ty : ∀ s ∈ y.NS, ∀ c ∈ s.data.toList, c ≠ 58 ∧ c ≠ 59 ∧ c ≠ 44 := fun s hs => tag_no _ (head_names ey s hs)
  obtain ⟨d1, d2⟩ := split32 59 _ _ _ _ (kids_no x.NS (fun s hs c hc => (tx s hs c hc).2.1) x.KS 0 kx) (kids_no y.NS (fun s hs c hc => (ty s hs c hc).2.1) y.KS 0 ky) (Or.inr rfl) (Or.inr rfl) h.2
  simp only [List.cons.injEq, true_and] at d2
  have hcase : (x.NS = [] ∧ y.NS = []) ∨ (x.NS.length = 0 + x.KS.length ∧ y.NS.length = 0 + y.KS.length) := by
    obtain ⟨h1, h2, h3, h4, h5, h6, h7⟩ := head_kind ex
    obtain ⟨h1', h2', h3', h4', h5', h6', h7'⟩ := head_kind ey
    rcases (by omega : (x.kd = 8 ∨ x.kd = 9) ∨ x.kd = 7 ∨ x.kd ≤ 6) with r | r | r
    · exact .inr ⟨by rw [h4 r]; omega, by rw [h4' (by omega)]; omega⟩
    · exact .inl ⟨List.eq_nil_of_length_eq_zero (h5 r).1, List.eq_nil_of_length_eq_zero (h5' (by omega)).1⟩
    · exact .inl ⟨List.eq_nil_of_length_eq_zero (h6 r).1, List.eq_nil_of_length_eq_zero (h6' (by omega)).1⟩
  obtain ⟨e1, e2⟩ := kids_inj x.NS y.NS (fun s hs c hc => (tx s hs c hc).1) (fun s hs c hc => (ty s hs c hc).1) x.KS y.KS 0 kx ky hcase d1
  exact ⟨⟨q1, q2, by simpa using e2.symm, e1.symm⟩, d2⟩
theorem Alk.cons {x y : Hd} {A B : List Hd} (h : y.kd = x.kd ∧ y.op = x.op ∧ y.NS = x.NS ∧ y.KS = x.KS) (k : Alk A B) : Alk (x :: A) (y :: B) where
  len := by simp [k.len]
  eq i a b ha hb := by
    cases i with
    | zero => simp at ha hb; subst ha; subst hb; exact h
    | succ i => exact k.eq i a b (by simpa using ha) (by simpa using hb)
theorem Alk.tail {x y : Hd} {A B : List Hd} (h : Alk (x :: A) (y :: B)) : (y.kd = x.kd ∧ y.op = x.op ∧ y.NS = x.NS ∧ y.KS = x.KS) ∧ Alk A B :=
  ⟨h.eq 0 x y rfl rfl, by simpa using h.len, fun i a b ha hb => h.eq (i + 1) a b (by simpa using ha) (by simpa using hb)⟩
theorem bytes_inj : ∀ (A B : List Hd), (∀ x ∈ A, OneOk x) → (∀ x ∈ B, OneOk x) → bytesL A = bytesL B → Alk A B
  | [], [], _, _, _ => ⟨rfl, fun i x y h => by simp at h⟩
  | [], y :: B, _, _, h => by
    have := congrArg List.length h
    simp [bytesL, rowL] at this
  | x :: A, [], _, _, h => by
    have := congrArg List.length h
    simp [bytesL, rowL] at this
  | x :: A, y :: B, hA, hB, h => by
    unfold bytesL at h
    rw [List.flatMap_cons, List.flatMap_cons] at h
    obtain ⟨h1, h2⟩ := row_inj (hA x (by simp)) (hB y (by simp)) h
    exact Alk.cons h1 (bytes_inj A B (fun z hz => hA z (by simp [hz])) (fun z hz => hB z (by simp [hz])) h2)
theorem Alk.bytes : ∀ {A B : List Hd}, Alk A B → bytesL A = bytesL B
  | [], [], _ => rfl
  | [], y :: B, h => by have := h.len; simp at this
  | x :: A, [], h => by have := h.len; simp at this
  | x :: A, y :: B, h => by
    obtain ⟨⟨e1, e2, e3, e4⟩, h2⟩ := h.tail
    have := Alk.bytes h2
    unfold bytesL at this ⊢
    rw [List.flatMap_cons, List.flatMap_cons, this]
    unfold rowL
    rw [e1, e2, e3, e4]
theorem Alk.refl (A : List Hd) : Alk A A := ⟨rfl, fun i x y hx hy => by rw [hx] at hy; cases hy; exact ⟨rfl, rfl, rfl, rfl⟩⟩
theorem Alk.symm {A B : List Hd} (h : Alk A B) : Alk B A := ⟨h.len.symm, fun i x y hx hy => by
  obtain ⟨e1, e2, e3, e4⟩ := h.eq i y x hy hx
  exact ⟨e1.symm, e2.symm, e3.symm, e4.symm⟩⟩
theorem Alk.trans {A B C : List Hd} (h : Alk A B) (k : Alk B C) : Alk A C := ⟨k.len.trans h.len, fun i x z hx hz => by
  obtain ⟨y, hy, f1, f2, f3, f4⟩ := k.at hz
  obtain ⟨e1, e2, e3, e4⟩ := h.eq i x y hx hy
  exact ⟨f1.trans e1, f2.trans e2, f3.trans e3, f4.trans e4⟩⟩
end Go.Proofs.YtifilhkkgkihpaaGreatDoor
set_option linter.unusedSimpArgs false
set_option linter.unusedVariables false
namespace Go.Proofs.YtifilhkkgkihpaaGreatDoor
open Go.RowKit
theorem Tryz.info5B : (Tryz.prog.info? 5).map (fun i => (i.zero, i.size, i.bytes)) = some (some (.int .u8 0), 1, 1) := by kernel_rfl
def bcells (l : List UInt8) : List Value := l.map fun b => Value.int .u8 b.toNat
/-- a slice of bytes of one's own, from block base on. -/
def BU (w : World) (base : Nat) (v : Value) (l : List UInt8) : Prop := w.ownsRow base 5 1 v l.length (bcells l)
theorem BU.nil (w : World) (base : Nat) : BU w base (.slice none 0 0) [] := World.ownsRow_nil _ _ _ _
theorem BU.on {w w' : World} {base : Nat} {v : Value} {l : List UInt8} (h : BU w base v l) (hb : Below w.heap.size w w') : BU w' base v l := ownsRow_mono h (fun g hg => hb.block g (h.lt g hg).2)
theorem BU.alloc {w : World} {base : Nat} {v : Value} {l : List UInt8} (h : BU w base v l) (o : Obj) : BU (w.alloc o) base v l := h.on ((Below.refl _ _).alloc (Nat.le_refl _) o)
theorem BU.drew {w : World} {base : Nat} {v : Value} {l : List UInt8} (h : BU w base v l) : BU w.drew base v l := h.on (Below.refl _ _).drew
theorem strCells_b (s : ByteArray) : Lib.strCells s = bcells s.data.toList := rfl
theorem bu_str (w : World) (base : Nat) (ty : TypeId) (v : Value) (l : List UInt8) (h : BU w base v l) (s : ByteArray) (hlen : l.length + s.size ≤ 100000000) (hb : base ≤ w.heap.size) :
    ∃ v' w', (Builtin.append_ #[56, 9] ty #[v, .string s]).run Tryz.prog w = .ok v' w' ∧ BU w' base v' (l ++ s.data.toList) ∧ w.grownBy w' v.ownBlock := by
  obtain ⟨i0, hi, hz0, hz1, hz2⟩ := info_parts Tryz.info5B
  obtain ⟨v', w', r1, r2, r3, r4⟩ := Lib.run_append_own_string (P := Tryz.prog) w base 56 9 ty 5 i0 Tryz.underlying56 Tryz.underlying9 hi hz0 hz1 hz2 v l.length _ h s (by unfold maxLen; omega) (by omega) hb
  refine ⟨v', w', r1, ?_, r3⟩
  unfold BU bcells
  rw [List.length_append, List.map_append]
  have e : s.data.toList.length = s.size := by rw [Array.length_toList]; rfl
  rw [e]
  exact r2
theorem bu_byte (w : World) (base : Nat) (ty : TypeId) (v : Value) (l : List UInt8) (h : BU w base v l) (B c : Nat) (x : UInt8) (hB : w.heap[B]? = some (.cells #[.int .u8 x.toNat] 5 (0, 0))) (hlen : l.length ≤ 100000000) (hb : base ≤ w.heap.size) :
    ∃ v' w', (Builtin.append_ #[56, 56] ty #[v, .slice (some ⟨B, 0, none⟩) 1 c]).run Tryz.prog w = .ok v' w' ∧ BU w' base v' (l ++ [x]) ∧ w.grownBy w' v.ownBlock := by
  obtain ⟨i0, hi, hz0, hz1, hz2⟩ := info_parts Tryz.info5B
  have hnews : ∀ (j : Nat) (u : Value), [Value.int .u8 x.toNat][j]? = some u → w.cell? ((⟨B, 0, none⟩ : Addr).add j) = some u := by
    intro j u hj
    have hadd : (⟨B, 0, none⟩ : Addr).add j = ⟨B, j, none⟩ := by unfold Addr.add; split <;> simp_all
    rw [hadd, cell_of_row w B j _ 5 _ hB]
    simpa using hj
  obtain ⟨v', w', r1, r2, r3, r4⟩ := run_append_own (P := Tryz.prog) w base 56 ty 5 i0 (.int .u8 0) 1 1 Tryz.underlying56 hi hz0 hz1 hz2 rfl (by decide) v l.length _ h ⟨B, 0, none⟩ 1 c [.int .u8 x.toNat] rfl hnews (by intro u hu; simp at hu; subst hu; rfl) (by unfold maxLen; omega) (by omega) hb
  refine ⟨v', w', r1, ?_, r3⟩
  unfold BU bcells
  rw [List.length_append, List.map_append]
  exact r2
theorem wpList_bu_str {w : World} {ops : Array Oper} {rest : List Oper} {o : Oper} {a : Act} {Q : Exit → Act → World → Prop} (hgd : o.guard = none) (sl x : Operand)
    (ho : o.op = .call { callee := .builtin .append, args := #[sl, x], argTypes := #[56, 9] }) (base : Nat) (v : Value) (l : List UInt8) (hs : a.eval sl = v) (h : BU w base v l) (s : ByteArray) (hx : a.eval x = .string s) (hlen : l.length + s.size ≤ 100000000) (hb : base ≤ w.heap.size)
    (hK : ∀ v' w', BU w' base v' (l ++ s.data.toList) → w.grownBy w' v.ownBlock → wpList Tryz.prog ops Q rest (a.put o.dst v') w') : wpList Tryz.prog ops Q (o :: rest) a w := by
  refine wpList_plain hgd fun K hK' => ?_
  obtain ⟨v', w', hr, h2, h3⟩ := bu_str w base o.type v l h s hlen hb
  unfold Oper.wp execOp
  simp only [ho, resolve, invoke, builtin, Sem.run_bind, Sem.run_pure, Result.andThen_ok, List.map_toArray, List.map_cons, List.map_nil, hs, hx, hr]
  exact hK' _ _ (hK v' w' h2 h3)
theorem wpList_bu_byte {w : World} {ops : Array Oper} {rest : List Oper} {o : Oper} {a : Act} {Q : Exit → Act → World → Prop} (hgd : o.guard = none) (sl x : Operand)
    (ho : o.op = .call { callee := .builtin .append, args := #[sl, x], argTypes := #[56, 56] }) (base : Nat) (v : Value) (l : List UInt8) (hs : a.eval sl = v) (h : BU w base v l) (B c : Nat) (y : UInt8) (hx : a.eval x = .slice (some ⟨B, 0, none⟩) 1 c) (hB : w.heap[B]? = some (.cells #[.int .u8 y.toNat] 5 (0, 0))) (hlen : l.length ≤ 100000000) (hb : base ≤ w.heap.size)
    (hK : ∀ v' w', BU w' base v' (l ++ [y]) → w.grownBy w' v.ownBlock → wpList Tryz.prog ops Q rest (a.put o.dst v') w') : wpList Tryz.prog ops Q (o :: rest) a w := by
  refine wpList_plain hgd fun K hK' => ?_
  obtain ⟨v', w', hr, h2, h3⟩ := bu_byte w base o.type v l h B c y hB hlen hb
  unfold Oper.wp execOp
  simp only [ho, resolve, invoke, builtin, Sem.run_bind, Sem.run_pure, Result.andThen_ok, List.map_toArray, List.map_cons, List.map_nil, hs, hx, hr]
  exact hK' _ _ (hK v' w' h2 h3)
theorem step_bu_str {w : World} {ops : Array Oper} {o : Oper} {a : Act} {K : Act → World → Prop} {Q : Exit → Act → World → Prop} {E : Prop} (hgd : o.guard = none) (sl x : Operand)
    (ho : o.op = .call { callee := .builtin .append, args := #[sl, x], argTypes := #[56, 9] }) (base : Nat) (v : Value) (l : List UInt8) (hs : a.eval sl = v) (h : BU w base v l) (s : ByteArray) (hx : a.eval x = .string s) (hlen : l.length + s.size ≤ 100000000) (hb : base ≤ w.heap.size)
    (hK : ∀ v' w', BU w' base v' (l ++ s.data.toList) → w.grownBy w' v.ownBlock → K (a.put o.dst v') w') :
    if Region.wanted o (yielded ops a.tmps) = true then Oper.wp Tryz.prog o a w K Q else E := by
  have hw : Region.wanted o (yielded ops a.tmps) = true := by simp [Region.wanted, hgd]
  rw [if_pos hw]
  obtain ⟨v', w', hr, h2, h3⟩ := bu_str w base o.type v l h s hlen hb
  unfold Oper.wp execOp
  simp only [ho, resolve, invoke, builtin, Sem.run_bind, Sem.run_pure, Result.andThen_ok, List.map_toArray, List.map_cons, List.map_nil, hs, hx, hr]
  exact hK v' w' h2 h3
theorem step_bu_byte {w : World} {ops : Array Oper} {o : Oper} {a : Act} {K : Act → World → Prop} {Q : Exit → Act → World → Prop} {E : Prop} (hgd : o.guard = none) (sl x : Operand)
    (ho : o.op = .call { callee := .builtin .append, args := #[sl, x], argTypes := #[56, 56] }) (base : Nat) (v : Value) (l : List UInt8) (hs : a.eval sl = v) (h : BU w base v l) (B c : Nat) (y : UInt8) (hx : a.eval x = .slice (some ⟨B, 0, none⟩) 1 c) (hB : w.heap[B]? = some (.cells #[.int .u8 y.toNat] 5 (0, 0))) (hlen : l.length ≤ 100000000) (hb : base ≤ w.heap.size)
    (hK : ∀ v' w', BU w' base v' (l ++ [y]) → w.grownBy w' v.ownBlock → K (a.put o.dst v') w') :
    if Region.wanted o (yielded ops a.tmps) = true then Oper.wp Tryz.prog o a w K Q else E := by
  have hw : Region.wanted o (yielded ops a.tmps) = true := by simp [Region.wanted, hgd]
  rw [if_pos hw]
  obtain ⟨v', w', hr, h2, h3⟩ := bu_byte w base o.type v l h B c y hB hlen hb
  unfold Oper.wp execOp
  simp only [ho, resolve, invoke, builtin, Sem.run_bind, Sem.run_pure, Result.andThen_ok, List.map_toArray, List.map_cons, List.map_nil, hs, hx, hr]
  exact hK v' w' h2 h3
end Go.Proofs.YtifilhkkgkihpaaGreatDoor
set_option linter.unusedSimpArgs false
set_option linter.unusedVariables false
namespace Go.Proofs.YtifilhkkgkihpaaGreatDoor
open Go.RowKit
def AppPost (w : World) (base : Nat) (v : Value) (l : List UInt8) (e : Ending) (w' : World) : Prop := ∃ v', e = .returned v' ∧ BU w' base v' l ∧ w.grownBy w' v.ownBlock
set_option maxRecDepth 20000 in
set_option maxHeartbeats 2000000 in
theorem appU_any (w : World) (base : Nat) (v : Value) (l : List UInt8) (k : Nat) (hk : k < 100) (h : BU w base v l) (hlen : l.length ≤ 1000000) (hb : base ≤ w.heap.size) : Calls Tryz.prog 116 #[v, .int .u64 (k : Int), .int .i64 10] w (AppPost w base v (l ++ decL k)) := by
  have H := Lib.hid h
  have h1 : (k : Int) < 100 := by omega
  have h2 : (itoaB k).size ≤ 2 := by
    have e : (itoaB k).data.toList.length = (itoaB k).size := by rw [Array.length_toList]; rfl
    rw [← e, itoa_dec k hk]
    unfold decL; split <;> simp
  have HLEN : Hid (l.length + (itoaB k).size ≤ 100000000) := Lib.hid (by omega)
  have HDEC := Lib.hid (itoa_dec k hk)
  clear h h2
  go_enter Tryz.func116, Tryz.ntmps116
  go_wp2_with (first
    | (go_at_call 147; (with_reducible refine (small_any k hk _).mono ?_); rintro e w' ⟨rfl, rfl⟩)
    | (at_builtin; refine wpList_bu_str rfl _ _ rfl base v l rfl H.out (itoaB k) rfl HLEN.out hb ?_; intro v' w' hown' hgr'))
  go_ret
  exact ⟨v', rfl, by rw [← HDEC.out]; exact hown', hgr'⟩
theorem appI93 (w : World) (base : Nat) (v : Value) (l : List UInt8) (k : Nat) (hk : k < 100) (h : BU w base v l) (hlen : l.length ≤ 1000000) (hb : base ≤ w.heap.size) : Calls Tryz.prog 93 #[v, .int .i64 (k : Int), .int .i64 10] w (AppPost w base v (l ++ decL k)) := by
  have H := Lib.hid (appU_any w base v l k hk h hlen hb)
  have h1 : ¬ (k : Int) < 0 := by omega
  clear h
  go_enter Tryz.func93, Tryz.ntmps93
  go_wp2_with (go_at_call 116; ((with_reducible refine H.out.mono ?_); rintro e w' ⟨v', rfl, g1, g2⟩))
  go_ret
  exact ⟨v', rfl, g1, g2⟩
theorem appI_any (w : World) (base : Nat) (v : Value) (l : List UInt8) (k : Nat) (hk : k < 100) (h : BU w base v l) (hlen : l.length ≤ 1000000) (hb : base ≤ w.heap.size) : Calls Tryz.prog 71 #[v, .int .i64 (k : Int), .int .i64 10] w (AppPost w base v (l ++ decL k)) := by
  have H := Lib.hid (appI93 w base v l k hk h hlen hb)
  clear h
  go_enter Tryz.func71, Tryz.ntmps71
  go_wp2_with (go_at_call 93; ((with_reducible refine H.out.mono ?_); rintro e w' ⟨v', rfl, g1, g2⟩))
  go_ret
  exact ⟨v', rfl, g1, g2⟩
end Go.Proofs.YtifilhkkgkihpaaGreatDoor
