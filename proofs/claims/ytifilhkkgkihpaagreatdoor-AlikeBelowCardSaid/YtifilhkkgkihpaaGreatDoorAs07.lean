/- Walks: strconv.Itoa of little numbers. Walks: graph.sign. Plain: the classes of heads: numbers of keys, and when they stand. Plain: numbers of keys; a partition that stands. -/
import Derived.Test.YtifilhkkgkihpaaGreatDoorAs04
import Derived.Test.YtifilhkkgkihpaaGreatDoorAs05
set_option linter.unusedSimpArgs false
set_option linter.unusedVariables false
set_option linter.unusedSimpArgs false
set_option linter.unusedVariables false
namespace Go.Proofs.YtifilhkkgkihpaaGreatDoor
open Go.RowKit
def loB (i : Nat) : ByteArray := (⟨#[48, 49, 50, 51, 52, 53, 54, 55, 56, 57, 97, 98, 99, 100, 101, 102, 103, 104, 105, 106, 107, 108, 109, 110, 111, 112, 113, 114, 115, 116, 117, 118, 119, 120, 121, 122]⟩ : ByteArray).extract i (i + 1)
def hiB (i : Nat) : ByteArray := (⟨#[48, 48, 48, 49, 48, 50, 48, 51, 48, 52, 48, 53, 48, 54, 48, 55, 48, 56, 48, 57, 49, 48, 49, 49, 49, 50, 49, 51, 49, 52, 49, 53, 49, 54, 49, 55, 49, 56, 49, 57, 50, 48, 50, 49, 50, 50, 50, 51, 50, 52, 50, 53, 50, 54, 50, 55, 50, 56, 50, 57, 51, 48, 51, 49, 51, 50, 51, 51, 51, 52, 51, 53, 51, 54, 51, 55, 51, 56, 51, 57, 52, 48, 52, 49, 52, 50, 52, 51, 52, 52, 52, 53, 52, 54, 52, 55, 52, 56, 52, 57, 53, 48, 53, 49, 53, 50, 53, 51, 53, 52, 53, 53, 53, 54, 53, 55, 53, 56, 53, 57, 54, 48, 54, 49, 54, 50, 54, 51, 54, 52, 54, 53, 54, 54, 54, 55, 54, 56, 54, 57, 55, 48, 55, 49, 55, 50, 55, 51, 55, 52, 55, 53, 55, 54, 55, 55, 55, 56, 55, 57, 56, 48, 56, 49, 56, 50, 56, 51, 56, 52, 56, 53, 56, 54, 56, 55, 56, 56, 56, 57, 57, 48, 57, 49, 57, 50, 57, 51, 57, 52, 57, 53, 57, 54, 57, 55, 57, 56, 57, 57]⟩ : ByteArray).extract (i * 2) (i * 2 + 2)
/-- a little number's text. -/
def itoaB (i : Nat) : ByteArray := if i < 10 then loB i else hiB i
def decL (i : Nat) : List UInt8 := if i < 10 then [UInt8.ofNat (48 + i)] else [UInt8.ofNat (48 + i / 10), UInt8.ofNat (48 + i % 10)]
theorem itoa_all : ((List.range 100).all fun i => (itoaB i).data.toList == decL i) = true := by decide +kernel
theorem itoa_dec (i : Nat) (hi : i < 100) : (itoaB i).data.toList = decL i := by
  have := List.all_eq_true.1 itoa_all i (List.mem_range.2 hi)
  simpa using this
theorem dec_inj_all : ((List.range 100).all fun i => (List.range 100).all fun j => !(decL i == decL j) || i == j) = true := by decide +kernel
theorem dec_inj {i j : Nat} (hi : i < 100) (hj : j < 100) (h : decL i = decL j) : i = j := by
  have := List.all_eq_true.1 (List.all_eq_true.1 dec_inj_all i (List.mem_range.2 hi)) j (List.mem_range.2 hj)
  simpa [h] using this
theorem dec_plain_all : ((List.range 100).all fun i => (decL i).all fun c => c != 32) = true := by decide +kernel
theorem dec_plain {i : Nat} (hi : i < 100) : ∀ c ∈ decL i, c ≠ 32 := by
  have := List.all_eq_true.1 dec_plain_all i (List.mem_range.2 hi)
  intro c hc
  simpa using List.all_eq_true.1 this c hc
set_option maxRecDepth 20000 in
theorem small_lo (i : Nat) (hi : i < 10) (w : World) : Calls Tryz.prog 147 #[.int .i64 (i : Int)] w fun e w' => e = .returned (.string (loB i)) ∧ w = w' := by
  have h1 : (i : Int) < 10 := by omega
  go_enter Tryz.func147, Tryz.ntmps147
  go_wp2
  go_ret
  exact ⟨rfl, rfl⟩
set_option maxRecDepth 20000 in
theorem small_hi (i : Nat) (h10 : 10 ≤ i) (hi : i < 100) (w : World) : Calls Tryz.prog 147 #[.int .i64 (i : Int)] w fun e w' => e = .returned (.string (hiB i)) ∧ w = w' := by
  have h1 : ¬ (i : Int) < 10 := by omega
  have h2 : (i : Int) < 100 := by omega
  go_enter Tryz.func147, Tryz.ntmps147
  go_wp2
  go_ret
  exact ⟨rfl, rfl⟩
theorem small_any (i : Nat) (hi : i < 100) (w : World) : Calls Tryz.prog 147 #[.int .i64 (i : Int)] w fun e w' => e = .returned (.string (itoaB i)) ∧ w = w' := by
  unfold itoaB
  by_cases h : i < 10
  · rw [if_pos h]; exact small_lo i h w
  · rw [if_neg h]; exact small_hi i (by omega) hi w
theorem format_any (i : Nat) (hi : i < 100) (w : World) : Calls Tryz.prog 234 #[.int .i64 (i : Int), .int .i64 10] w fun e w' => e = .returned (.string (itoaB i)) ∧ w = w' := by
  have h1 : (i : Int) < 100 := by omega
  have h0 : (0 : Int) ≤ i := by omega
  have HS := Lib.hid (small_any i hi w)
  go_enter Tryz.func234, Tryz.ntmps234
  go_wp2_with (go_at_call 147; (with_reducible refine HS.out.mono ?_); rintro e w' ⟨rfl, rfl⟩)
  go_ret
  exact ⟨rfl, rfl⟩
theorem itoa93 (i : Nat) (hi : i < 100) (w : World) : Calls Tryz.prog 176 #[.int .i64 (i : Int)] w fun e w' => e = .returned (.string (itoaB i)) ∧ w = w' := by
  have HS := Lib.hid (format_any i hi w)
  go_enter Tryz.func176, Tryz.ntmps176
  go_wp2_with (go_at_call 234; (with_reducible refine HS.out.mono ?_); rintro e w' ⟨rfl, rfl⟩)
  go_ret
  exact ⟨rfl, rfl⟩
theorem itoa_any (i : Nat) (hi : i < 100) (w : World) : Calls Tryz.prog 136 #[.int .i64 (i : Int)] w fun e w' => e = .returned (.string (itoaB i)) ∧ w = w' := by
  have HS := Lib.hid (itoa93 i hi w)
  go_enter Tryz.func136, Tryz.ntmps136
  go_wp2_with (go_at_call 176; (with_reducible refine HS.out.mono ?_); rintro e w' ⟨rfl, rfl⟩)
  go_ret
  exact ⟨rfl, rfl⟩
end Go.Proofs.YtifilhkkgkihpaaGreatDoor
set_option linter.unusedSimpArgs false
set_option linter.unusedVariables false
namespace Go.Proofs.YtifilhkkgkihpaaGreatDoor
open Go.RowKit
def kindL : List UInt8 := [105, 98, 115, 102, 100, 42, 33, 62, 123, 91]
/-- a name, and a colon behind it. -/
def nmB (s : ByteArray) : ByteArray := s ++ ⟨#[58]⟩
theorem nmB_size (s : ByteArray) : (nmB s).size = s.size + 1 := by unfold nmB; rw [ByteArray.size_append]; rfl
def signHead (kd : Int) (op : Bool) : ByteArray := if op then ⟨#[93]⟩ else ⟨#[kindL.getD kd.toNat 0]⟩
def signB (kd : Int) (op : Bool) (NS : List ByteArray) : ByteArray := NS.foldl (fun acc s => acc ++ nmB s) (signHead kd op)
theorem foldl_take (f : ByteArray → ByteArray → ByteArray) (a : ByteArray) (NS : List ByteArray) (i : Nat) (s : ByteArray) (h : NS[i]? = some s) : (NS.take (i + 1)).foldl f a = f ((NS.take i).foldl f a) s := by
  rw [List.take_add_one, h]
  simp
set_option maxRecDepth 20000 in
set_option maxHeartbeats 2000000 in
theorem sign_any (w : World) (kd : Int) (na : Option Addr) (nn nc : Nat) (NS : List ByteArray) (ka : Option Addr) (kn kc : Nat) (op : Bool) (hN : NamesAt w na nn NS) (hn : nn ≤ 100000) (hz : ∀ s ∈ NS, s.size ≤ 100000) (hk : 0 ≤ kd ∧ kd ≤ 9) :
    Calls Tryz.prog 70 #[.agg #[.int .i64 kd, .slice na nn nc, .slice ka kn kc, .bool op]] w fun e w' => e = .returned (.string (signB kd op NS)) ∧ Below w.heap.size w w' := by
  have hxb : (w.alloc (.cells #[.int .i64 kd, .slice na nn nc, .slice ka kn kc, .bool op] 33)).heap[w.heap.size]? = some (.cells #[.int .i64 kd, .slice na nn nc, .slice ka kn kc, .bool op] 33 (0, 0)) := heap_alloc_new w _
  have hba : Below w.heap.size w (w.alloc (.cells #[.int .i64 kd, .slice na nn nc, .slice ka kn kc, .bool op] 33)) := (Below.refl _ _).alloc (Nat.le_refl _) _
  have HNM := Lib.hid (hN.on hba)
  have HNL := Lib.hid hN.1
  have HZ := Lib.hid hz
  have HAS : Hid ((signHead kd op).size ≤ 1) := Lib.hid (by unfold signHead; split <;> exact Nat.le_refl 1)
  have b0 : (w.alloc (.cells #[.int .i64 kd, .slice na nn nc, .slice ka kn kc, .bool op] 33)).cell? ⟨w.heap.size, 0, none⟩ = some (.int .i64 kd) := by rw [cell_of_row _ _ 0 _ 33 _ hxb]; rfl
  have b1 : (w.alloc (.cells #[.int .i64 kd, .slice na nn nc, .slice ka kn kc, .bool op] 33)).cell? ⟨w.heap.size, 1, none⟩ = some (.slice na nn nc) := by rw [cell_of_row _ _ 1 _ 33 _ hxb]; rfl
  have b3 : (w.alloc (.cells #[.int .i64 kd, .slice na nn nc, .slice ka kn kc, .bool op] 33)).cell? ⟨w.heap.size, 3, none⟩ = some (.bool op) := by rw [cell_of_row _ _ 3 _ 33 _ hxb]; rfl
  have HB := Lib.hid hba
  have hnn : (nn : Int) ≤ 100000 := by omega
  clear hxb hba hN hz
  generalize hw1 : (w.alloc (.cells #[.int .i64 kd, .slice na nn nc, .slice ka kn kc, .bool op] 33)) = w1 at HNM HB b0 b1 b3
  obtain ⟨acc, hacc⟩ : ∃ a, signHead kd op = a := ⟨_, rfl⟩
  rw [hacc] at HAS
  have HACC : Hid (signB kd op NS = NS.foldl (fun acc s => acc ++ nmB s) acc) := Lib.hid (by unfold signB; rw [hacc])
  generalize signB kd op NS = RR at *
  rcases (by omega : kd = 0 ∨ kd = 1 ∨ kd = 2 ∨ kd = 3 ∨ kd = 4 ∨ kd = 5 ∨ kd = 6 ∨ kd = 7 ∨ kd = 8 ∨ kd = 9) with rfl | rfl | rfl | rfl | rfl | rfl | rfl | rfl | rfl | rfl
  all_goals
    cases op
    all_goals
      have HA : Hid (acc = signHead _ _) := Lib.hid hacc.symm
      clear hacc
      go_enter Tryz.func70, Tryz.ntmps70
      go_upto_region 1 with (fail)
      clear hw1
      go_wp2
      go_loop [3, 15] (fun s3 s15 => ∃ i : Nat, s15 = .int .i64 (i : Int) ∧ i ≤ nn ∧ ∃ cur : ByteArray, s3 = .string cur ∧ (cur.size : Int) ≤ i * 100001 + 1 ∧ Hid (cur = (NS.take i).foldl (fun acc s => acc ++ nmB s) acc)) (fun _ s15 => nn - (intOf s15).toNat)
      case atStart => exact ⟨0, rfl, Nat.zero_le _, acc, (by rw [HA.out]; kernel_rfl), by have h9 := HAS.out; omega, Lib.hid rfl⟩
      case round =>
        obtain ⟨i, rfl, hi, cur, rfl, hcs, HCUR⟩ := hrel
        have hwi : IntKind.i64.wrap ((i : Int) + 1) = (i : Int) + 1 := by rw [IntKind.wrap_i64]; omega
        by_cases hin : i < nn
        · have hin2 : (i : Int) < nn := by omega
          obtain ⟨s, hs⟩ : ∃ s, NS[i]? = some s := ⟨_, List.getElem?_eq_getElem (by rw [← HNL.out]; exact hin)⟩
          obtain ⟨gn, on, en, hgn, hcn⟩ := HNM.out.2.resolve_left (by omega)
          have an := hcn i s hs
          have hss : (s.size : Int) ≤ 100000 := by have h9 := HZ.out s (List.mem_of_getElem? hs); omega
          have hss2 : s.size ≤ 100000 := by omega
          have hcs2 : cur.size ≤ 10001000000 := by omega
          have HNX := Lib.hid (foldl_take (fun acc s => acc ++ nmB s) acc NS i s hs)
          clear hs hcn
          subst en
          go_wp2
          go_round
          case rel => exact ⟨i + 1, by go_num, by omega, cur ++ nmB s, rfl, by rw [ByteArray.size_append, nmB_size]; omega, Lib.hid (by rw [HNX.out, ← HCUR.out])⟩
          case measure => simp [intOf]; omega
        · have hin2 : ¬ (i : Int) < nn := by omega
          obtain rfl : i = nn := by omega
          have HTK : Hid (NS.take i = NS) := Lib.hid (List.take_of_length_le (by rw [← HNL.out]; exact Nat.le_refl _))
          go_wp2
          go_ret
          exact ⟨by rw [HACC.out, ← HTK.out, ← HCUR.out]; rfl, HB.out⟩
end Go.Proofs.YtifilhkkgkihpaaGreatDoor
set_option linter.unusedSimpArgs false
set_option linter.unusedVariables false
namespace Go.Proofs.YtifilhkkgkihpaaGreatDoor
open Go.RowKit
theorem split32 (d : UInt8) : ∀ (a b x y : List UInt8), (∀ c ∈ a, c ≠ d) → (∀ c ∈ b, c ≠ d) → (x = [] ∨ x.head? = some d) → (y = [] ∨ y.head? = some d) → a ++ x = b ++ y → a = b ∧ x = y
  | [], [], x, y, _, _, _, _, h => ⟨rfl, by simpa using h⟩
  | [], c :: b, x, y, _, hb, hx, _, h => by
    rcases hx with rfl | hx
    · simp at h
    · rw [List.nil_append] at h
      rw [h] at hx
      simp at hx
      exact absurd hx (hb c (by simp))
  | c :: a, [], x, y, ha, _, _, hy, h => by
    rcases hy with rfl | hy
    · simp at h
    · rw [List.nil_append] at h
      rw [← h] at hy
      simp at hy
      exact absurd hy (ha c (by simp))
  | c :: a, c' :: b, x, y, ha, hb, hx, hy, h => by
    simp only [List.cons_append, List.cons.injEq] at h
    obtain ⟨h1, h2⟩ := split32 d a b x y (fun e he => ha e (by simp [he])) (fun e he => hb e (by simp [he])) hx hy h.2
    exact ⟨by rw [h.1, h1], h2⟩
/-- a head's key: its sign, and numbers. -/
def keyB (sg : ByteArray) (cs : List Nat) : ByteArray := cs.foldl (fun acc c => acc ++ ((⟨#[32]⟩ : ByteArray) ++ itoaB c)) sg
def numL (cs : List Nat) : List UInt8 := cs.flatMap fun c => 32 :: decL c
theorem keyB_list : ∀ (cs : List Nat) (sg : ByteArray), (∀ c ∈ cs, c < 100) → (keyB sg cs).data.toList = sg.data.toList ++ numL cs
  | [], sg, _ => by simp [keyB, numL]
  | c :: cs, sg, h => by
    have := keyB_list cs (sg ++ ((⟨#[32]⟩ : ByteArray) ++ itoaB c)) (fun x hx => h x (by simp [hx]))
    unfold keyB at *
    rw [List.foldl_cons, this, ByteArray.data_append, ByteArray.data_append, Array.toList_append, Array.toList_append, itoa_dec c (h c (by simp))]
    simp [numL]
theorem num_inj : ∀ (a b : List Nat), (∀ c ∈ a, c < 100) → (∀ c ∈ b, c < 100) → numL a = numL b → a = b
  | [], [], _, _, _ => rfl
  | [], c :: b, _, _, h => by simp [numL] at h
  | c :: a, [], _, _, h => by simp [numL] at h
  | c :: a, d :: b, ha, hb, h => by
    have e : ∀ (c : Nat) (a : List Nat), numL (c :: a) = 32 :: (decL c ++ numL a) := fun c a => by simp [numL]
    have hd : ∀ a : List Nat, numL a = [] ∨ (numL a).head? = some 32 := fun a => by
      cases a with
      | nil => exact Or.inl rfl
      | cons c a => rw [e]; exact Or.inr rfl
    rw [e, e] at h
    simp only [List.cons.injEq, true_and] at h
    obtain ⟨h1, h2⟩ := split32 32 _ _ _ _ (dec_plain (ha c (by simp))) (dec_plain (hb d (by simp))) (hd a) (hd b) h
    rw [dec_inj (ha c (by simp)) (hb d (by simp)) h1, num_inj a b (fun x hx => ha x (by simp [hx])) (fun x hx => hb x (by simp [hx])) h2]
theorem key_inj {s t : ByteArray} {a b : List Nat} (hs : ∀ c ∈ s.data.toList, c ≠ 32) (ht : ∀ c ∈ t.data.toList, c ≠ 32) (ha : ∀ c ∈ a, c < 100) (hb : ∀ c ∈ b, c < 100) (h : keyB s a = keyB t b) : s = t ∧ a = b := by
  have h1 := congrArg (fun x : ByteArray => x.data.toList) h
  simp only [keyB_list a s ha, keyB_list b t hb] at h1
  have hd : ∀ a : List Nat, numL a = [] ∨ (numL a).head? = some 32 := fun a => by
    cases a with
    | nil => exact Or.inl rfl
    | cons c a => exact Or.inr (by simp [numL])
  obtain ⟨h2, h3⟩ := split32 32 _ _ _ _ hs ht (hd a) (hd b) h1
  exact ⟨ByteArray.ext (Array.toList_inj.1 h2), num_inj a b ha hb h3⟩
/-- a sign's bytes. -/
def namesL (NS : List ByteArray) : List UInt8 := NS.flatMap fun s => s.data.toList ++ [58]
theorem sign_list (kd : Int) (op : Bool) (NS : List ByteArray) : (signB kd op NS).data.toList = (signHead kd op).data.toList ++ namesL NS := by
  unfold signB
  have : ∀ (NS : List ByteArray) (a : ByteArray), (NS.foldl (fun acc s => acc ++ nmB s) a).data.toList = a.data.toList ++ namesL NS := by
    intro NS
    induction NS with
    | nil => intro a; simp [namesL]
    | cons s l ih =>
      intro a
      rw [List.foldl_cons, ih]
      unfold nmB
      rw [ByteArray.data_append, ByteArray.data_append, Array.toList_append, Array.toList_append]
      simp [namesL]
  exact this NS _
theorem tag_bytes (l : List UInt8) (h : tagL l = true) : ∀ c ∈ l, c ≠ 58 ∧ c ≠ 32 := by
  have hin : ∀ c, inB c = true → c ≠ 58 ∧ c ≠ 32 := fun c hc => by
    constructor <;> intro e <;> subst e <;> revert hc <;> decide
  cases l with
  | nil => simp [tagL] at h
  | cons c l =>
    simp only [tagL, Bool.and_eq_true, List.all_eq_true] at h
    intro x hx
    rcases List.mem_cons.1 hx with rfl | hx
    · exact hin x (by simp [inB, h.1])
    · exact hin x (h.2 x hx)
theorem names_inj : ∀ (A B : List ByteArray), (∀ s ∈ A, ∀ c ∈ s.data.toList, c ≠ 58) → (∀ s ∈ B, ∀ c ∈ s.data.toList, c ≠ 58) → namesL A = namesL B → A = B
  | [], [], _, _, _ => rfl
  | [], s :: B, _, _, h => by simp [namesL] at h
  | s :: A, [], _, _, h => by simp [namesL] at h
  | s :: A, t :: B, ha, hb, h => by
    have e : ∀ (s : ByteArray) (a : List ByteArray), namesL (s :: a) = s.data.toList ++ (58 :: namesL a) := fun s a => by simp [namesL]
    rw [e, e] at h
    obtain ⟨h1, h2⟩ := split32 58 _ _ _ _ (ha s (by simp)) (hb t (by simp)) (Or.inr rfl) (Or.inr rfl) h
    simp only [List.cons.injEq, true_and] at h2
    rw [ByteArray.ext (Array.toList_inj.1 h1), names_inj A B (fun x hx => ha x (by simp [hx])) (fun x hx => hb x (by simp [hx])) h2]
theorem head_names {h : Hd} {n : Int} (e : headB h.kd h.op n h.NS h.KS = true) : ∀ s ∈ h.NS, tagL s.data.toList = true := by
  intro s hs
  have hk := head_kind e
  unfold headB at e
  simp only [Bool.and_eq_true, bne_iff_ne] at e
  have e4 := e.2
  unfold typB at e4
  by_cases h0 : h.op = true ∧ h.kd ≠ 9
  · rw [if_pos h0] at e4; cases e4
  rw [if_neg h0] at e4
  by_cases h7 : h.kd = 7
  · have := (hk.2.2.2.2.1 h7).1
    rw [List.eq_nil_of_length_eq_zero this] at hs; cases hs
  rw [if_neg h7] at e4
  by_cases h8 : h.kd = 8
  · rw [if_pos h8] at e4
    simp only [Bool.and_eq_true, List.all_eq_true] at e4
    have := e4.2 s hs
    unfold nameL at this
    simp only [Bool.and_eq_true] at this
    exact this.1
  rw [if_neg h8] at e4
  by_cases h9 : h.kd = 9
  · rw [if_pos h9] at e4
    simp only [Bool.and_eq_true, List.all_eq_true] at e4
    exact e4.2 s hs
  · have := (hk.2.2.2.2.2.1 (by omega)).1
    rw [List.eq_nil_of_length_eq_zero this] at hs; cases hs
theorem sign_inj {h k : Hd} {n m : Int} (e : headB h.kd h.op n h.NS h.KS = true) (f : headB k.kd k.op m k.NS k.KS = true) (hs : signB h.kd h.op h.NS = signB k.kd k.op k.NS) : h.kd = k.kd ∧ h.op = k.op ∧ h.NS = k.NS := by
  have h1 := congrArg (fun x : ByteArray => x.data.toList) hs
  simp only [sign_list] at h1
  have hk := head_kind e
  have hk2 := head_kind f
  have hd : ∀ (kd : Int) (op : Bool), ∃ c, (signHead kd op).data.toList = [c] ∧ c = (if op then 93 else kindL.getD kd.toNat 0) := fun kd op => by
    unfold signHead
    cases op
    · exact ⟨_, rfl, rfl⟩
    · exact ⟨_, rfl, rfl⟩
  obtain ⟨c, e1, e2⟩ := hd h.kd h.op
  obtain ⟨d, f1, f2⟩ := hd k.kd k.op
  rw [e1, f1] at h1
  simp only [List.cons_append, List.nil_append, List.cons.injEq] at h1
  have hn := names_inj _ _ (fun s hs c hc => (tag_bytes _ (head_names e s hs) c hc).1) (fun s hs c hc => (tag_bytes _ (head_names f s hs) c hc).1) h1.2
  have hcd := h1.1
  rw [e2, f2] at hcd
  obtain ⟨a, ha⟩ : ∃ a : Nat, h.kd = (a : Int) := ⟨h.kd.toNat, by omega⟩
  obtain ⟨b, hb⟩ : ∃ b : Nat, k.kd = (b : Int) := ⟨k.kd.toNat, by omega⟩
  have hop1 := hk.2.2.2.2.2.2
  have hop2 := hk2.2.2.2.2.2.2
  rw [ha] at hcd hop1 hk
  rw [hb] at hcd hop2 hk2
  have hall : ((List.range 10).all fun a => (List.range 10).all fun b => [true, false].all fun o => [true, false].all fun p => !((!o || a == 9) && (!p || b == 9) && ((if o then (93 : UInt8) else kindL.getD a 0) == (if p then (93 : UInt8) else kindL.getD b 0))) || (a == b && o == p)) = true := by decide +kernel
  have ho : ∀ o : Bool, o ∈ [true, false] := by intro o; cases o <;> simp
  have h9 := List.all_eq_true.1 (List.all_eq_true.1 (List.all_eq_true.1 (List.all_eq_true.1 hall a (List.mem_range.2 (by omega))) b (List.mem_range.2 (by omega))) h.op (ho _)) k.op (ho _)
  have g1 : (!h.op || a == 9) = true := by
    cases ho1 : h.op
    · rfl
    · have := hop1 ho1; simp; omega
  have g2 : (!k.op || b == 9) = true := by
    cases ho1 : k.op
    · rfl
    · have := hop2 ho1; simp; omega
  rw [g1, g2] at h9
  simp only [Int.toNat_natCast] at hcd
  rw [hcd] at h9
  simp at h9
  exact ⟨by rw [ha, hb, h9.1], h9.2, hn⟩
theorem sign_plain {h : Hd} {n : Int} (e : headB h.kd h.op n h.NS h.KS = true) : ∀ c ∈ (signB h.kd h.op h.NS).data.toList, c ≠ 32 := by
  rw [sign_list]
  intro c hc
  rcases List.mem_append.1 hc with hc | hc
  · have hk := head_kind e
    obtain ⟨a, ha⟩ : ∃ a : Nat, h.kd = (a : Int) := ⟨h.kd.toNat, by omega⟩
    have hall : ((List.range 10).all fun a => kindL.getD a 0 != 32) = true := by decide +kernel
    have := List.all_eq_true.1 hall a (List.mem_range.2 (by omega))
    unfold signHead at hc
    rw [ha, Int.toNat_natCast] at hc
    cases hop : h.op
    · rw [hop] at hc
      simp at hc
      rw [hc]
      simpa using this
    · rw [hop] at hc
      simp at hc
      rw [hc]; decide
  · unfold namesL at hc
    simp only [List.mem_flatMap] at hc
    obtain ⟨s, hs, hc⟩ := hc
    rcases List.mem_append.1 hc with hc | hc
    · exact (tag_bytes _ (head_names e s hs) c hc).2
    · simp at hc; rw [hc]; decide
end Go.Proofs.YtifilhkkgkihpaaGreatDoor
set_option linter.unusedSimpArgs false
set_option linter.unusedVariables false
namespace Go.Proofs.YtifilhkkgkihpaaGreatDoor
open Go.RowKit
def idxK : List ByteArray → ByteArray → Option Nat
  | [], _ => none
  | a :: l, x => if a = x then some 0 else (idxK l x).map (· + 1)
theorem idxK_some : ∀ (l : List ByteArray) (x : ByteArray) (p : Nat), idxK l x = some p → l[p]? = some x
  | a :: l, x, p, h => by
    unfold idxK at h
    by_cases ha : a = x
    · rw [if_pos ha] at h; cases h; simp [ha]
    · rw [if_neg ha] at h
      cases hi : idxK l x with
      | none => rw [hi] at h; cases h
      | some q => rw [hi] at h; cases h; simpa using idxK_some l x q hi
theorem idxK_app : ∀ (l m : List ByteArray) (x : ByteArray) (p : Nat), idxK l x = some p → idxK (l ++ m) x = some p
  | a :: l, m, x, p, h => by
    rw [List.cons_append]
    unfold idxK at h ⊢
    by_cases ha : a = x
    · rw [if_pos ha] at h ⊢; exact h
    · rw [if_neg ha] at h ⊢
      cases hi : idxK l x with
      | none => rw [hi] at h; cases h
      | some q => rw [hi] at h; rw [idxK_app l m x q hi]; exact h
theorem idxK_new : ∀ (l : List ByteArray) (x : ByteArray), idxK l x = none → idxK (l ++ [x]) x = some l.length
  | [], x, _ => by simp [idxK]
  | a :: l, x, h => by
    rw [List.cons_append]
    unfold idxK at h ⊢
    by_cases ha : a = x
    · rw [if_pos ha] at h; cases h
    · rw [if_neg ha] at h ⊢
      have : idxK l x = none := by cases hi : idxK l x with
        | none => rfl
        | some q => rw [hi] at h; cases h
      rw [idxK_new l x this]
      simp
theorem idxK_other : ∀ (l : List ByteArray) (x y : ByteArray), x ≠ y → idxK (l ++ [x]) y = idxK l y
  | [], x, y, h => by simp [idxK, h]
  | a :: l, x, y, h => by
    rw [List.cons_append]
    unfold idxK
    rw [idxK_other l x y h]
/-- one key more: the number of its class. -/
def stepN (seen : List ByteArray) (key : ByteArray) : List ByteArray := match idxK seen key with
  | some _ => seen
  | none => seen ++ [key]
def numK (seen : List ByteArray) (key : ByteArray) : Nat := match idxK seen key with
  | some p => p
  | none => seen.length
/-- what holds behind some keys: what was seen, and their numbers. -/
structure NumI (keys seen : List ByteArray) (out : List Nat) : Prop where
  len : out.length = keys.length
  idx : ∀ (i : Nat) k, keys[i]? = some k → ∃ p, out[i]? = some p ∧ idxK seen k = some p
  hit : ∀ p, p < seen.length → ∃ i : Nat, i < keys.length ∧ out[i]? = some p
  le : seen.length ≤ keys.length
theorem NumI.nil : NumI [] [] [] := ⟨rfl, fun i k h => by simp at h, fun p h => by simp at h, Nat.le_refl _⟩
theorem NumI.step {keys seen : List ByteArray} {out : List Nat} (h : NumI keys seen out) (key : ByteArray) : NumI (keys ++ [key]) (stepN seen key) (out ++ [numK seen key]) := by
  have hi : idxK (stepN seen key) key = some (numK seen key) := by
    unfold stepN numK
    cases hk : idxK seen key with
    | some p => exact hk
    | none => exact idxK_new seen key hk
  refine ⟨by simp [h.len], fun i k hk => ?_, fun p hp => ?_, ?_⟩
  · rcases Nat.lt_or_ge i keys.length with hlt | hge
    · rw [List.getElem?_append_left hlt] at hk
      obtain ⟨p, h1, h2⟩ := h.idx i k hk
      refine ⟨p, by rw [List.getElem?_append_left (by rw [h.len]; exact hlt)]; exact h1, ?_⟩
      unfold stepN
      cases hkk : idxK seen key with
      | some q => exact h2
      | none => exact idxK_app _ _ _ _ h2
    · have hie : i = keys.length := by
        have := (List.getElem?_eq_some_iff.1 hk).1
        simp at this; omega
      subst hie
      simp at hk
      subst hk
      exact ⟨_, by rw [← h.len]; simp, hi⟩
  · by_cases hlt : p < seen.length
    · obtain ⟨i, h1, h2⟩ := h.hit p hlt
      exact ⟨i, by simp; omega, by rw [List.getElem?_append_left (by rw [h.len]; exact h1)]; exact h2⟩
    · refine ⟨keys.length, by simp, ?_⟩
      have : numK seen key = p := by
        unfold stepN at hp
        unfold numK
        cases hkk : idxK seen key with
        | some q => rw [hkk] at hp; simp only at hp; omega
        | none => rw [hkk] at hp; simp at hp; show seen.length = p; omega
      rw [← h.len, this]; simp
  · unfold stepN
    have := h.le
    cases hkk : idxK seen key with
    | some q => simp; omega
    | none => simp; omega
theorem NumI.inj {keys seen : List ByteArray} {out : List Nat} (h : NumI keys seen out) {i j : Nat} {a b : ByteArray} (hi : keys[i]? = some a) (hj : keys[j]? = some b) : out[i]? = out[j]? ↔ a = b := by
  obtain ⟨p, h1, h2⟩ := h.idx i a hi
  obtain ⟨q, h3, h4⟩ := h.idx j b hj
  constructor
  · intro e
    rw [h1, h3] at e
    cases e
    have := (idxK_some _ _ _ h2).symm.trans (idxK_some _ _ _ h4)
    exact Option.some.inj this
  · intro e
    subst e
    rw [h1, h3, ← h2, h4]
theorem NumI.lt {keys seen : List ByteArray} {out : List Nat} (h : NumI keys seen out) {i p : Nat} (hi : out[i]? = some p) : p < seen.length := by
  have hl := (List.getElem?_eq_some_iff.1 hi).1
  obtain ⟨q, h1, h2⟩ := h.idx i _ (List.getElem?_eq_getElem (by rw [← h.len]; exact hl))
  rw [hi] at h1
  cases h1
  exact (List.getElem?_eq_some_iff.1 (idxK_some _ _ _ h2)).1
/-- all numbers below c are among l: it has so many. -/
theorem cover_len : ∀ (c : Nat) (l : List Nat), (∀ p, p < c → p ∈ l) → c ≤ l.length
  | 0, l, _ => Nat.zero_le _
  | c + 1, l, h => by
    have hc := h c (Nat.lt_succ_self c)
    have := cover_len c (l.erase c) (fun p hp => (List.mem_erase_of_ne (by omega)).2 (h p (by omega)))
    rw [List.length_erase_of_mem hc] at this
    have hl : 0 < l.length := List.length_pos_of_mem hc
    omega
theorem onto_le (f : Nat → Nat) (c d : Nat) (h : ∀ q, q < d → ∃ p, p < c ∧ f p = q) : d ≤ c := by
  have := cover_len d ((List.range c).map f) (fun q hq => by
    obtain ⟨p, hp, e⟩ := h q hq
    exact List.mem_map.2 ⟨p, List.mem_range.2 hp, e⟩)
  simpa using this
theorem onto_inj (f : Nat → Nat) (c : Nat) (h : ∀ q, q < c → ∃ p, p < c ∧ f p = q) (a b : Nat) (ha : a < c) (hb : b < c) (hab : f a = f b) : a = b := by
  by_cases e : a = b
  · exact e
  · exfalso
    have hm : b ∈ List.range c := List.mem_range.2 hb
    have := cover_len c (((List.range c).erase b).map f) (fun q hq => by
      obtain ⟨p, hp, e1⟩ := h q hq
      by_cases hpb : p = b
      · exact List.mem_map.2 ⟨a, (List.mem_erase_of_ne e).2 (List.mem_range.2 ha), by rw [hab, ← hpb, e1]⟩
      · exact List.mem_map.2 ⟨p, (List.mem_erase_of_ne hpb).2 (List.mem_range.2 hp), e1⟩)
    rw [List.length_map, List.length_erase_of_mem hm, List.length_range] at this
    omega
/-- the numbers of the classes so far of a head and of its kids. -/
def clsOf (prev : List Nat) (i : Nat) (KS : List Int) : List Nat := prev.getD i 0 :: KS.map fun k => prev.getD k.toNat 0
def keyOf' (prev : List Nat) (i : Nat) (h : Hd) : ByteArray := keyB (signB h.kd h.op h.NS) (clsOf prev i h.KS)
/-- classes so far: so many numbers, all of them there. -/
structure ClsI (n count : Nat) (prev : List Nat) : Prop where
  len : prev.length = n
  lt : ∀ i, i < n → prev.getD i 0 < 100
  all : 0 < count → (∀ i, i < n → prev.getD i 0 < count) ∧ ∀ q, q < count → ∃ i, i < n ∧ prev.getD i 0 = q
theorem getD_of {l : List Nat} {i p : Nat} (h : l[i]? = some p) : l.getD i 0 = p := by rw [List.getD_eq_getElem?_getD, h]; rfl
/-- the classes stand: heads of one class are alike, and so are their kids' classes. -/
def Stands (HS : List Hd) (cl : List Nat) : Prop := ∀ (i j : Nat) h k, HS[i]? = some h → HS[j]? = some k → cl.getD i 0 = cl.getD j 0 → h.kd = k.kd ∧ h.op = k.op ∧ h.NS = k.NS ∧ h.KS.map (fun x => cl.getD x.toNat 0) = k.KS.map (fun x => cl.getD x.toNat 0)
/-- a relation that keeps what heads are by themselves, and their kids. -/
def Bisim (HS : List Hd) (R : Nat → Nat → Prop) : Prop := ∀ i j h k, R i j → HS[i]? = some h → HS[j]? = some k → h.kd = k.kd ∧ h.op = k.op ∧ h.NS = k.NS ∧ h.KS.length = k.KS.length ∧ ∀ (q : Nat) a b, h.KS[q]? = some a → k.KS[q]? = some b → R a.toNat b.toNat
def Coarse (HS : List Hd) (cl : List Nat) : Prop := ∀ R, Bisim HS R → ∀ i j, i < HS.length → j < HS.length → R i j → cl.getD i 0 = cl.getD j 0
section
variable {HS : List Hd} {prev next : List Nat} {seen keys : List ByteArray} {count : Nat}
theorem keys_inj (hok : OkHeads HS) (hp : ClsI HS.length count prev) {i j : Nat} {h k : Hd} (hi : HS[i]? = some h) (hj : HS[j]? = some k) (e : keyOf' prev i h = keyOf' prev j k) : (h.kd = k.kd ∧ h.op = k.op ∧ h.NS = k.NS) ∧ clsOf prev i h.KS = clsOf prev j k.KS := by
  have o1 := hok h (List.mem_of_getElem? hi)
  have o2 := hok k (List.mem_of_getElem? hj)
  have hl : ∀ (i : Nat) (h : Hd), HS[i]? = some h → ∀ c ∈ clsOf prev i h.KS, c < 100 := fun i h hi c hc => by
    have hk := head_kind (hok h (List.mem_of_getElem? hi))
    unfold clsOf at hc
    rcases List.mem_cons.1 hc with rfl | hc
    · exact hp.lt i (List.getElem?_eq_some_iff.1 hi).1
    · obtain ⟨x, hx, rfl⟩ := List.mem_map.1 hc
      have := hk.2.2.1 x hx
      exact hp.lt _ (by omega)
  obtain ⟨e1, e2⟩ := key_inj (sign_plain o1) (sign_plain o2) (hl i h hi) (hl j k hj) e
  exact ⟨sign_inj o1 o2 e1, e2⟩
theorem next_cls (hn : HS.length ≤ 100) (h : NumI keys seen next) (hk : keys.length = HS.length) : ClsI HS.length seen.length next where
  len := by rw [h.len, hk]
  lt i hi := by
    have hl : i < next.length := by rw [h.len, hk]; exact hi
    have h1 := h.lt (List.getElem?_eq_getElem hl)
    rw [getD_of (List.getElem?_eq_getElem hl)]
    have := h.le
    omega
  all _ := by
    refine ⟨fun i hi => ?_, fun q hq => ?_⟩
    · have hl : i < next.length := by rw [h.len, hk]; exact hi
      rw [getD_of (List.getElem?_eq_getElem hl)]
      exact h.lt (List.getElem?_eq_getElem hl)
    · obtain ⟨i, h1, h2⟩ := h.hit q hq
      exact ⟨i, by rw [← hk]; exact h1, getD_of h2⟩
theorem next_refines (hok : OkHeads HS) (hp : ClsI HS.length count prev) (h : NumI keys seen next) (hk : keys.length = HS.length) (hkeys : ∀ (i : Nat) x, HS[i]? = some x → keys[i]? = some (keyOf' prev i x)) {i j : Nat} {a b : Hd} (hi : HS[i]? = some a) (hj : HS[j]? = some b) :
    next.getD i 0 = next.getD j 0 ↔ keyOf' prev i a = keyOf' prev j b := by
  have e := h.inj (hkeys i a hi) (hkeys j b hj)
  obtain ⟨p, h1, _⟩ := h.idx i _ (hkeys i a hi)
  obtain ⟨q, h2, _⟩ := h.idx j _ (hkeys j b hj)
  rw [getD_of h1, getD_of h2, ← e, h1, h2]
  simp
theorem next_own (hok : OkHeads HS) (hp : ClsI HS.length count prev) (h : NumI keys seen next) (hk : keys.length = HS.length) (hkeys : ∀ (i : Nat) x, HS[i]? = some x → keys[i]? = some (keyOf' prev i x)) {i j : Nat} (hi : i < HS.length) (hj : j < HS.length) (e : next.getD i 0 = next.getD j 0) : prev.getD i 0 = prev.getD j 0 := by
  have hi' : HS[i]? = some HS[i] := List.getElem?_eq_getElem hi
  have hj' : HS[j]? = some HS[j] := List.getElem?_eq_getElem hj
  have := (keys_inj hok hp hi' hj' ((next_refines hok hp h hk hkeys hi' hj').1 e)).2
  unfold clsOf at this
  simp only [List.cons.injEq] at this
  exact this.1
/-- how one class number is the elder one. -/
theorem next_map (hok : OkHeads HS) (hp : ClsI HS.length count prev) (h : NumI keys seen next) (hk : keys.length = HS.length) (hkeys : ∀ (i : Nat) x, HS[i]? = some x → keys[i]? = some (keyOf' prev i x)) :
    ∃ f : Nat → Nat, ∀ i, i < HS.length → f (next.getD i 0) = prev.getD i 0 := by
  have : ∀ p, ∃ q, ∀ i, i < HS.length → next.getD i 0 = p → prev.getD i 0 = q := fun p => by
    by_cases hex : ∃ i, i < HS.length ∧ next.getD i 0 = p
    · obtain ⟨i, hi, e⟩ := hex
      exact ⟨prev.getD i 0, fun j hj ej => next_own hok hp h hk hkeys hj hi (by rw [e, ej])⟩
    · exact ⟨0, fun i hi e => absurd ⟨i, hi, e⟩ hex⟩
  exact ⟨fun p => (this p).choose, fun i hi => ((this _).choose_spec i hi rfl).symm⟩
theorem count_le (hok : OkHeads HS) (hp : ClsI HS.length count prev) (h : NumI keys seen next) (hk : keys.length = HS.length) (hkeys : ∀ (i : Nat) x, HS[i]? = some x → keys[i]? = some (keyOf' prev i x)) : count ≤ seen.length := by
  rcases Nat.eq_zero_or_pos count with rfl | hc
  · exact Nat.zero_le _
  obtain ⟨f, hf⟩ := next_map hok hp h hk hkeys
  obtain ⟨h1, h2⟩ := hp.all hc
  refine onto_le f seen.length count (fun q hq => ?_)
  obtain ⟨i, hi, e⟩ := h2 q hq
  have hl : i < next.length := by rw [h.len, hk]; exact hi
  exact ⟨next.getD i 0, by rw [getD_of (List.getElem?_eq_getElem hl)]; exact h.lt (List.getElem?_eq_getElem hl), by rw [hf i hi, e]⟩
theorem next_stands (hn : 0 < HS.length) (hok : OkHeads HS) (hp : ClsI HS.length count prev) (h : NumI keys seen next) (hk : keys.length = HS.length) (hkeys : ∀ (i : Nat) x, HS[i]? = some x → keys[i]? = some (keyOf' prev i x)) (he : seen.length = count) : Stands HS next := by
  have hc : 0 < count := by
    rw [← he]
    have hl : 0 < next.length := by rw [h.len, hk]; exact hn
    have := h.lt (List.getElem?_eq_getElem hl)
    omega
  obtain ⟨f, hf⟩ := next_map hok hp h hk hkeys
  obtain ⟨h1, h2⟩ := hp.all hc
  have hinj : ∀ i j, i < HS.length → j < HS.length → prev.getD i 0 = prev.getD j 0 → next.getD i 0 = next.getD j 0 := fun i j hi hj e => by
    have hl : ∀ i, i < HS.length → next.getD i 0 < count := fun i hi => by
      have hl : i < next.length := by rw [h.len, hk]; exact hi
      rw [getD_of (List.getElem?_eq_getElem hl), ← he]
      exact h.lt (List.getElem?_eq_getElem hl)
    exact onto_inj f count (fun q hq => by
      obtain ⟨i, hi, e⟩ := h2 q hq
      exact ⟨next.getD i 0, hl i hi, by rw [hf i hi, e]⟩) _ _ (hl i hi) (hl j hj) (by rw [hf i hi, hf j hj, e])
  intro i j a b hi hj e
  obtain ⟨⟨g1, g2, g3⟩, g4⟩ := keys_inj hok hp hi hj ((next_refines hok hp h hk hkeys hi hj).1 e)
  refine ⟨g1, g2, g3, ?_⟩
  unfold clsOf at g4
  simp only [List.cons.injEq] at g4
  have r1 := head_kind (hok a (List.mem_of_getElem? hi))
  have r2 := head_kind (hok b (List.mem_of_getElem? hj))
  refine List.ext_getElem? (fun q => ?_)
  have g5 := congrArg (fun l => l[q]?) g4.2
  simp only [List.getElem?_map] at g5 ⊢
  cases ha : a.KS[q]? with
  | none =>
    rw [ha] at g5
    cases hb : b.KS[q]? with
    | none => rfl
    | some y => rw [hb] at g5; cases g5
  | some x =>
    rw [ha] at g5
    cases hb : b.KS[q]? with
    | none => rw [hb] at g5; cases g5
    | some y =>
      rw [hb] at g5
      simp only [Option.map_some, Option.some.injEq] at g5 ⊢
      have k1 := r1.2.2.1 x (List.mem_of_getElem? ha)
      have k2 := r2.2.2.1 y (List.mem_of_getElem? hb)
      exact hinj _ _ (by omega) (by omega) g5
theorem next_coarse (hok : OkHeads HS) (hc : Coarse HS prev) (hp : ClsI HS.length count prev) (h : NumI keys seen next) (hk : keys.length = HS.length) (hkeys : ∀ (i : Nat) x, HS[i]? = some x → keys[i]? = some (keyOf' prev i x)) : Coarse HS next := by
  intro R hR i j hi hj hij
  have hi' : HS[i]? = some HS[i] := List.getElem?_eq_getElem hi
  have hj' : HS[j]? = some HS[j] := List.getElem?_eq_getElem hj
  refine (next_refines hok hp h hk hkeys hi' hj').2 ?_
  obtain ⟨g1, g2, g3, g4, g5⟩ := hR i j _ _ hij hi' hj'
  have r1 := head_kind (hok _ (List.getElem_mem hi))
  have r2 := head_kind (hok _ (List.getElem_mem hj))
  unfold keyOf' clsOf
  rw [g1, g2, g3, hc R hR i j hi hj hij]
  congr 2
  refine List.ext_getElem? (fun q => ?_)
  simp only [List.getElem?_map]
  cases ha : HS[i].KS[q]? with
  | none =>
    have : HS[j].KS[q]? = none := by
      rw [List.getElem?_eq_none_iff] at ha ⊢
      omega
    rw [this]
  | some x =>
    have hql : q < HS[j].KS.length := by have := (List.getElem?_eq_some_iff.1 ha).1; omega
    obtain ⟨y, hb⟩ : ∃ y, HS[j].KS[q]? = some y := ⟨_, List.getElem?_eq_getElem hql⟩
    rw [hb]
    simp only [Option.map_some, Option.some.injEq]
    have k1 := r1.2.2.1 x (List.mem_of_getElem? ha)
    have k2 := r2.2.2.1 y (List.mem_of_getElem? hb)
    exact hc R hR _ _ (by omega) (by omega) (g5 q x y ha hb)
end
end Go.Proofs.YtifilhkkgkihpaaGreatDoor
