/- Both has of a value that was made: one plain answer. -/
import Derived.Test.YtoakfninndkgaaaGreatDoorNzA
set_option linter.unusedVariables false
namespace Go.Proofs.YtoakfninndkgaaaGreatDoor
open Go.RowKit
/-- all heads may be. -/
def OkHeads (HS : List Hd) : Prop := ∀ h ∈ HS, headB h.kd h.op HS.length h.NS h.KS = true
theorem OkHeads.of_graph {root : Int} {HS : List Hd} (h : graphB root HS = true) : OkHeads HS ∧ 0 ≤ root ∧ root < (HS.length : Int) := by
  unfold graphB at h
  simp only [Bool.and_eq_true, decide_eq_true_eq, List.all_eq_true] at h
  exact ⟨fun x hx => h.2 x hx, h.1.1.2, h.1.2⟩
theorem head_kind {h : Hd} {n : Int} (e : headB h.kd h.op n h.NS h.KS = true) : (0 ≤ h.kd ∧ h.kd ≤ 9) ∧ risesB h.NS = true ∧ (∀ k ∈ h.KS, 0 ≤ k ∧ k < n) ∧ (h.kd = 8 ∨ h.kd = 9 → h.NS.length = h.KS.length) ∧ (h.kd = 7 → h.NS.length = 0 ∧ h.KS.length = 2) ∧ (h.kd ≤ 6 → h.NS.length = 0 ∧ h.KS.length = 0) ∧ (h.op = true → h.kd = 9) := by
  unfold headB at e
  simp only [Bool.and_eq_true, bne_iff_ne, List.all_eq_true, decide_eq_true_eq] at e
  obtain ⟨⟨⟨e1, e2⟩, e3⟩, e4⟩ := e
  refine ⟨?_, e2, e3, ?_⟩
  all_goals
    unfold typB at e4
    by_cases h0 : h.op = true ∧ h.kd ≠ 9
    · rw [if_pos h0] at e4; cases e4
    rw [if_neg h0] at e4
    by_cases h7 : h.kd = 7
    · rw [if_pos h7] at e4
      simp only [Bool.and_eq_true, decide_eq_true_eq] at e4
      first | omega | exact ⟨fun h => by omega, fun _ => e4, fun h => by omega, fun ho => by
        by_cases h9 : h.kd = 9
        · exact h9
        · exact absurd ⟨ho, h9⟩ h0⟩
    rw [if_neg h7] at e4
    by_cases h8 : h.kd = 8
    · rw [if_pos h8] at e4
      simp only [Bool.and_eq_true, decide_eq_true_eq] at e4
      first | omega | exact ⟨fun _ => e4.1, fun h => by omega, fun h => by omega, fun ho => by
        by_cases h9 : h.kd = 9
        · exact h9
        · exact absurd ⟨ho, h9⟩ h0⟩
    rw [if_neg h8] at e4
    by_cases h9 : h.kd = 9
    · rw [if_pos h9] at e4
      simp only [Bool.and_eq_true, decide_eq_true_eq] at e4
      first | omega | exact ⟨fun _ => e4.1, fun h => by omega, fun h => by omega, fun _ => h9⟩
    rw [if_neg h9] at e4
    simp only [Bool.and_eq_true, decide_eq_true_eq] at e4
    first | omega | exact ⟨fun h => by omega, fun h => by omega, fun _ => ⟨e4.1.2, e4.2⟩, fun ho => absurd ⟨ho, h9⟩ h0⟩
theorem rises_uniq : ∀ (E : List Val.Ent), Val.Rises E → ∀ (i j : Nat) a b, E[i]? = some a → E[j]? = some b → a.1 = b.1 → i = j
  | [], _, i, j, a, b, h1, _, _ => by simp at h1
  | e :: E, hr, 0, 0, a, b, _, _, _ => rfl
  | e :: E, hr, 0, j + 1, a, b, h1, h2, h3 => by
    simp at h1 h2
    have := hr.1 b (List.mem_of_getElem? h2)
    rw [h1, h3] at this
    have h4 := bl_irrefl b.1
    unfold bl at h4
    unfold Val.bl at this
    rw [h4] at this; cases this
  | e :: E, hr, i + 1, 0, a, b, h1, h2, h3 => by
    simp at h1 h2
    have := hr.1 a (List.mem_of_getElem? h1)
    rw [h2, ← h3] at this
    have h4 := bl_irrefl a.1
    unfold bl at h4
    unfold Val.bl at this
    rw [h4] at this; cases this
  | e :: E, hr, i + 1, j + 1, a, b, h1, h2, h3 => by
    rw [rises_uniq E hr.2 i j a b (by simpa using h1) (by simpa using h2) h3]
theorem names_at (E : List Val.Ent) (j : Nat) (s : ByteArray) : (Val.names E)[j]? = some s ↔ ∃ k, E[j]? = some (s, k) := by
  unfold Val.names
  rw [List.getElem?_map]
  cases E[j]? with
  | none => simp
  | some e => obtain ⟨a, b⟩ := e; simp
theorem any_name (E : List Val.Ent) (hr : Val.Rises E) (s : ByteArray) (f : Nat → Bool) : ((List.range (Val.names E).length).any fun j => decide ((Val.names E)[j]? = some s) && f j) = ((Val.getE E s).isSome && f (Val.lowP E s)) := by
  cases hg : Val.getE E s with
  | none =>
    simp only [Option.isSome_none, Bool.false_and]
    refine List.any_eq_false.2 (fun j hj => ?_)
    have : ¬ (Val.names E)[j]? = some s := fun e => by
      obtain ⟨k, hk⟩ := (names_at E j s).1 e
      have := Val.getE_at E hr j _ hk
      rw [hg] at this
      cases this
    simp [this]
  | some kk =>
    have hp := Val.get_at E s hr kk hg
    simp only [Option.isSome_some, Bool.true_and]
    cases hf : f (Val.lowP E s) with
    | true =>
      refine List.any_eq_true.2 ⟨Val.lowP E s, List.mem_range.2 ?_, ?_⟩
      · have := (List.getElem?_eq_some_iff.1 hp).1
        simpa [Val.names] using this
      · have := (names_at E _ s).2 ⟨kk, hp⟩
        simp [this, hf]
    | false =>
      refine List.any_eq_false.2 (fun j hj => ?_)
      by_cases he : (Val.names E)[j]? = some s
      · obtain ⟨k, hk⟩ := (names_at E j s).1 he
        have := rises_uniq E hr _ _ _ _ hk hp rfl
        rw [this, hf]
        simp
      · simp [he]
theorem all_congr {l : List Nat} {f g : Nat → Bool} (h : ∀ n ∈ l, f n = g n) : l.all f = l.all g := by
  induction l with
  | nil => rfl
  | cons x l ih =>
    rw [List.all_cons, List.all_cons, h x (List.mem_cons_self ..), ih (fun n hn => h n (List.mem_cons_of_mem _ hn))]
theorem row_at {cur : Array Value} {m k : Nat} {xs : List Value} {u : Value} (h : cur.toList.take m = xs) (hk : xs[k]? = some u) : cur[k]? = some u := Val.row_at h hk
set_option maxRecDepth 20000 in
set_option maxHeartbeats 2000000 in
theorem field_not (w : World) (kd ki kb : Int) (kt : ByteArray) (kna : Option Addr) (knn knc : Nat) (kka : Option Addr) (kkn kkc : Nat) (kfp : Option Addr) (khv : Int) (x : ByteArray) (h4 : kd ≠ 4) (hz : kna = none ∧ knn = 0 ∧ knc = 0) :
    Calls Tryz.prog 60 #[.agg #[.int .i64 kd, .int .i64 ki, .int .u64 kb, .string kt, .slice kna knn knc, .slice kka kkn kkc, .pointer kfp, .int .i64 khv], .string x] w (FieldPost w none) := by
  obtain ⟨rfl, rfl, rfl⟩ := hz
  have h4' : (kd == 4) = false := by simpa using h4
  have h4'' : (kd != 4) = true := by simpa using h4
  clear h4
  have hxb : (w.alloc (.cells #[.int .i64 kd, .int .i64 ki, .int .u64 kb, .string kt, .slice none 0 0, .slice kka kkn kkc, .pointer kfp, .int .i64 khv] 70)).heap[w.heap.size]? = some (.cells #[.int .i64 kd, .int .i64 ki, .int .u64 kb, .string kt, .slice none 0 0, .slice kka kkn kkc, .pointer kfp, .int .i64 khv] 70 (0, 0)) := heap_alloc_new w _
  have HR : Hid (∀ cs, ((w.alloc (.cells #[.int .i64 kd, .int .i64 ki, .int .u64 kb, .string kt, .slice none 0 0, .slice kka kkn kkc, .pointer kfp, .int .i64 khv] 70)).alloc (.cells cs 70)).heap[w.heap.size + 1]? = some (.cells cs 70 (0, 0))) := Lib.hid fun cs => by
    have := heap_alloc_new (w.alloc (.cells #[.int .i64 kd, .int .i64 ki, .int .u64 kb, .string kt, .slice none 0 0, .slice kka kkn kkc, .pointer kfp, .int .i64 khv] 70)) (.cells cs 70)
    simpa using this
  have HBL : Hid (∀ cs, Below w.heap.size w ((w.alloc (.cells #[.int .i64 kd, .int .i64 ki, .int .u64 kb, .string kt, .slice none 0 0, .slice kka kkn kkc, .pointer kfp, .int .i64 khv] 70)).alloc (.cells cs 70))) := Lib.hid fun cs => ((Below.refl _ _).alloc (Nat.le_refl _) _).alloc (by simp) _
  clear hxb
  go_enter Tryz.func60, Tryz.ntmps60
  go_wp2_with (go_at_call 65; refine (Val.bs_nil _ _).mono ?_; rintro e w' ⟨rfl, rfl⟩)
  (try simp only [Exit.inBlock, Exit.then])
  refine bodyPost_ret (v := .tuple #[.agg #[.int .i64 0, .int .i64 0, .int .u64 0, .string ⟨#[]⟩, .slice none 0 0, .slice none 0 0, .pointer none, .int .i64 0], .bool false]) ?_ rfl ?_
  · refine Val.results_28' (fn := Tryz.f60) (p := 4) (u := 5) rfl _ _ (w.heap.size + 1) #[.int .i64 0, .int .i64 0, .int .u64 0, .string ⟨#[]⟩, .slice none 0 0, .slice none 0 0, .pointer none, .int .i64 0] ?_ ?_ rfl
    · rfl
    · exact HR.out _
  · exact ⟨rfl, HBL.out _⟩
def BothAt (w' : World) (k : Val.Kid) (la : Option Addr) (ln lc : Nat) (i : Int) (b : Bool) : Prop :=
  Calls Tryz.prog 51 #[k.val, .slice la ln lc, .int .i64 i] w' (BoolPost w' b) ∧ Calls Tryz.prog 31 #[k.val, .slice la ln lc, .int .i64 i] w' (BoolPost w' b)
theorem HeadsIn.on {w w' : World} {la : Option Addr} {ln : Nat} {HS : List Hd} (h : HeadsIn w la ln HS) (hb : Below w.heap.size w w') : HeadsIn w' la ln HS := by
  refine ⟨h.1, ?_⟩
  rcases h.2 with h0 | ⟨g, o, e, hg, hc⟩
  · exact Or.inl h0
  · refine Or.inr ⟨g, o, e, Nat.lt_of_lt_of_le hg hb.size, fun i x hx => ?_⟩
    have r := hc i x hx
    exact ⟨keepB hb hg r.c0, keepB hb hg r.c1, keepB hb hg r.c2, keepB hb hg r.c3, r.ok.on hb⟩
theorem nn_kn {w : World} {h : Hd} (hok : HdOk w h) (hl : h.NS.length = h.KS.length) : h.nn = h.kn := by rw [hok.names.1, hok.kids.1, hl]
theorem HeadsIn.ok {w : World} {la : Option Addr} {ln : Nat} {HS : List Hd} (hH : HeadsIn w la ln HS) {j : Nat} {h : Hd} (hj : HS[j]? = some h) : HdOk w h := by
  obtain ⟨g, o, e, hg, hc⟩ := hH.2.resolve_left (by rw [hH.1]; have := (List.getElem?_eq_some_iff.1 hj).1; omega)
  exact (hc j _ hj).ok
theorem vrec_not (w : World) (la : Option Addr) (ln lc : Nat) (HS : List Hd) (hH : HeadsIn w la ln HS) (hln : (ln : Int) ≤ 100000) (j : Nat) (h : Hd) (hh : HS[j]? = some h) (h8 : h.kd = 8) (hl : h.NS.length = h.KS.length) (k : Val.Kid) (h4 : k.kd ≠ 4) (hz : k.na = none ∧ k.nn = 0 ∧ k.nc = 0) :
    Calls Tryz.prog 51 #[k.val, .slice la ln lc, .int .i64 (j : Int)] w (BoolPost w false) := by
  have hnk := nn_kn (hH.ok hh) hl
  obtain ⟨hd, na, nn, nc, NS, ka, kn, kc, KS, op⟩ := h
  obtain ⟨kd, ki, kb, kt, kna, knn, knc, kka, kkn, kkc, kfp, khv⟩ := k
  simp only at h4 h8 hnk
  have := vhas_rec w la ln lc HS hH hln j hd na nn nc NS ka kn kc KS op hh kd ki kb kt kna knn knc kka kkn kkc kfp khv (fun _ => none) (fun _ => false) h8 hnk (fun n s _ w'' _ => field_not w'' kd ki kb kt kna knn knc kka kkn kkc kfp khv s h4 hz) (fun n kk k h => by cases h)
  have h2 : (if ((List.range nn).all fun n => ((none : Option Val.Kid)).isSome && false) = true then kd == 4 else false) = false := by
    split
    · simpa using h4
    · rfl
  rw [h2] at this
  exact this
theorem if44 (b : Bool) : (if b = true then (4 : Int) == 4 else false) = b := by cases b <;> rfl
theorem leaf8 (kk : Int) : leafB 8 kk = false := by unfold leafB; simp
theorem leaf9 (kk : Int) : leafB 9 kk = false := by unfold leafB; simp
theorem own_cells {w : World} {base : Nat} {e : TypeId} {size n : Nat} {a : Option Addr} {c : Nat} {xs : List Value} (h : w.ownsRow base e size (.slice a n c) n xs) : n = 0 ∨ ∃ g cur, a = some ⟨g, 0, none⟩ ∧ g < w.heap.size ∧ w.heap[g]? = some (.cells cur e (0, 0)) ∧ cur.toList.take (n * size) = xs := by
  rcases h.2 with ⟨-, h0⟩ | ⟨g, cap, cur, e1, e2, e3, e4, e5, e6, e7⟩
  · exact Or.inl h0
  · cases e1
    exact Or.inr ⟨g, cur, rfl, (Array.getElem?_eq_some_iff.1 e3).1, e3, e7⟩
theorem both_any (w : World) (F : Nat → Prop) (la : Option Addr) (ln lc : Nat) (HS : List Hd) (hH : HeadsIn w la ln HS) (hln : (ln : Int) ≤ 100000) (hok : OkHeads HS) (hF : ∀ b, F b → b < w.heap.size) {k : Val.Kid} {v : Val.V} (hv : Val.VS w F k v) :
    ∀ w', Below w.heap.size w w' → ∀ i : Int, 0 ≤ i → i < (ln : Int) → BothAt w' k la ln lc i (hasB HS v i) := by
  induction hv with
  | leaf k hz hs h4 h5 =>
    intro w' hb i hi0 hil
    obtain ⟨j, rfl⟩ : ∃ j : Nat, i = (j : Int) := ⟨i.toNat, by omega⟩
    obtain ⟨h, hh⟩ : ∃ h, HS[j]? = some h := ⟨_, List.getElem?_eq_getElem (by rw [← hH.1]; omega)⟩
    have hk := head_kind (hok h (List.mem_of_getElem? hh))
    have he : hasB HS (.leaf k.kd k.kt) (j : Int) = leafB h.kd k.kd := by
      unfold hasB
      rw [Int.toNat_natCast, hh]
    rw [he]
    obtain ⟨hd, na, nn, nc, NS, ka, kn, kc, KS, op⟩ := h
    obtain ⟨kd, ki, kb, kt, kna, knn, knc, kka, kkn, kkc, kfp, khv⟩ := k
    simp only at h4 h5
    have hHw := hH.on hb
    by_cases h8 : hd = 8
    · subst h8
      rw [leaf8]
      refine ⟨vrec_not w' la ln lc HS hHw hln j _ hh rfl (hk.2.2.2.1 (Or.inl rfl)) ⟨kd, ki, kb, kt, kna, knn, knc, kka, kkn, kkc, kfp, khv⟩ h4 hz, ?_⟩
      rw [← leaf8 kd]
      exact lhas_simple w' la ln lc HS hHw hln j 8 na nn nc NS ka kn kc KS op hh kd ki kb kt kna knn knc kka kkn kkc kfp khv (fun _ => h4) (fun h => by omega) (by omega)
    · exact ⟨vhas_simple w' la ln lc HS hHw hln j hd na nn nc NS ka kn kc KS op hh kd ki kb kt kna knn knc kka kkn kkc kfp khv h8 (fun _ => h5) hk.1, lhas_simple w' la ln lc HS hHw hln j hd na nn nc NS ka kn kc KS op hh kd ki kb kt kna knn knc kka kkn kkc kfp khv (fun h => absurd h h8) (fun _ => h5) hk.1⟩
  | tag k g K v hz hs h5 ha hg hn hnc hc hv ih =>
    intro w' hb i hi0 hil
    obtain ⟨j, rfl⟩ : ∃ j : Nat, i = (j : Int) := ⟨i.toNat, by omega⟩
    obtain ⟨h, hh⟩ : ∃ h, HS[j]? = some h := ⟨_, List.getElem?_eq_getElem (by rw [← hH.1]; omega)⟩
    have hk := head_kind (hok h (List.mem_of_getElem? hh))
    have he : hasB HS (.tag k.kt v) (j : Int) = if h.kd = 9 then (if findK h.NS h.KS k.kt < 0 then h.op else hasB HS v (findK h.NS h.KS k.kt)) else leafB h.kd 5 := by
      rw [hasB, Int.toNat_natCast, hh]
    rw [he]
    have hHw := hH.on hb
    have hnk := fun e => nn_kn (hHw.ok hh) (hk.2.2.2.1 e)
    have hln2 := hH.1
    by_cases h8 : h.kd = 8
    · rw [if_neg (by rw [h8]; decide), h8, leaf8]
      refine ⟨vrec_not w' la ln lc HS hHw hln j h hh h8 (hk.2.2.2.1 (Or.inl h8)) k (by rw [h5]; decide) hz, ?_⟩
      obtain ⟨hd, na, nn, nc, NS, ka, kn, kc, KS, op⟩ := h
      obtain ⟨kd, ki, kb, kt, kna, knn, knc, kka, kkn, kkc, kfp, khv⟩ := k
      simp only at h5 h8
      have := lhas_simple w' la ln lc HS hHw hln j hd na nn nc NS ka kn kc KS op hh kd ki kb kt kna knn knc kka kkn kkc kfp khv (fun _ => by omega) (fun h => by omega) (by omega)
      rw [h8, leaf8] at this
      exact this
    · by_cases h9 : h.kd = 9
      · rw [if_pos h9]
        obtain ⟨hd, na, nn, nc, NS, ka, kn, kc, KS, op⟩ := h
        obtain ⟨kd, ki, kb, kt, kna, knn, knc, kka, kkn, kkc, kfp, khv⟩ := k
        simp only at h5 h9 ha hn hnc hnk hk ⊢
        have hcw : ∀ (p : Nat) u, K.cells[p]? = some u → w'.cell? ⟨g, p, none⟩ = some u := fun p u hu => keepB hb (hF g hg) (hc p u hu)
        have hgw : g < w'.heap.size := Nat.lt_of_lt_of_le (hF g hg) hb.size
        have hin : 0 ≤ findK NS KS kt → findK NS KS kt < (ln : Int) := fun h0 => by
          rcases findK_cases NS KS kt (hk.2.2.2.1 (Or.inr h9)) with ⟨h1, _⟩ | ⟨p, k, _, h2, h3, _⟩
          · omega
          · rw [h3, hln2]
            exact (hk.2.2.1 k (List.mem_of_getElem? h2)).2
        exact ⟨vhas_tag w' la ln lc HS hHw hln j hd na nn nc NS ka kn kc KS op hh kd ki kb kt kna knn knc kka kkn kkc kfp khv K g (hasB HS v (findK NS KS kt)) h9 h5 (hnk (Or.inr h9)) hk.2.1 ha hn hnc hgw hcw (fun h0 w'' hb'' => (ih w'' (hb.trans (hb''.mono hb.size)) _ h0 (hin h0)).1),
          lhas_tag w' la ln lc HS hHw hln j hd na nn nc NS ka kn kc KS op hh kd ki kb kt kna knn knc kka kkn kkc kfp khv K g (hasB HS v (findK NS KS kt)) h9 h5 (hnk (Or.inr h9)) ha hn hnc hgw hcw (fun k hk' => (hk.2.2.1 k hk').1) (fun h0 w'' hb'' => (ih w'' (hb.trans (hb''.mono hb.size)) _ h0 (hin h0)).2)⟩
      · rw [if_neg h9]
        obtain ⟨hd, na, nn, nc, NS, ka, kn, kc, KS, op⟩ := h
        obtain ⟨kd, ki, kb, kt, kna, knn, knc, kka, kkn, kkc, kfp, khv⟩ := k
        simp only at h5 h9 h8 hk
        subst h5
        exact ⟨vhas_simple w' la ln lc HS hHw hln j hd na nn nc NS ka kn kc KS op hh 5 ki kb kt kna knn knc kka kkn kkc kfp khv h8 (fun h => absurd h h9) hk.1, lhas_simple w' la ln lc HS hHw hln j hd na nn nc NS ka kn kc KS op hh 5 ki kb kt kna knn knc kka kkn kkc kfp khv (fun h => absurd h h8) (fun h => absurd h h9) hk.1⟩
  | record k base E v hs h4 hn hk' hl hR hN hK hv ih =>
    intro w' hb i hi0 hil
    obtain ⟨j, rfl⟩ : ∃ j : Nat, i = (j : Int) := ⟨i.toNat, by omega⟩
    obtain ⟨h, hh⟩ : ∃ h, HS[j]? = some h := ⟨_, List.getElem?_eq_getElem (by rw [← hH.1]; omega)⟩
    have hk := head_kind (hok h (List.mem_of_getElem? hh))
    have he : hasB HS (.record (Val.names E) v) (j : Int) = if h.kd = 8 then (List.range h.NS.length).all (fun n => (List.range (Val.names E).length).any (fun j => decide ((Val.names E)[j]? = h.NS[n]?) && hasB HS (v j) (h.KS.getD n 0))) else leafB h.kd 4 := by
      rw [hasB, Int.toNat_natCast, hh]
    rw [he]
    have hHw := hH.on hb
    have hokw := hHw.ok hh
    have hnk := fun e => nn_kn hokw (hk.2.2.2.1 e)
    have hln2 := hH.1
    have hnl : (Val.names E).length = E.length := by simp [Val.names]
    by_cases h8 : h.kd = 8
    · rw [if_pos h8]
      have hNS := hokw.names.1
      have hlen := hk.2.2.2.1 (Or.inl h8)
      have hRw : Val.RecOf w' base k.na k.nc k.ka k.kc E := hR.on (fun b hb' => hb.block b hb')
      obtain ⟨hd, na, nn, nc, NS, ka, kn, kc, KS, op⟩ := h
      obtain ⟨kd, ki, kb, kt, kna, knn, knc, kka, kkn, kkc, kfp, khv⟩ := k
      simp only at h4 h8 hn hk' hnk hk hNS hlen hRw ⊢
      have hkin : ∀ (n : Nat) k, KS[n]? = some k → 0 ≤ k ∧ k < (ln : Int) := fun n k h => by
        have := hk.2.2.1 k (List.mem_of_getElem? h)
        rw [hln2]; exact this
      constructor
      · have := vhas_rec w' la ln lc HS hHw hln j hd na nn nc NS ka kn kc KS op hh kd ki kb kt kna knn knc kka kkn kkc kfp khv (fun n => match NS[n]? with | some s => Val.getE E s | none => none) (fun n => match NS[n]? with | some s => hasB HS (v (Val.lowP E s)) (KS.getD n 0) | none => false) h8 (hnk (Or.inl h8)) (fun n s hs w'' hb'' => by
          simp only [hs]
          have hRw2 : Val.RecOf w'' base kna knc kka kkc E := hRw.on (fun b hb' => hb''.block b hb')
          cases hg : Val.getE E s with
          | none =>
            rw [h4]
            exact Val.field_miss w'' base ki kb khv kt kfp kna kka knc kkc E.length E s rfl hl hRw2 hg |> fun x => by rw [hn, hk']; exact x
          | some kk =>
            rw [h4]
            exact Val.field_hit w'' base ki kb khv kt kfp kna kka knc kkc E.length E s kk rfl hl hRw2 hg |> fun x => by rw [hn, hk']; exact x) (fun n kk k hf hk2 w'' hb'' => by
          cases hs : NS[n]? with
          | none => simp only [hs] at hf; cases hf
          | some s =>
            simp only [hs] at hf ⊢
            have hp := Val.get_at E s hR.rises kk hf
            have hin := hkin n k hk2
            have hgd : KS.getD n 0 = k := by rw [List.getD_eq_getElem?_getD, hk2]; rfl
            rw [hgd]
            exact (ih _ _ hp w'' (hb.trans (hb''.mono hb.size)) k hin.1 hin.2).1)
        rw [h4] at this
        have h2 : (if ((List.range nn).all fun n => (match NS[n]? with | some s => Val.getE E s | none => none).isSome && (match NS[n]? with | some s => hasB HS (v (Val.lowP E s)) (KS.getD n 0) | none => false)) = true then (4 : Int) == 4 else false) = (List.range NS.length).all (fun n => (List.range (Val.names E).length).any (fun j => decide ((Val.names E)[j]? = NS[n]?) && hasB HS (v j) (KS.getD n 0))) := by
          rw [if44, hNS]
          refine all_congr (fun n hn' => ?_)
          obtain ⟨s, hs⟩ : ∃ s, NS[n]? = some s := ⟨_, List.getElem?_eq_getElem (List.mem_range.1 hn')⟩
          rw [hs]
          exact (any_name E hR.rises s (fun j => hasB HS (v j) (KS.getD n 0))).symm
        rw [h2] at this
        rw [h4]
        exact this
      · have hvn := own_cells (show w'.ownsRow base 9 1 (.slice kna E.length knc) E.length ((Val.names E).map Value.string) from hRw.nm)
        have hvk := own_cells (show w'.ownsRow base 70 8 (.slice kka E.length kkc) E.length (Val.cells E) from hRw.kd)
        obtain ⟨gn, hvn1, hvn2⟩ : ∃ gn, (E.length = 0 ∨ (kna = some ⟨gn, 0, none⟩ ∧ gn < w'.heap.size)) ∧ ∀ (p : Nat) s, (Val.names E)[p]? = some s → w'.cell? ⟨gn, p, none⟩ = some (.string s) := by
          rcases hvn with h0 | ⟨g, cur, e1, e2, e3, e4⟩
          · exact ⟨0, Or.inl h0, fun p s h => by
              have := (List.getElem?_eq_some_iff.1 h).1
              omega⟩
          · exact ⟨g, Or.inr ⟨e1, e2⟩, fun p s h => by
              rw [cell_of_row _ _ p _ 9 _ e3]
              exact row_at e4 (by rw [List.getElem?_map, h]; rfl)⟩
        obtain ⟨gk, hvk1, hvk2⟩ : ∃ gk, (E.length = 0 ∨ (kka = some ⟨gk, 0, none⟩ ∧ gk < w'.heap.size)) ∧ ∀ (p q : Nat) u, p < E.length → ((E[p]?.map (·.2)).getD kid0).cells[q]? = some u → w'.cell? ⟨gk, p * 8 + q, none⟩ = some u := by
          rcases hvk with h0 | ⟨g, cur, e1, e2, e3, e4⟩
          · exact ⟨0, Or.inl h0, fun p q u h => by omega⟩
          · exact ⟨g, Or.inr ⟨e1, e2⟩, fun p q u hp h => by
              rw [cell_of_row _ _ (p * 8 + q) _ 70 _ e3]
              rw [List.getElem?_eq_getElem hp] at h
              exact row_at e4 (Val.cellE E p E[p] q u (List.getElem?_eq_getElem hp) h)⟩
        have := lhas_rec w' la ln lc HS hHw hln j hd na nn nc NS ka kn kc KS op hh kd ki kb kt kna knn knc kka kkn kkc kfp khv (fun p => (E[p]?.map (·.2)).getD kid0) gn gk (Val.names E) (fun p n => hasB HS (v p) (KS.getD n 0)) h8 h4 (hnk (Or.inl h8)) (by rw [hn, hnl]) (by rw [hk', hnl]) (by rw [hn]; exact hl) (by rw [hn]; exact hvn1) (by rw [hk']; exact hvk1) hvn2 (fun p q u h1 h2 => hvk2 p q u (by rw [← hk']; exact h1) h2) (fun p n s k h1 h2 h3 w'' hb'' => by
          obtain ⟨kk, hkk⟩ := (names_at E p s).1 h1
          have hin := hkin n k h3
          have hgd : KS.getD n 0 = k := by rw [List.getD_eq_getElem?_getD, h3]; rfl
          rw [hgd, hkk]
          exact (ih p _ hkk w'' (hb.trans (hb''.mono hb.size)) k hin.1 hin.2).2)
        rw [hNS] at this
        exact this
    · rw [if_neg h8]
      obtain ⟨hd, na, nn, nc, NS, ka, kn, kc, KS, op⟩ := h
      obtain ⟨kd, ki, kb, kt, kna, knn, knc, kka, kkn, kkc, kfp, khv⟩ := k
      simp only at h4 h8 hk
      subst h4
      exact ⟨vhas_simple w' la ln lc HS hHw hln j hd na nn nc NS ka kn kc KS op hh 4 ki kb kt kna knn knc kka kkn kkc kfp khv h8 (fun _ => by decide) hk.1, lhas_simple w' la ln lc HS hHw hln j hd na nn nc NS ka kn kc KS op hh 4 ki kb kt kna knn knc kka kkn kkc kfp khv (fun h => absurd h h8) (fun _ => by decide) hk.1⟩
end Go.Proofs.YtoakfninndkgaaaGreatDoor
