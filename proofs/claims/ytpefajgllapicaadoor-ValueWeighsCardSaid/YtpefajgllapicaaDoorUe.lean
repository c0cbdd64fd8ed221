/- What each kind of value that Made makes weighs. -/
import Derived.Test.YtpefajgllapicaaDoorUd
set_option linter.unusedVariables false
namespace Go.Proofs.YtpefajgllapicaaDoor
open Go.RowKit
def MadePost (w : World) (e : Ending) (w' : World) : Prop := Below w.heap.size w w' ∧ (e = .returned (.tuple #[.agg #[.int .i64 0, .int .i64 0, .int .u64 0, .string ⟨#[]⟩, .slice none 0 0, .slice none 0 0, .pointer none, .int .i64 0], .bool false]) ∨ ∃ (k : Kid) (F : Nat → Prop) (h : Nat), e = .returned (.tuple #[k.val, .bool true]) ∧ VT w' F k h ∧ (∀ b, F b → b < w'.heap.size) ∧ h ≤ 6200)
theorem results_6 {fn : Func} {p u : Tmp} (h : fn.results = #[.cell p 28, .tmp u]) (tmps : Array Value) (w : World) (g : Nat) (cs : Array Value) (hp : tmps.getD p undef = .pointer (some ⟨g, 0, none⟩)) (hg : w.heap[g]? = some (.cells cs 28 (0, 0))) (hi : cs.size = 8) :
    (results fn tmps).run Tryd.prog w = .ok (.tuple #[.agg cs, tmps.getD u undef]) w :=
  results_28 h tmps w g cs hp hg (by rw [hi]; kernel_rfl)
theorem keep_set {w0 w : World} {Y B : Nat} {cs : Array Value} (hb : Below B w0 w) (hY : B ≤ Y) : Below B w0 (w.setRow Y cs) :=
  ⟨hb.os, hb.tape, hb.output, by rw [setRow_size]; exact hb.size, fun k hk => (setRow_other _ _ _ _ (by omega)).trans (hb.block k hk)⟩
theorem least_w (w : World) (F : Nat → Prop) : ∃ f : Kid → Nat, ∀ k n, VT w F k n → VT w F k (f k) ∧ f k ≤ n := by
  have : ∀ k, ∃ m, ∀ n, VT w F k n → VT w F k m ∧ m ≤ n := fun k => by
    by_cases h : ∃ n, VT w F k n
    · obtain ⟨n0, h0⟩ := h
      have : ∀ N n, n ≤ N → VT w F k n → ∃ m, ∀ n, VT w F k n → VT w F k m ∧ m ≤ n := by
        intro N
        induction N with
        | zero => intro n hn hv; exact ⟨n, fun n' hv' => ⟨hv, by omega⟩⟩
        | succ N ih =>
          intro n hn hv
          by_cases hl : ∃ n', n' ≤ N ∧ VT w F k n'
          · obtain ⟨n', hn', hv'⟩ := hl
            exact ih n' hn' hv'
          · exact ⟨n, fun n' hv' => ⟨hv, by
              rcases Nat.lt_or_ge N n' with h | h
              · omega
              · exact absurd ⟨n', h, hv'⟩ hl⟩⟩
      exact this n0 n0 (Nat.le_refl _) h0
    · exact ⟨0, fun n hn => absurd ⟨n, hn⟩ h⟩
  exact ⟨fun k => (this k).choose, fun k => (this k).choose_spec⟩
theorem sizeOf_snoc (C : List Mde) (e : Mde) : sizeOf' (C ++ [e]) = sizeOf' C + e.n := by simp [sizeOf']
theorem sizeOf_le (C : List Mde) (h : ∀ e ∈ C, e.n ≤ 200) : sizeOf' C ≤ C.length * 200 := by
  induction C with
  | nil => simp [sizeOf']
  | cons e l ih =>
    have h1 := ih (fun x hx => h x (List.mem_cons_of_mem _ hx))
    have h2 := h e (List.mem_cons_self ..)
    simp only [sizeOf', List.map_cons, List.sum_cons, List.length_cons] at *
    omega
theorem sum_w (w : World) (F : Nat → Prop) (f : Kid → Nat) (hf : ∀ k n, VT w F k n → VT w F k (f k) ∧ f k ≤ n) (C : List Mde) (h : ∀ e ∈ C, OkM w F e) : ((kidsOf C).map f).sum ≤ 31 * sizeOf' C := by
  induction C with
  | nil => simp [kidsOf, sizeOf']
  | cons e l ih =>
    have h1 := ih (fun x hx => h x (List.mem_cons_of_mem _ hx))
    have h2 := h e (List.mem_cons_self ..)
    have h3 := (hf e.k e.h h2.vt).2
    have h4 := h2.le
    simp only [kidsOf, sizeOf', List.map_cons, List.sum_cons] at *
    omega
theorem kids_in {C : List Mde} {k : Kid} (h : k ∈ kidsOf C) : ∃ e ∈ C, e.k = k := by
  obtain ⟨e, he, rfl⟩ := List.mem_map.1 h
  exact ⟨e, he, rfl⟩
theorem own9_0 (kd : Int) (s : ByteArray) (h : kd ≠ 2) : own9 kd s = 1 := by unfold own9; rw [if_neg h]
theorem ok_leaf (w : World) (F : Nat → Prop) (kd ki kb : Int) (kt : ByteArray) (fp : Option Addr) (n : Nat) (hs : kt.size ≤ 30) (h1 : 1 ≤ n) (h2 : n ≤ 200) : OkM w F ⟨⟨kd, ki, kb, kt, none, 0, 0, none, 0, 0, fp, 0⟩, own9 kd kt, n⟩ where
  vt := .leaf ⟨kd, ki, kb, kt, none, 0, 0, none, 0, 0, fp, 0⟩ (by show kt.size ≤ _; omega) rfl rfl rfl (Or.inl rfl)
  le := by
    show own9 kd kt ≤ 31 * n
    unfold own9
    split <;> omega
  pos := h1
  top := h2
theorem ok_tag (w : World) (F : Nat → Prop) (st : ByteArray) (g cap : Nat) (e : Mde) (n : Nat) (hs : st.size ≤ 30) (hF : F g) (he : OkM w F e) (hc : ∀ i u, e.k.cells[i]? = some u → w.cell? ⟨g, i, none⟩ = some u) (h1 : 1 + e.n ≤ n) (h2 : n ≤ 200) (hcap : 1 ≤ cap) :
    OkM w F ⟨⟨5, 0, 0, st, none, 0, 0, some ⟨g, 0, none⟩, 1, cap, none, 0⟩, 1 + e.h, n⟩ where
  vt := by
    have h9 : own9 5 st = 1 := own9_0 5 st (by decide)
    have hl := he.le
    have ht := he.top
    have := VT.kids (w := w) (F := F) ⟨5, 0, 0, st, none, 0, 0, some ⟨g, 0, none⟩, 1, cap, none, 0⟩ g (fun _ => e.h) (fun _ => e.k) (by show st.size ≤ _; omega) rfl hF (by show 1 ≤ _; omega) hcap (by show own9 5 st + (0 + e.h) ≤ _; omega) (Or.inl rfl) (fun j i u hj hi => by
      have hj0 : j = 0 := by simp only at hj; omega
      subst hj0
      rw [Nat.zero_mul, Nat.zero_add]
      exact hc i u hi) (fun j hj => he.vt)
    have hh : own9 5 st + sumH (fun _ => e.h) 1 = 1 + e.h := by rw [h9]; show 1 + (0 + e.h) = _; omega
    rw [← hh]
    exact this
  le := by have := he.le; show 1 + e.h ≤ 31 * n; omega
  pos := by show 1 ≤ n; omega
  top := h2
theorem ok_rec {w w' : World} {F : Nat → Prop} {f : Kid → Nat} (hf : ∀ k n, VT w F k n → VT w F k (f k) ∧ f k ≤ n) (C : List Mde) (hC : ∀ e ∈ C, OkM w F e) (NS : List ByteArray) {aN aK : Option Addr} {cN cK : Nat} (hF : ∀ b, F b → b < w.heap.size) (hb : Below w.heap.size w w')
    (hR : RecOf w' w.heap.size aN cN aK cK (upE (zipK NS (kidsOf C)) (zipK NS (kidsOf C)).length)) (hl : NS.length ≤ 5) (n : Nat) (hn : n = 1 + sizeOf' C) (h2 : n ≤ 200) :
    ∃ F' : Nat → Prop, (∀ b, F b → F' b) ∧ (∀ b, F' b → F b ∨ (w.heap.size ≤ b ∧ b < w'.heap.size)) ∧ OkM w' F' ⟨⟨4, 0, 0, ⟨#[]⟩, aN, (upE (zipK NS (kidsOf C)) (zipK NS (kidsOf C)).length).length, cN, aK, (upE (zipK NS (kidsOf C)) (zipK NS (kidsOf C)).length).length, cK, none, ((1 + sumE f (upE (zipK NS (kidsOf C)) (zipK NS (kidsOf C)).length) : Nat) : Int)⟩, 1 + sumE f (upE (zipK NS (kidsOf C)) (zipK NS (kidsOf C)).length), n⟩ := by
  have hs := sumE_up f (zipK NS (kidsOf C))
  have hs2 := sumE_zip f NS (kidsOf C)
  have hs3 := sum_w w F f hf C hC
  have hlen := upE_len (zipK NS (kidsOf C)) _ (Nat.le_refl _)
  have hzl := zipK_len NS (kidsOf C)
  have hv : ∀ e ∈ upE (zipK NS (kidsOf C)) (zipK NS (kidsOf C)).length, VT w F e.2 (f e.2) := fun e he => by
    have hm := upE_mem _ _ (Nat.le_refl _) e he
    obtain ⟨j, hj⟩ := List.getElem?_of_mem hm
    obtain ⟨x, hx, hxe⟩ := kids_in (List.mem_of_getElem? (zipK_inv NS (kidsOf C) j e hj).2)
    rw [← hxe]
    exact (hf _ _ (hC x hx).vt).1
  obtain ⟨F', f1, f2, f3⟩ := vt_rec hF hb hR (by omega) hv (by omega)
  exact ⟨F', f1, f2, f3, by show 1 + _ ≤ 31 * n; omega, by show 1 ≤ n; omega, h2⟩
/-- one more is laid behind the row of all that were made. -/
theorem out_grow {wc w5 w6 : World} {base R j c4 c5 g4 p4 g5 p5 : Nat} {F F' : Nat → Prop} {a4 a5 : Option Addr} {Z : List Mde} {e : Mde} {o1 o2 : Obj} (hz : Z.length = j) (ho : OutIn wc base F (.slice a4 j c4) (.slice a5 j c5) Z)
    (h1 : w5.ownsRow base 28 8 (.slice (some ⟨g4, 0, none⟩) (j + 1) p4) (j + 1) (cells (kRowK (kidsOf Z)) ++ e.k.cells)) (hg1 : (wc.alloc o1).grownBy w5 (Value.slice a4 j c4).ownBlock) (hw1 : (Value.slice a4 j c4).ownBlock = some g4 ∨ g4 = wc.heap.size + 1)
    (h2 : w6.ownsRow base 3 1 (.slice (some ⟨g5, 0, none⟩) (j + 1) p5) (j + 1) ((Z.map fun e => Value.int .i64 (e.n : Int)) ++ [.int .i64 (e.n : Int)])) (hg2 : (w5.alloc o2).grownBy w6 (Value.slice a5 j c5).ownBlock) (hw2 : (Value.slice a5 j c5).ownBlock = some g5 ∨ g5 = w5.heap.size + 1)
    (he : OkM wc F' e) (hF : ∀ b, F b → F' b) (hF' : ∀ b, F' b → F b ∨ (R ≤ b ∧ b < wc.heap.size)) (h4 : ∀ g, (Value.slice a4 j c4).ownBlock = some g → g < R) (h5 : ∀ g, (Value.slice a5 j c5).ownBlock = some g → g < R) (hR : base ≤ R) :
    OutIn w6 base F' (.slice (some ⟨g4, 0, none⟩) (j + 1) p4) (.slice (some ⟨g5, 0, none⟩) (j + 1) p5) (Z ++ [e]) := by
  have s1 : wc.heap.size + 1 ≤ w5.heap.size := by have := hg1.size; simpa using this
  have s2 : w5.heap.size + 1 ≤ w6.heap.size := by have := hg2.size; simpa using this
  have hlt : ∀ b, F' b → b < wc.heap.size := fun b hb => by
    rcases hF' b hb with h | h
    · exact ho.lt b h
    · exact h.2
  have hn4 : ∀ b, F' b → (Value.slice a4 j c4).ownBlock ≠ some b := fun b hb e' => by
    rcases hF' b hb with h | h
    · exact ho.n4 b h e'
    · have := h4 b e'; omega
  have hn5 : ∀ b, F' b → (Value.slice a5 j c5).ownBlock ≠ some b := fun b hb e' => by
    rcases hF' b hb with h | h
    · exact ho.n5 b h e'
    · have := h5 b e'; omega
  have hsame : ∀ b, F' b → w6.heap[b]? = wc.heap[b]? := fun b hb => by
    have := hlt b hb
    rw [hg2.block b (by simp; omega) (fun e' => hn5 b hb e'.symm), Below.heap_alloc _ _ _ (by omega), hg1.block b (by simp; omega) (fun e' => hn4 b hb e'.symm), Below.heap_alloc _ _ _ this]
  have hs5 : w5.ownsRow base 3 1 (.slice a5 j c5) Z.length (Z.map fun e => Value.int .i64 (e.n : Int)) := (ho.size.alloc o1).kept hg1 (own_two ho.size ho.out (by decide))
  have ho6 : w6.ownsRow base 28 8 (.slice (some ⟨g4, 0, none⟩) (j + 1) p4) (j + 1) (cells (kRowK (kidsOf Z)) ++ e.k.cells) := (h1.alloc o2).kept hg2 (own_two h1 hs5 (by decide))
  have hlen : (Z ++ [e]).length = j + 1 := by simp [hz]
  refine ⟨?_, ?_, fun x hx => ?_, fun b hb => by have := hlt b hb; omega, fun b hb e' => ?_, fun b hb e' => ?_, fun b hb => ?_⟩
  · rw [hlen]
    have : kidsOf (Z ++ [e]) = kidsOf Z ++ [e.k] := by simp [kidsOf]
    rw [this, cells_snoc]
    exact ho6
  · rw [hlen, List.map_append]
    exact h2
  · rcases List.mem_append.1 hx with h | h
    · exact (ho.ok x h).on hF (fun b hb => hsame b (hF b hb))
    · rw [List.mem_singleton.1 h]
      exact he.on (fun _ h => h) hsame
  · have e2 : g4 = b := by simpa [Value.ownBlock] using e'
    rcases hw1 with h | h
    · exact hn4 b hb (by rw [h, e2])
    · have := hlt b hb; omega
  · have e2 : g5 = b := by simpa [Value.ownBlock] using e'
    rcases hw2 with h | h
    · exact hn5 b hb (by rw [h, e2])
    · have := hlt b hb; omega
  · rcases hF' b hb with h | h
    · exact ho.t28 b h
    · omega
end Go.Proofs.YtpefajgllapicaaDoor
