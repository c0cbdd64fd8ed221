/- Walks: 'at' of a keep, over a bucket of any length; keys that may be nil. -/
import Derived.Test.YtebldhppnacdjabKd
set_option linter.unusedVariables false
namespace Go.Proofs.Ytebldhppnacdjab
open Go.RowKit
/-- a slice of bytes, nil or not (or an empty one at any place), that reads as l. -/
def Row (w : World) (v : Value) (l : List Int) : Prop := Rd w v l ∨ (v = .slice none 0 0 ∧ l = []) ∨ (∃ (a : Addr) (c : Nat), v = .slice (some a) 0 c ∧ l = [])
theorem Row.keep {w w' : World} {v : Value} {l : List Int} (h : Row w v l) (hb : ∀ k, k < w.heap.size → w'.heap[k]? = w.heap[k]?) (hs : w.heap.size ≤ w'.heap.size) : Row w' v l := by
  rcases h with h | h
  · exact Or.inl (h.mono hb hs)
  · exact Or.inr h
theorem Row.below {w w' : World} {v : Value} {l : List Int} (h : Row w v l) (hb : Below w.heap.size w w') : Row w' v l := h.keep hb.block hb.size
theorem Row.alloc {w : World} {v : Value} {l : List Int} (h : Row w v l) (o : Obj) : Row (w.alloc o) v l := h.keep (fun k hk => Below.heap_alloc w o k hk) (by simp)
theorem Row.slice {w : World} {v : Value} {l : List Int} (h : Row w v l) : ∃ a n c, v = .slice a n c := by
  rcases h with ⟨b, off, cap, rfl, -⟩ | ⟨rfl, -⟩ | ⟨a, c, rfl, -⟩
  · exact ⟨_, _, _, rfl⟩
  · exact ⟨_, _, _, rfl⟩
  · exact ⟨_, _, _, rfl⟩
theorem conv_any {w : World} {v : Value} {l : List Int} (h : Row w v l) : (convert 29 9 v).run Try.prog w = .ok (.string (strOfNums l)) w := by
  rcases h with h | ⟨rfl, rfl⟩ | ⟨a, c, rfl, rfl⟩
  · exact conv_bytes h
  · have := run_convert_bytes_nil (P := Try.prog) w 29 5 Try.underlying29 Try.underlying5 0 0 9 Try.underlying9
    exact this
  · have hl : (loadCells a 0).run Try.prog w = .ok (([] : List Int).map (Value.int .u8)).toArray w := run_loadCells_list (P := Try.prog) w a [] (fun j v hj => by simp at hj)
    rw [run_convert_bytes_string w 29 9 5 (some a) 0 c Try.underlying29 Try.underlying5 Try.underlying9, run_bytesToString w a 0 c [] hl]
    rfl
def keyEq (l1 l2 : List Int) : Bool := (strOfNums l1).toList == (strOfNums l2).toList
theorem equal_row (u v : Value) (l1 l2 : List Int) (w : World) (h1 : Row w u l1) (h2 : Row w v l2) : Calls Try.prog 23 #[u, v] w fun e w' => e = .returned (.bool (keyEq l1 l2)) ∧ w = w' := by
  have c1 := conv_any h1
  have c2 := conv_any h2
  obtain ⟨a1, n1, k1, rfl⟩ := h1.slice
  obtain ⟨a2, n2, k2, rfl⟩ := h2.slice
  have hr : Hid (keyEq l1 l2 = ((strOfNums l1).toList == (strOfNums l2).toList)) := Lib.hid rfl
  generalize strOfNums l1 = s1 at *
  generalize strOfNums l2 = s2 at *
  clear h1 h2
  go_enter Try.func23, Try.ntmps23
  go_wp2
  go_ret
  exact ⟨by rw [hr.out]; rfl, rfl⟩
theorem clos_row (w : World) (B : Nat) (u v : Value) (x last : Int) (l1 l2 : List Int) (hB : w.cell? ⟨B, 0, none⟩ = some v) (hBl : B < w.heap.size) (h1 : Row w u l1) (h2 : Row w v l2) :
    Calls Try.prog 22 #[.agg #[u, .int .i64 x, .int .i64 last], .pointer (some ⟨B, 0, none⟩)] w fun e w' => e = .returned (.bool (keyEq l1 l2)) ∧ Below w.heap.size w w' := by
  have H1 := Lib.hid h1
  have H2 := Lib.hid h2
  obtain ⟨a1, n1, k1, rfl⟩ := h1.slice
  obtain ⟨a2, n2, k2, rfl⟩ := h2.slice
  clear h1 h2
  go_enter Try.func22, Try.ntmps22
  go_wp2_with (go_at_call 23; ((with_reducible refine (equal_row _ _ l1 l2 _ (H1.out.alloc _) (H2.out.alloc _)).mono ?_); rintro e w' ⟨rfl, rfl⟩))
  go_ret
  exact ⟨rfl, (Below.refl _ _).alloc (Nat.le_refl _) _⟩
/-- an entry: its key's slice, what that reads as, what was found, when. -/
structure Ent where
  kv : Value
  kb : List Int
  x : Int
  last : Int
def Ent.cells (e : Ent) : List Value := [e.kv, .int .i64 e.x, .int .i64 e.last]
/-- where a key is. -/
def idx (l : List Int) : List Ent → Int
  | [] => -1
  | e :: E => if keyEq e.kb l then 0 else if idx l E < 0 then -1 else idx l E + 1
/-- where it is, from k on. -/
theorem idx_drop (l : List Int) : ∀ (E : List Ent) (k : Nat) (e : Ent), E[k]? = some e → (∀ j e', j < k → E[j]? = some e' → keyEq e'.kb l = false) → keyEq e.kb l = true → idx l E = k
  | [], k, e, h, _, _ => by simp at h
  | a :: E, 0, e, h, _, he => by
    simp at h; subst h
    simp [idx, he]
  | a :: E, k + 1, e, h, hn, he => by
    have h0 := hn 0 a (by omega) rfl
    have := idx_drop l E k e (by simpa using h) (fun j e' hj hj' => hn (j + 1) e' (by omega) (by simpa using hj')) he
    unfold idx
    rw [h0, this]
    simp
    omega
theorem idx_none (l : List Int) : ∀ (E : List Ent), (∀ (j : Nat) (e' : Ent), E[j]? = some e' → keyEq e'.kb l = false) → idx l E = -1
  | [], _ => rfl
  | a :: E, hn => by
    have h0 := hn 0 a rfl
    have := idx_none l E (fun j e' hj => hn (j + 1) e' (by simpa using hj))
    unfold idx
    rw [h0, this]
    simp
/-- a bucket: nil, or a row of entries. -/
def Bucket (w : World) (v : Value) (E : List Ent) : Prop :=
  (v = .slice none 0 0 ∧ E = []) ∨ ∃ g cap, v = .slice (some ⟨g, 0, none⟩) E.length cap ∧ g < w.heap.size ∧ ∀ k e, E[k]? = some e → w.cell? ⟨g, k * 3, none⟩ = some e.kv ∧ w.cell? ⟨g, k * 3 + 1, none⟩ = some (.int .i64 e.x) ∧ w.cell? ⟨g, k * 3 + 2, none⟩ = some (.int .i64 e.last) ∧ Row w e.kv e.kb
set_option maxRecDepth 20000 in
set_option maxHeartbeats 1000000 in
theorem at_any (w : World) (v key : Value) (l : List Int) (E : List Ent) (hE : E.length ≤ 100000) (hv : Bucket w v E) (hk : Row w key l) : Calls Try.prog 18 #[v, key] w fun e w' => e = .returned (.int .i64 (idx l E)) ∧ Below w.heap.size w w' := by
  have HK := Lib.hid hk
  obtain ⟨a1, n1, k1, rfl⟩ := hk.slice
  clear hk
  have hcl : (w.alloc (.cells #[.slice a1 n1 k1] 29)).cell? ⟨w.heap.size, 0, none⟩ = some (.slice a1 n1 k1) := cell_of_one (heap_alloc_new w _)
  have HCl := Lib.hid hcl
  clear hcl
  rcases hv with ⟨rfl, rfl⟩ | ⟨g, cap, rfl, hg, hcells⟩
  · go_enter Try.func18, Try.ntmps18
    go_wp2
    go_loopw [8] (fun i wr => i = .int .i64 0 ∧ wr = w.alloc (.cells #[.slice a1 n1 k1] 29)) (fun _ _ => 0)
    case atStart => exact ⟨rfl, rfl⟩
    case round =>
      obtain ⟨rfl, rfl⟩ := hrel
      go_wp2
      go_ret
      exact ⟨rfl, (Below.refl _ _).alloc (Nat.le_refl _) _⟩
  · have HC := Lib.hid hcells
    clear hcells
    obtain ⟨N, hN⟩ : ∃ N, N = E.length := ⟨_, rfl⟩
    rw [← hN] at hE ⊢
    have HN := Lib.hid hN
    clear hN
    go_enter Try.func18, Try.ntmps18
    go_wp2
    go_loopw [8] (fun i wr => ∃ k : Nat, k ≤ N ∧ i = .int .i64 (k : Int) ∧ Below w.heap.size w wr ∧ Below (w.heap.size + 1) (w.alloc (.cells #[.slice a1 n1 k1] 29)) wr ∧ Hid (∀ j e', j < k → E[j]? = some e' → keyEq e'.kb l = false)) (fun i _ => N - (intOf i).toNat)
    case atStart => exact ⟨0, by omega, rfl, (Below.refl _ _).alloc (Nat.le_refl _) _, Below.refl _ _, Lib.hid (fun j e' h => by omega)⟩
    case round =>
      obtain ⟨k, hk, rfl, hb, hb1, HF⟩ := hrel
      by_cases hlt : k < N
      · obtain ⟨e, he⟩ : ∃ e, E[k]? = some e := ⟨E[k]'(by rw [← HN.out]; exact hlt), List.getElem?_eq_getElem _⟩
        obtain ⟨c0, c1, c2, hrow⟩ := HC.out k e he
        have d0 : wr.cell? ⟨g, k * 3, none⟩ = some e.kv := by rw [← c0]; exact hb.cell (p := ⟨g, k * 3, none⟩) hg
        have d1 : wr.cell? ⟨g, k * 3 + 1, none⟩ = some (.int .i64 e.x) := by rw [← c1]; exact hb.cell (p := ⟨g, k * 3 + 1, none⟩) hg
        have d2 : wr.cell? ⟨g, k * 3 + 2, none⟩ = some (.int .i64 e.last) := by rw [← c2]; exact hb.cell (p := ⟨g, k * 3 + 2, none⟩) hg
        have hcl2 : wr.cell? ⟨w.heap.size, 0, none⟩ = some (.slice a1 n1 k1) := by rw [← HCl.out]; exact hb1.cell (p := ⟨w.heap.size, 0, none⟩) (by simp)
        have hsz : w.heap.size < wr.heap.size := by have := hb1.size; simp at this; omega
        have C := Lib.hid (clos_row wr w.heap.size e.kv _ e.x e.last e.kb l hcl2 hsz (hrow.below hb) (HK.out.below hb))
        have HE := Lib.hid he
        obtain ⟨r, hr⟩ : ∃ r, keyEq e.kb l = r := ⟨_, rfl⟩
        have HR := Lib.hid hr
        rw [hr] at C
        clear c0 c1 c2 hrow hcl2 he hr
        cases r
        · have HF2 : Hid (∀ j e', j < k + 1 → E[j]? = some e' → keyEq e'.kb l = false) := Lib.hid (fun j e' hj hj' => by
            by_cases h : j = k
            · subst h; rw [HE.out] at hj'; cases hj'; exact HR.out
            · exact HF.out j e' (by omega) hj')
          go_wp2_with (go_at_call 22; ((with_reducible refine C.out.mono ?_); rintro e2 w2 ⟨rfl, hbc⟩))
          have s1 := hb.size
          have s2 := hb1.size
          simp only [World.size_alloc] at s2
          go_roundw
          case rel => exact ⟨k + 1, by omega, by go_num, hb.trans (hbc.mono s1), hb1.trans (hbc.mono s2), HF2⟩
          case measure => simp [intOf]; omega
        · have HI := Lib.hid (idx_drop l E k e HE.out HF.out HR.out)
          go_wp2_with (go_at_call 22; ((with_reducible refine C.out.mono ?_); rintro e2 w2 ⟨rfl, hbc⟩))
          go_ret
          exact ⟨by rw [HI.out]; rfl, hb.trans (hbc.mono hb.size)⟩
      · have HI := Lib.hid (idx_none l E (fun j e' hj => HF.out j e' (by have := HN.out; have := (List.getElem?_eq_some_iff.1 hj).1; omega) hj))
        go_wp2
        go_ret
        exact ⟨by rw [HI.out]; rfl, hb⟩
end Go.Proofs.Ytebldhppnacdjab
