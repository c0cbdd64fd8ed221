/- Walks: Find. -/
import Derived.Test.YtpefajgllapicaaDoorRk
import Derived.Laws.ResultCell
set_option linter.unusedVariables false
namespace Go.Proofs.YtpefajgllapicaaDoor
open Go.RowKit
def ptrM : Value → Nat
  | .pointer (some a) => a.block + 1
  | _ => 0
def iVal (i : Int) : Value := .agg #[.int .i64 0, .int .i64 i, .int .u64 0, .string ⟨#[]⟩, .slice none 0 0, .slice none 0 0, .pointer none, .int .i64 0]
/-- a chain of names and numbers. -/
inductive Chain (w : World) : Value → List (ByteArray × Int) → Prop
  | nil : Chain w (.pointer none) []
  | cons (b : Nat) (s : ByteArray) (i : Int) (q : Option Addr) (L : List (ByteArray × Int)) : w.heap[b]? = some (.cells #[.string s, .int .i64 0, .int .i64 i, .int .u64 0, .string ⟨#[]⟩, .slice none 0 0, .slice none 0 0, .pointer none, .int .i64 0, .pointer q] 43 (0, 0)) → ptrM (.pointer q) ≤ b → Chain w (.pointer q) L → Chain w (.pointer (some ⟨b, 0, none⟩)) ((s, i) :: L)
theorem Chain.on {w w' : World} {p : Value} {L : List (ByteArray × Int)} (h : Chain w p L) (hb : ∀ k, k < w.heap.size → w'.heap[k]? = w.heap[k]?) : Chain w' p L := by
  induction h with
  | nil => exact .nil
  | cons b s i q L h1 h2 _ ih => exact .cons b s i q L (by rw [hb b (Array.getElem?_eq_some_iff.1 h1).1]; exact h1) h2 ih
def look : List (ByteArray × Int) → ByteArray → Option Int
  | [], _ => none
  | e :: l, x => if e.1 = x then some e.2 else look l x
theorem look_cons (e : ByteArray × Int) (l : List (ByteArray × Int)) (x : ByteArray) : look (e :: l) x = if e.1 = x then some e.2 else look l x := rfl
def iOf : Option Int → Int
  | some i => i
  | none => 0
theorem results_28 {fn : Func} {p u : Tmp} (h : fn.results = #[.cell p 28, .tmp u]) (tmps : Array Value) (w : World) (g : Nat) (cs : Array Value) (hp : tmps.getD p undef = .pointer (some ⟨g, 0, none⟩)) (hg : w.heap[g]? = some (.cells cs 28 (0, 0))) (hi : (Tryd.prog.info? 28).map (·.size) = some cs.size) :
    (results fn tmps).run Tryd.prog w = .ok (.tuple #[.agg cs, tmps.getD u undef]) w := by
  rw [results_cell_tmp h, hp]
  simp [asAddr, run_loadVar_row w g 28 28 cs (0, 0) _ hg Tryd.underlying28 rfl hi]
theorem find_any (w : World) (p : Option Addr) (L : List (ByteArray × Int)) (x : ByteArray) (hC : Chain w (.pointer p) L) :
    Calls Tryd.prog 13 #[.pointer p, .string x] w fun e w' => e = .returned (.tuple #[iVal (iOf (look L x)), .bool (look L x).isSome]) ∧ Below w.heap.size w w' := by
  have HC := Lib.hid (hC.on (w' := (w.alloc (.cells #[.int .i64 0, .int .i64 0, .int .u64 0, .string ⟨#[]⟩, .slice none 0 0, .slice none 0 0, .pointer none, .int .i64 0] 28))) (fun k hk => Below.heap_alloc w _ k hk))
  have HCl : Hid (∀ q L', Chain w (.pointer q) L' → Chain (w.alloc (.cells #[.int .i64 0, .int .i64 0, .int .u64 0, .string ⟨#[]⟩, .slice none 0 0, .slice none 0 0, .pointer none, .int .i64 0] 28)) (.pointer q) L') := Lib.hid fun q L' h => h.on (fun k hk => Below.heap_alloc w _ k hk)
  have HB : Hid (∀ o, Below w.heap.size w (w.alloc o)) := Lib.hid fun o => (Below.refl _ _).alloc (Nat.le_refl _) _
  have HN : Hid (∀ o, (w.alloc o).heap[w.heap.size]? = some o) := Lib.hid fun o => heap_alloc_new w o
  have HC0 := Lib.hid hC
  clear hC HC HCl
  go_enter Tryd.func13, Tryd.ntmps13
  go_wp2
  go_loop [0] (fun s0 => ∃ q L', s0 = .pointer q ∧ Hid (Chain w (.pointer q) L') ∧ Hid (look L' x = look L x)) (fun s0 => ptrM s0)
  case atStart => exact ⟨p, L, rfl, HC0, rfl⟩
  case round =>
    obtain ⟨q, L', rfl, HCr, HL⟩ := hrel
    have hc := HCr.out
    cases hc with
    | nil =>
      have hl : look L x = none := HL.out.symm
      have HLN := Lib.hid hl
      clear hl
      go_wp2
      (try simp only [Exit.inBlock, Exit.then])
      refine bodyPost_ret (v := .tuple #[iVal 0, .bool false]) ?_ rfl ?_
      · refine results_28 (fn := Tryd.f13) (p := 4) (u := 5) rfl _ _ w.heap.size #[.int .i64 0, .int .i64 0, .int .u64 0, .string ⟨#[]⟩, .slice none 0 0, .slice none 0 0, .pointer none, .int .i64 0] ?_ ?_ (by kernel_rfl)
        · rfl
        · exact HN.out _
      · rw [HLN.out]
        exact ⟨rfl, HB.out _⟩
    | cons b s i q L'' h1 h2 h3 =>
      have hbl := (Array.getElem?_eq_some_iff.1 h1).1
      rw [← Below.heap_alloc w (.cells #[.int .i64 0, .int .i64 0, .int .u64 0, .string ⟨#[]⟩, .slice none 0 0, .slice none 0 0, .pointer none, .int .i64 0] 28) b hbl] at h1
      have a0 : (w.alloc (.cells #[.int .i64 0, .int .i64 0, .int .u64 0, .string ⟨#[]⟩, .slice none 0 0, .slice none 0 0, .pointer none, .int .i64 0] 28)).cell? ⟨b, 0, none⟩ = some (.string s) := by rw [cell_of_row _ b 0 _ 43 _ h1]; rfl
      have a1 : (w.alloc (.cells #[.int .i64 0, .int .i64 0, .int .u64 0, .string ⟨#[]⟩, .slice none 0 0, .slice none 0 0, .pointer none, .int .i64 0] 28)).cell? ⟨b, 1, none⟩ = some (.int .i64 0) := by rw [cell_of_row _ b 1 _ 43 _ h1]; rfl
      have a2 : (w.alloc (.cells #[.int .i64 0, .int .i64 0, .int .u64 0, .string ⟨#[]⟩, .slice none 0 0, .slice none 0 0, .pointer none, .int .i64 0] 28)).cell? ⟨b, 2, none⟩ = some (.int .i64 i) := by rw [cell_of_row _ b 2 _ 43 _ h1]; rfl
      have a3 : (w.alloc (.cells #[.int .i64 0, .int .i64 0, .int .u64 0, .string ⟨#[]⟩, .slice none 0 0, .slice none 0 0, .pointer none, .int .i64 0] 28)).cell? ⟨b, 3, none⟩ = some (.int .u64 0) := by rw [cell_of_row _ b 3 _ 43 _ h1]; rfl
      have a4 : (w.alloc (.cells #[.int .i64 0, .int .i64 0, .int .u64 0, .string ⟨#[]⟩, .slice none 0 0, .slice none 0 0, .pointer none, .int .i64 0] 28)).cell? ⟨b, 4, none⟩ = some (.string ⟨#[]⟩) := by rw [cell_of_row _ b 4 _ 43 _ h1]; rfl
      have a5 : (w.alloc (.cells #[.int .i64 0, .int .i64 0, .int .u64 0, .string ⟨#[]⟩, .slice none 0 0, .slice none 0 0, .pointer none, .int .i64 0] 28)).cell? ⟨b, 5, none⟩ = some (.slice none 0 0) := by rw [cell_of_row _ b 5 _ 43 _ h1]; rfl
      have a6 : (w.alloc (.cells #[.int .i64 0, .int .i64 0, .int .u64 0, .string ⟨#[]⟩, .slice none 0 0, .slice none 0 0, .pointer none, .int .i64 0] 28)).cell? ⟨b, 6, none⟩ = some (.slice none 0 0) := by rw [cell_of_row _ b 6 _ 43 _ h1]; rfl
      have a7 : (w.alloc (.cells #[.int .i64 0, .int .i64 0, .int .u64 0, .string ⟨#[]⟩, .slice none 0 0, .slice none 0 0, .pointer none, .int .i64 0] 28)).cell? ⟨b, 7, none⟩ = some (.pointer none) := by rw [cell_of_row _ b 7 _ 43 _ h1]; rfl
      have a8 : (w.alloc (.cells #[.int .i64 0, .int .i64 0, .int .u64 0, .string ⟨#[]⟩, .slice none 0 0, .slice none 0 0, .pointer none, .int .i64 0] 28)).cell? ⟨b, 8, none⟩ = some (.int .i64 0) := by rw [cell_of_row _ b 8 _ 43 _ h1]; rfl
      have a9 : (w.alloc (.cells #[.int .i64 0, .int .i64 0, .int .u64 0, .string ⟨#[]⟩, .slice none 0 0, .slice none 0 0, .pointer none, .int .i64 0] 28)).cell? ⟨b, 9, none⟩ = some (.pointer q) := by rw [cell_of_row _ b 9 _ 43 _ h1]; rfl
      have H2 := Lib.hid h2
      have H3 := Lib.hid h3
      have hne : b ≠ w.heap.size := by omega
      clear h1 h2 h3 hbl
      by_cases hs : s = x
      · have hs1 : (s.toList == x.toList) = true := by rw [hs]; simp
        have hl : look L x = some i := by rw [← HL.out, look_cons, if_pos hs]
        have HLN := Lib.hid hl
        clear hl hs
        go_wp2
        (try simp only [Exit.inBlock, Exit.then])
        refine bodyPost_ret (v := .tuple #[iVal i, .bool true]) ?_ rfl ?_
        · refine results_28 (fn := Tryd.f13) (p := 4) (u := 5) rfl _ _ w.heap.size #[.int .i64 0, .int .i64 i, .int .u64 0, .string ⟨#[]⟩, .slice none 0 0, .slice none 0 0, .pointer none, .int .i64 0] ?_ ?_ (by kernel_rfl)
          · rfl
          · exact HN.out _
        · rw [HLN.out]
          exact ⟨rfl, HB.out _⟩
      · have hs1 : (s.toList == x.toList) = false := by
          cases hh : (s.toList == x.toList) with
          | false => rfl
          | true => exact absurd (toList_inj (by simpa using hh)) hs
        have hl : look L'' x = look L x := by rw [← HL.out, look_cons, if_neg hs]
        have HLN := Lib.hid hl
        clear hl hs
        go_wp2
        go_round
        case rel => exact ⟨q, L'', rfl, H3, HLN⟩
        case measure => exact Nat.lt_succ_of_le H2.out
end Go.Proofs.YtpefajgllapicaaDoor
