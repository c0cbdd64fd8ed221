/- Walks: strings.HasPrefix, strings.IndexByte, lexer.blank, lexer.one. Walks: lexer.one at a word, a name, a sign. Walks: runes.Bad over bytes below 128. Walks: lexer.Lex of a text whose tokens are told. Walks: tree.cloneType. -/
import Derived.Test.YtifilhkkgkihpaaGreatDoorAs02
import Derived.Lib.Bytealg
import Derived.Laws.Externs
import Derived.Test.YtifilhkkgkihpaaGreatDoorAs05
import Derived.RangeFuncFrom
import Derived.RangeFuncNested
import Derived.RangeFuncBound
import Derived.RangeFuncCalls
import Derived.RangeFuncLeaves
import Derived.RangeFuncBox
import Derived.Shelf.Abstract
import Derived.Shelf.RegionOpen
import Derived.WalkKit
import Derived.OwnWalkIn
import Derived.TacticsInMore
import Derived.LoopNIn
import Derived.LoopIn
import Derived.Test.YtifilhkkgkihpaaGreatDoorAs09
import Derived.Test.YtifilhkkgkihpaaGreatDoorAs08
import Derived.Lib.SlBytesRow
import Derived.Deep.AppendLies
import Derived.Test.YtifilhkkgkihpaaGreatDoorAs12
set_option linter.unusedSimpArgs false
set_option linter.unusedVariables false
set_option linter.unusedSimpArgs false
set_option linter.unusedVariables false
namespace Go.Proofs.YtifilhkkgkihpaaGreatDoor
open Go.RowKit
/-- does s begin with p? -/
def preB (s p : ByteArray) : Bool := decide (p.size ≤ s.size) && ((s.extract 0 p.size).toList == p.toList)
set_option maxRecDepth 20000 in
set_option maxHeartbeats 1000000 in
theorem pre_250 (s p : ByteArray) (w : World) (hs : s.size ≤ 1000000) (hp : p.size ≤ 1000000) :
    Calls Tryz.prog 250 #[.string s, .string p] w fun e w' => e = .returned (.bool (preB s p)) ∧ w = w' := by
  unfold preB
  by_cases h : p.size ≤ s.size
  · go_enter Tryz.func250, Tryz.ntmps250
    go_wp2
    go_ret
    simp [h]
  · go_enter Tryz.func250, Tryz.ntmps250
    go_wp2
    go_ret
    simp [h]
theorem pre_any (s p : ByteArray) (w : World) (hs : s.size ≤ 1000000) (hp : p.size ≤ 1000000) :
    Calls Tryz.prog 209 #[.string s, .string p] w fun e w' => e = .returned (.bool (preB s p)) ∧ w = w' := by
  go_enter Tryz.func209, Tryz.ntmps209
  go_wp2_with (go_at_call 250; (with_reducible refine (pre_250 s p _ hs hp).mono ?_); rintro e w ⟨rfl, rfl⟩)
  go_ret
  exact ⟨rfl, rfl⟩
set_option maxRecDepth 100000 in
theorem idx_249 (s : ByteArray) (c : Int) (w : World) :
    Calls Tryz.prog 249 #[.string s, .int .u8 c] w fun e w' => e = .returned (.int .i64 (Lib.indexByte s.data.toList c.toNat.toUInt8)) ∧ w = w' := by
  go_enter Tryz.func249, Tryz.ntmps249
  go_wp2
  rw [run_callFunc_extern Tryz.func262 (by kernel_rfl) (by kernel_rfl) (by kernel_rfl) (e := Extern.BytealgIndexByte.indexByte) (by kernel_rfl), Lib.run_indexByteString]
  simp only [Result.andThen]
  rw [Oper.upon_value]
  go_wp2
  go_ret
  exact ⟨rfl, rfl⟩
theorem idx_any (s : ByteArray) (c : Int) (w : World) :
    Calls Tryz.prog 208 #[.string s, .int .u8 c] w fun e w' => e = .returned (.int .i64 (Lib.indexByte s.data.toList c.toNat.toUInt8)) ∧ w = w' := by
  go_enter Tryz.func208, Tryz.ntmps208
  go_wp2_with (go_at_call 249; (with_reducible refine (idx_249 s c _).mono ?_); rintro e w ⟨rfl, rfl⟩)
  go_ret
  exact ⟨rfl, rfl⟩
def blankS : ByteArray := ⟨#[32, 9, 10, 13]⟩
/-- n blanks stand ahead in s, and no more. -/
structure Blank (s : ByteArray) (n : Nat) : Prop where
  le : n ≤ s.size
  sp : ∀ (i : Nat) (h : i < s.size), i < n → s[i] = 32
  no : ∀ h : n < s.size, Lib.indexByte blankS.data.toList (s[n].toNat : Int).toNat.toUInt8 = -1 ∧ preB (s.extract n s.size) ⟨#[47, 47]⟩ = false
theorem blank_32 : Lib.indexByte blankS.data.toList ((32 : UInt8).toNat : Int).toNat.toUInt8 = 0 := by decide
set_option maxRecDepth 20000 in
set_option maxHeartbeats 2000000 in
theorem blank_any (s : ByteArray) (n : Nat) (w : World) (hs : s.size ≤ 100000) (hb : Blank s n) :
    Calls Tryz.prog 161 #[.string s] w fun e w' => e = .returned (.int .i64 (n : Int)) ∧ w = w' := by
  have HB := Lib.hid hb
  clear hb
  go_enter Tryz.func161, Tryz.ntmps161
  go_wp2
  go_loop [3] (fun s3 => ∃ k : Nat, k ≤ n ∧ s3 = .int .i64 (k : Int)) (fun s3 => n + 1 - (intOf s3).toNat)
  case atStart => exact ⟨0, Nat.zero_le _, rfl⟩
  case round =>
    obtain ⟨k, hk, rfl⟩ := hrel
    have hns := HB.out.le
    have hwk : IntKind.i64.wrap ((k : Int) + 1) = (k : Int) + 1 := by rw [IntKind.wrap_i64]; omega
    by_cases hlt : k < s.size
    · have hlt2 : (k : Int) < s.size := by omega
      by_cases hkn : k < n
      · have HI : Hid (Lib.indexByte (ByteArray.mk #[32, 9, 10, 13]).data.toList (s[k].toNat : Int).toNat.toUInt8 = 0) := Lib.hid (by rw [HB.out.sp k hlt hkn]; exact blank_32)
        go_wp2_with (go_at_call 208; ((with_reducible refine (idx_any _ _ _).mono ?_); rintro e w ⟨rfl, rfl⟩; rw [HI.out]))
        go_round
        case rel => exact ⟨k + 1, by omega, by go_num⟩
        case measure => simp [intOf]; omega
      · obtain rfl : k = n := by omega
        obtain ⟨h1, h2⟩ := HB.out.no hlt
        have HI : Hid (Lib.indexByte (ByteArray.mk #[32, 9, 10, 13]).data.toList (s[k].toNat : Int).toNat.toUInt8 = -1) := Lib.hid h1
        have HP := Lib.hid h2
        have hsz : (s.extract k s.size).size ≤ 1000000 := by simp; omega
        clear h1 h2
        go_wp2_with (first | (go_at_call 208; ((with_reducible refine (idx_any _ _ _).mono ?_); rintro e w ⟨rfl, rfl⟩; rw [HI.out])) | (go_at_call 209; ((with_reducible refine (pre_any _ _ _ hsz (by decide)).mono ?_); rintro e w ⟨rfl, rfl⟩; rw [HP.out])))
        go_ret
        exact ⟨rfl, rfl⟩
    · have hlt2 : ¬ (k : Int) < s.size := by omega
      obtain rfl : k = n := by omega
      go_wp2
      go_ret
      exact ⟨rfl, rfl⟩
end Go.Proofs.YtifilhkkgkihpaaGreatDoor
set_option linter.unusedSimpArgs false
set_option linter.unusedVariables false
namespace Go.Proofs.YtifilhkkgkihpaaGreatDoor
open Go.RowKit
def signL : List ByteArray := [⟨#[61, 62]⟩, ⟨#[45, 62]⟩, ⟨#[61, 61]⟩, ⟨#[46, 46]⟩, ⟨#[43, 46]⟩, ⟨#[45, 46]⟩, ⟨#[42, 46]⟩, ⟨#[47, 46]⟩, ⟨#[60, 46]⟩, ⟨#[40]⟩, ⟨#[41]⟩, ⟨#[123]⟩, ⟨#[125]⟩, ⟨#[91]⟩, ⟨#[93]⟩, ⟨#[44]⟩, ⟨#[59]⟩, ⟨#[58]⟩, ⟨#[46]⟩, ⟨#[61]⟩, ⟨#[124]⟩, ⟨#[43]⟩, ⟨#[45]⟩, ⟨#[42]⟩, ⟨#[47]⟩, ⟨#[60]⟩, ⟨#[94]⟩]
set_option maxRecDepth 20000 in
set_option maxHeartbeats 4000000 in
theorem signs_any (w : World) : Calls Tryz.prog 217 #[] w fun e w' => e = .returned (.slice (some ⟨w.heap.size, 0, none⟩) 27 27) ∧ (∀ k s, signL[k]? = some s → w'.cell? ⟨w.heap.size, 0 + k, none⟩ = some (.string s)) ∧ Below w.heap.size w w' := by
  have hn := heap_alloc_new w (.cells #[.string ⟨#[61, 62]⟩, .string ⟨#[45, 62]⟩, .string ⟨#[61, 61]⟩, .string ⟨#[46, 46]⟩, .string ⟨#[43, 46]⟩, .string ⟨#[45, 46]⟩, .string ⟨#[42, 46]⟩, .string ⟨#[47, 46]⟩, .string ⟨#[60, 46]⟩, .string ⟨#[40]⟩, .string ⟨#[41]⟩, .string ⟨#[123]⟩, .string ⟨#[125]⟩, .string ⟨#[91]⟩, .string ⟨#[93]⟩, .string ⟨#[44]⟩, .string ⟨#[59]⟩, .string ⟨#[58]⟩, .string ⟨#[46]⟩, .string ⟨#[61]⟩, .string ⟨#[124]⟩, .string ⟨#[43]⟩, .string ⟨#[45]⟩, .string ⟨#[42]⟩, .string ⟨#[47]⟩, .string ⟨#[60]⟩, .string ⟨#[94]⟩] 9)
  have HN := Lib.hid hn
  have HB : Hid (Below w.heap.size w (w.alloc (.cells #[.string ⟨#[61, 62]⟩, .string ⟨#[45, 62]⟩, .string ⟨#[61, 61]⟩, .string ⟨#[46, 46]⟩, .string ⟨#[43, 46]⟩, .string ⟨#[45, 46]⟩, .string ⟨#[42, 46]⟩, .string ⟨#[47, 46]⟩, .string ⟨#[60, 46]⟩, .string ⟨#[40]⟩, .string ⟨#[41]⟩, .string ⟨#[123]⟩, .string ⟨#[125]⟩, .string ⟨#[91]⟩, .string ⟨#[93]⟩, .string ⟨#[44]⟩, .string ⟨#[59]⟩, .string ⟨#[58]⟩, .string ⟨#[46]⟩, .string ⟨#[61]⟩, .string ⟨#[124]⟩, .string ⟨#[43]⟩, .string ⟨#[45]⟩, .string ⟨#[42]⟩, .string ⟨#[47]⟩, .string ⟨#[60]⟩, .string ⟨#[94]⟩] 9))) := Lib.hid ((Below.refl _ _).alloc (Nat.le_refl _) _)
  clear hn
  go_enter Tryz.func217, Tryz.ntmps217
  go_wp2
  go_ret
  refine ⟨rfl, fun k s hs => ?_, HB.out⟩
  rw [cell_of_row _ _ _ _ 9 _ HN.out]
  have : (#[.string ⟨#[61, 62]⟩, .string ⟨#[45, 62]⟩, .string ⟨#[61, 61]⟩, .string ⟨#[46, 46]⟩, .string ⟨#[43, 46]⟩, .string ⟨#[45, 46]⟩, .string ⟨#[42, 46]⟩, .string ⟨#[47, 46]⟩, .string ⟨#[60, 46]⟩, .string ⟨#[40]⟩, .string ⟨#[41]⟩, .string ⟨#[123]⟩, .string ⟨#[125]⟩, .string ⟨#[91]⟩, .string ⟨#[93]⟩, .string ⟨#[44]⟩, .string ⟨#[59]⟩, .string ⟨#[58]⟩, .string ⟨#[46]⟩, .string ⟨#[61]⟩, .string ⟨#[124]⟩, .string ⟨#[43]⟩, .string ⟨#[45]⟩, .string ⟨#[42]⟩, .string ⟨#[47]⟩, .string ⟨#[60]⟩, .string ⟨#[94]⟩] : Array Value) = (signL.map Value.string).toArray := rfl
  rw [this]
  simp [hs]
def highB (c : UInt8) : Bool := 65 ≤ c && c ≤ 90
theorem highB_eq (c : UInt8) : highB c = (decide (65 ≤ (c.toNat : Int)) && decide ((c.toNat : Int) ≤ 90)) := by
  unfold highB
  rw [Bool.eq_iff_iff]
  simp [UInt8.le_iff_toNat_le]
  omega
theorem high_any (c : UInt8) (w : World) : Calls Tryz.prog 212 #[.int .u8 (c.toNat : Int)] w fun e w' => e = .returned (.bool (highB c)) ∧ w = w' := by
  rw [highB_eq]
  by_cases h1 : 65 ≤ (c.toNat : Int)
  · go_enter Tryz.func212, Tryz.ntmps212
    go_wp2
    go_ret
    simp [h1]
  · go_enter Tryz.func212, Tryz.ntmps212
    go_wp2
    go_ret
    simp [h1]
    omega
theorem results_201 {fn : Func} {p u : Tmp} (h : fn.results = #[.cell p 201, .tmp u]) (tmps : Array Value) (w : World) (g : Nat) (cs : Array Value) (hp : tmps.getD p undef = .pointer (some ⟨g, 0, none⟩)) (hg : w.heap[g]? = some (.cells cs 201 (0, 0))) (hs : cs.size = 3) :
    (results fn tmps).run Tryz.prog w = .ok (.tuple #[.agg cs, tmps.getD u undef]) w := by
  have hi2 : (Tryz.prog.info? 201).map (·.size) = some cs.size := by rw [hs]; kernel_rfl
  rw [results_cell_tmp h, hp]
  simp [asAddr, run_loadVar_row w g 201 201 cs (0, 0) _ hg Tryz.underlying201 rfl hi2]
theorem below_rowP {n : Nat} {w w' : World} (hb : Below n w w') {B : Nat} (hB : n ≤ B) {cs : Array Value} : Below n w (w'.setRow B cs) :=
  ⟨hb.os, hb.tape, hb.output, by rw [setRow_size]; exact hb.size, fun k hk => (setRow_other _ _ _ _ (by omega)).trans (hb.block k hk)⟩
def OnePost (w : World) (kd : Int) (tx : ByteArray) (n : Nat) (e : Ending) (w' : World) : Prop := e = .returned (.tuple #[.agg #[.int .i64 kd, .string tx, .int .i64 0], .int .i64 (n : Int)]) ∧ Below w.heap.size w w'
set_option maxRecDepth 20000 in
set_option maxHeartbeats 4000000 in
theorem one_word (s : ByteArray) (n : Nat) (w : World) (hs : s.size ≤ 100000) (h0 : 0 < s.size) (hf : preB s ⟨#[102, 39]⟩ = false) (hl : lowB s[0] = true) (hr : runL s.data.toList = n) (hn : n ≤ s.size) (hw : isWordL (s.extract 0 n).data.toList = true) :
    Calls Tryz.prog 162 #[.string s] w (OnePost w 7 (s.extract 0 n) n) := by
  have HF := Lib.hid hf
  have HL := Lib.hid hl
  have HR := Lib.hid hr
  have HW := Lib.hid hw
  have hn2 : (n : Int) ≤ s.size := by omega
  have HX : Hid ((w.alloc (.cells #[.int .i64 0, .string ⟨#[]⟩, .int .i64 0] 201)).heap[w.heap.size]? = some (.cells #[.int .i64 0, .string ⟨#[]⟩, .int .i64 0] 201 (0, 0))) := Lib.hid (heap_alloc_new w _)
  have HB : Hid (Below w.heap.size w (w.alloc (.cells #[.int .i64 0, .string ⟨#[]⟩, .int .i64 0] 201))) := Lib.hid ((Below.refl _ _).alloc (Nat.le_refl _) _)
  clear hf hl hr hw
  go_enter Tryz.func162, Tryz.ntmps162
  go_upto_region 1 with (fail)
  generalize (w.alloc (.cells #[.int .i64 0, .string ⟨#[]⟩, .int .i64 0] 201)) = w1 at *
  have HL1 : Hid (w.heap.size < w1.heap.size) := Lib.hid (Array.getElem?_eq_some_iff.1 HX.out).1
  have hsz : s.size ≤ 1000000 := by omega
  go_wp2_with (first | (go_at_call 209; ((with_reducible refine (pre_any _ _ _ hsz (by decide)).mono ?_); rintro e w1 ⟨rfl, rfl⟩; rw [HF.out])) | (go_at_call 199; ((with_reducible refine (low_any _ _).mono ?_); rintro e w1 ⟨rfl, rfl⟩; rw [HL.out])) | (go_at_call 200; ((with_reducible refine (run_any _ hs _).mono ?_); rintro e w1 ⟨rfl, rfl⟩; rw [HR.out])) | (go_at_call 202; ((with_reducible refine (isword_any _ _).mono ?_); rintro e w3 ⟨rfl, hb3⟩; rw [HW.out]; have HB3 := Lib.hid hb3; have HX3 := Lib.hid ((hb3.block _ HL1.out).trans HX.out); clear hb3)) | (refine wpList_store_row rfl 201 _ _ rfl w.heap.size _ rfl rfl 201 _ HX3.out (by kernel_rfl) rfl (by simp [Value.oneCell']) ?_))
  (try simp only [Exit.inBlock, Exit.then])
  exact bodyPost_ret (v := .tuple #[.agg #[.int .i64 7, .string (s.extract 0 n), .int .i64 0], .int .i64 (n : Int)]) (results_201 (fn := Tryz.f162) (p := 2) (u := 3) rfl _ _ w.heap.size _ rfl (setRow_heap _ _ _ _ _ _ HX3.out) rfl) rfl
    ⟨rfl, below_rowP (HB.out.trans (HB3.out.mono HB.out.size)) (Nat.le_refl _)⟩
set_option maxRecDepth 20000 in
set_option maxHeartbeats 4000000 in
theorem one_sign (s x : ByteArray) (i : Nat) (w : World) (hs : s.size ≤ 100000) (h0 : 0 < s.size) (hf : preB s ⟨#[102, 39]⟩ = false) (hl : lowB s[0] = false) (hh : highB s[0] = false) (hd : digB s[0] = false) (h35 : ((s[0].toNat : Int) == 35) = false) (h34 : ((s[0].toNat : Int) == 34) = false) (hx : signL[i]? = some x) (hp : preB s x = true) (hno : ∀ j y, j < i → signL[j]? = some y → preB s y = false) :
    Calls Tryz.prog 162 #[.string s] w (OnePost w 8 x x.size) := by
  have HF := Lib.hid hf
  have HL := Lib.hid hl
  have HH := Lib.hid hh
  have HD := Lib.hid hd
  have HXI := Lib.hid hx
  have HP := Lib.hid hp
  have HNO := Lib.hid hno
  have hi27 : i < 27 := (List.getElem?_eq_some_iff.1 hx).1
  have HSM : Hid (∀ y ∈ signL, y.size ≤ 2) := Lib.hid (by decide)
  have HX : Hid ((w.alloc (.cells #[.int .i64 0, .string ⟨#[]⟩, .int .i64 0] 201)).heap[w.heap.size]? = some (.cells #[.int .i64 0, .string ⟨#[]⟩, .int .i64 0] 201 (0, 0))) := Lib.hid (heap_alloc_new w _)
  have HB : Hid (Below w.heap.size w (w.alloc (.cells #[.int .i64 0, .string ⟨#[]⟩, .int .i64 0] 201))) := Lib.hid ((Below.refl _ _).alloc (Nat.le_refl _) _)
  clear hf hl hh hd hx hp hno
  go_enter Tryz.func162, Tryz.ntmps162
  go_upto_region 1 with (fail)
  generalize (w.alloc (.cells #[.int .i64 0, .string ⟨#[]⟩, .int .i64 0] 201)) = w1 at *
  have HL1 : Hid (w.heap.size < w1.heap.size) := Lib.hid (Array.getElem?_eq_some_iff.1 HX.out).1
  have hsz : s.size ≤ 1000000 := by omega
  go_upto_region 29 with (first | (go_at_call 209; ((with_reducible refine (pre_any _ _ _ hsz (by decide)).mono ?_); rintro e w1 ⟨rfl, rfl⟩; rw [HF.out])) | (go_at_call 199; ((with_reducible refine (low_any _ _).mono ?_); rintro e w1 ⟨rfl, rfl⟩; rw [HL.out])) | (go_at_call 212; ((with_reducible refine (high_any _ _).mono ?_); rintro e w1 ⟨rfl, rfl⟩; rw [HH.out])) | (go_at_call 214; ((with_reducible refine (dig_any _ _).mono ?_); rintro e w1 ⟨rfl, rfl⟩; rw [HD.out])) | (go_at_call 217; ((with_reducible refine (signs_any _).mono ?_); rintro e w3 ⟨rfl, hc3, hb3⟩; have HC3 := Lib.hid hc3; have HB3 := Lib.hid hb3; have HX3 := Lib.hid ((hb3.block _ HL1.out).trans HX.out); clear hc3 hb3)))
  clear h35 h34
  go_loop [117] (fun s117 => ∃ j : Nat, j ≤ i ∧ s117 = .int .i64 (j : Int)) (fun s117 => i + 1 - (intOf s117).toNat)
  case atStart => exact ⟨0, Nat.zero_le _, rfl⟩
  case round =>
    obtain ⟨j, hj, rfl⟩ := hrel
    have hwj : IntKind.i64.wrap ((j : Int) + 1) = (j : Int) + 1 := by rw [IntKind.wrap_i64]; omega
    have hj27 : (j : Int) < 27 := by omega
    obtain ⟨y, hy⟩ : ∃ y, signL[j]? = some y := ⟨_, List.getElem?_eq_getElem (show j < signL.length by show j < 27; omega)⟩
    have c0 : w3.cell? ⟨w1.heap.size, j, none⟩ = some (.string y) := by
      have := HC3.out j y hy
      rwa [Nat.zero_add] at this
    have hy2 := HSM.out y (List.mem_of_getElem? hy)
    have hy3 : y.size ≤ 1000000 := by omega
    by_cases hji : j < i
    · have HPJ := Lib.hid (HNO.out j y hji hy)
      clear hy
      go_wp2_with (go_at_call 209; ((with_reducible refine (pre_any _ _ _ hsz hy3).mono ?_); rintro e w3 ⟨rfl, rfl⟩; rw [HPJ.out]))
      go_round
      case rel => exact ⟨j + 1, by omega, by go_num⟩
      case measure => simp [intOf]; omega
    · obtain rfl : j = i := by omega
      obtain rfl : y = x := Option.some.inj (hy.symm.trans HXI.out)
      clear hy
      go_wp2_with (first | (go_at_call 209; ((with_reducible refine (pre_any _ _ _ hsz hy3).mono ?_); rintro e w3 ⟨rfl, rfl⟩; rw [HP.out])) | (refine wpList_store_row rfl 201 _ _ rfl w.heap.size _ rfl rfl 201 _ HX3.out (by kernel_rfl) rfl (by simp [Value.oneCell']) ?_))
      (try simp only [Exit.inBlock, Exit.then])
      exact bodyPost_ret (v := .tuple #[.agg #[.int .i64 8, .string y, .int .i64 0], .int .i64 (y.size : Int)]) (results_201 (fn := Tryz.f162) (p := 2) (u := 3) rfl _ _ w.heap.size _ rfl (setRow_heap _ _ _ _ _ _ HX3.out) rfl) rfl
        ⟨rfl, below_rowP (HB.out.trans (HB3.out.mono HB.out.size)) (Nat.le_refl _)⟩
end Go.Proofs.YtifilhkkgkihpaaGreatDoor
set_option linter.unusedSimpArgs false
set_option linter.unusedVariables false
namespace Go.Proofs.YtifilhkkgkihpaaGreatDoor
open Go.RowKit Go.Shelf
attribute [local go_sem] Oper.semAt_some
theorem first_asc (w : World) (b o n c v : Nat) (hn : 0 < n) (hv : v < 128) (hc : w.cell? ⟨b, o, none⟩ = some (.int .u8 (v : Int))) :
    Calls Tryz.prog 248 #[.slice (some ⟨b, o, none⟩) n c] w fun e w' => e = .returned (.tuple #[.int .i32 (v : Int), .int .i64 1]) ∧ w = w' := by
  have hn2 : ((n : Int) == 0) = false := by simpa using (by omega : n ≠ 0)
  have hv2 : (v : Int) < 128 := by omega
  have hv0 : (0 : Int) ≤ v := by omega
  go_enter Tryz.func248, Tryz.ntmps248
  go_wp2
  go_ret2
  exact ⟨rfl, rfl⟩
theorem size_asc (w : World) (v : Nat) (hv : v < 128) :
    Calls Tryz.prog 207 #[.int .i32 (v : Int)] w fun e w' => e = .returned (.int .i64 1) ∧ w = w' := by
  have hv2 : (v : Int) < 128 := by omega
  go_enter Tryz.func207, Tryz.ntmps207
  go_wp2
  go_ret
  exact ⟨rfl, rfl⟩
/-- a place, and the sign that stands there. -/
abbrev Spot := { x : Nat × Nat // x.1 ≤ 100000 ∧ x.2 < 128 }
abbrev encS (x : Spot) : Array Value := #[.int .i64 (x.1.1 : Int), .int .i32 (x.1.2 : Int)]
def spots (f : Nat → Spot) (k : Nat) : List Spot := (List.range k).map f
theorem spots_succ (f : Nat → Spot) (k : Nat) : spots f (k + 1) = spots f k ++ [f k] := by simp [spots, List.range_succ]
/-- the box of the bytes, and the bytes, lie as they lay. -/
def KeepB (Bs b : Nat) (W W' : World) : Prop := W.heap.size ≤ W'.heap.size ∧ W'.heap[Bs]? = W.heap[Bs]? ∧ W'.heap[b]? = W.heap[b]?
theorem KeepB.trans {Bs b : Nat} {A B C : World} (h : KeepB Bs b A B) (k : KeepB Bs b B C) : KeepB Bs b A C := ⟨Nat.le_trans h.1 k.1, k.2.1.trans h.2.1, k.2.2.trans h.2.2⟩
set_option maxRecDepth 100000 in
set_option maxHeartbeats 4000000 in
theorem all1_in (l Bs b o n c : Nat) (f : Nat → Spot) (hf : ∀ j, j < n → (f j).1.1 = j) (h6 : n ≤ 100000) (hnc : n ≤ c) (J Jx : List Spot → World → Prop)
    (hY : ∀ pre x W, J pre W → pre.length < n → YieldAt Fence.wide 1 Tryz.prog l (encS x) W fun e W' =>
      (e = .returned (.bool true) ∧ J (pre ++ [x]) W' ∧ KeepB Bs b W W') ∨ (e = .returned (.bool false) ∧ Jx (pre ++ [x]) W'))
    (W : World) (hBs : W.cell? ⟨Bs, 0, none⟩ = some (.slice (some ⟨b, o, none⟩) n c)) (hc : ∀ j, j < n → W.cell? ⟨b, o + j, none⟩ = some (.int .u8 ((f j).1.2 : Int))) (h0 : J [] W) :
    CallsIn Fence.wide 2 Tryz.prog 247 #[.func (.yield l) #[] #[], .pointer (some ⟨Bs, 0, none⟩)] W fun e W' => (∃ v, e = .returned v) ∧
      ((∃ ys, ys = spots f n ∧ J ys W') ∨ (∃ pre, True ∧ Jx pre W')) := by
  refine callsIn_of_wp Tryz.func247 rfl trivial ?_ rfl
  simp only [Tryz.ntmps247, List.size_toArray, List.length_cons, List.length_nil, Nat.reduceAdd, Nat.reduceSub, Array.replicate_succ, Array.replicate_zero, List.push_toArray, List.append_toArray, List.nil_append, List.cons_append]
  gi_wp2
  gi_loopw [3] (fun i wr => ∃ k : Nat, k ≤ n ∧ i = .int .i64 (k : Int) ∧ J (spots f k) wr ∧ KeepB Bs b W wr) (fun i _ => n - (intOf i).toNat)
  case atStart => exact ⟨0, Nat.zero_le _, rfl, h0, Nat.le_refl _, rfl, rfl⟩
  case round =>
    obtain ⟨k, hk, rfl, hJs, hkp⟩ := hrel
    have hb0 : wr.cell? ⟨Bs, 0, none⟩ = some (.slice (some ⟨b, o, none⟩) n c) := (World.cell?_of_block (w := W) (a := ⟨Bs, 0, none⟩) hkp.2.1).trans hBs
    have hcx : k < n → wr.cell? ⟨b, o + k, none⟩ = some (.int .u8 ((f k).1.2 : Int)) := fun h => (World.cell?_of_block (w := W) (a := ⟨b, o + k, none⟩) hkp.2.2).trans (hc k h)
    have hwk : IntKind.i64.wrap ((k : Int) + 1) = (k : Int) + 1 := by rw [IntKind.wrap_i64]; omega
    by_cases hlt : k < n
    · have hlt2 : (k : Int) < n := by omega
      have hkc : ¬ c = k := by omega
      have hkc2 : ¬ (c : Int) < k := by omega
      have hkl : (spots f k).length = k := by simp [spots]
      have hfk := hf k hlt
      have HFA := Lib.hid (callsIn_wide (n := 1).2 (first_asc wr b (o + k) (n - k) (c - k) (f k).1.2 (by omega) (f k).2.2 (hcx hlt)))
      obtain ⟨fn, tmps, assign, body, hy, hR⟩ := hY _ (f k) wr hJs (by rw [hkl]; exact hlt)
      unfold encS at hy
      rw [hfk] at hy
      have HR := Lib.hid hR
      have HJ := Lib.hid hJs
      have HK := Lib.hid hkp
      clear hR hJs hkp hcx hfk hkl hBs hc h0
      have hw8 : Fence.wide.fn 248 := trivial
      gi_wp2_with (gi_at_call 248; refine HFA.out.mono ?_; rintro e wr ⟨rfl, rfl⟩)
      gi_wp2
      refine HR.out.mono ?_
      rintro e W3 (⟨rfl, hJ3, hk3⟩ | ⟨rfl, hJx3⟩)
      · gi_wp2
        go_roundw
        case rel => exact ⟨k + 1, by omega, by go_num, by rw [spots_succ]; exact hJ3, HK.out.trans hk3⟩
        case measure => simp [intOf]; omega
      · gi_wp2
        refine bodyPost_ret (results_none rfl _ _ _) rfl ?_
        first
          | exact ⟨⟨_, rfl⟩, .inr ⟨_, trivial, hJx3⟩⟩
          | exact ⟨⟨_, rfl⟩, .inr ⟨_, hJx3⟩⟩
    · obtain rfl : k = n := by omega
      have hlt2 : ¬ (k : Int) < k := by omega
      gi_wp2
      go_end0
      first
        | exact ⟨⟨_, rfl⟩, .inl hJs⟩
        | exact ⟨⟨_, rfl⟩, .inl ⟨_, rfl, hJs⟩⟩
theorem all_any (w : World) (a : Option Addr) (n c : Nat) :
    Calls Tryz.prog 206 #[.slice a n c] w fun e w' => e = .returned (.func (.func 247) #[] #[.pointer (some ⟨w.heap.size, 0, none⟩)]) ∧ w' = w.alloc (.cells #[.slice a n c] 56) := by
  have hmf : ∀ (fn : Fn) (first cap : Array Value) (w : World), (Instr.makeFunc fn first cap).run Tryz.prog w = .ok (.func fn first cap) w := fun _ _ _ _ => rfl
  go_enter Tryz.func206, Tryz.ntmps206
  go_wp2
  go_ret
  exact ⟨rfl, rfl⟩
theorem all_stops (w : World) (Bs b o n c : Nat) (f : Nat → Spot) (hf : ∀ j, j < n → (f j).1.1 = j) (h6 : n ≤ 100000) (hnc : n ≤ c) (hBl : Bs < w.heap.size) (hbl : b < w.heap.size)
    (hBs : w.cell? ⟨Bs, 0, none⟩ = some (.slice (some ⟨b, o, none⟩) n c)) (hc : ∀ j, j < n → w.cell? ⟨b, o + j, none⟩ = some (.int .u8 ((f j).1.2 : Int))) :
    SeqStopsK Fence.wide 2 Tryz.prog 247 #[.pointer (some ⟨Bs, 0, none⟩)] encS (KeepB Bs b) (fun ys => ys = spots f n) (fun _ => True) n w := fun l J Jx W hW hJ hJx hY h0 =>
  all1_in l Bs b o n c f hf h6 hnc J Jx hY W ((hW.cell (p := ⟨Bs, 0, none⟩) hBl).trans hBs) (fun j hj => (hW.cell (p := ⟨b, o + j, none⟩) hbl).trans (hc j hj)) h0
/-- behind the last sign. -/
def endS (pre : List Spot) : Int := match pre.getLast? with
  | none => 0
  | some x => (x.1.1 : Int) + 1
theorem endS_snoc (pre : List Spot) (x : Spot) : endS (pre ++ [x]) = (x.1.1 : Int) + 1 := by simp [endS]
theorem endS_all (f : Nat → Spot) (n : Nat) (hf : ∀ j, j < n → (f j).1.1 = j) : endS (spots f n) = (n : Int) := by
  cases n with
  | zero => rfl
  | succ k =>
    rw [spots_succ, endS_snoc, hf k (by omega)]
    omega
set_option maxRecDepth 100000 in
set_option maxHeartbeats 4000000 in
theorem bad_none (w : World) (b o n c : Nat) (f : Nat → Spot) (hf : ∀ j, j < n → (f j).1.1 = j) (h6 : n ≤ 100000) (hnc : n ≤ c) (hbl : b < w.heap.size) (hc : ∀ j, j < n → w.cell? ⟨b, o + j, none⟩ = some (.int .u8 ((f j).1.2 : Int))) :
    Calls Tryz.prog 160 #[.slice (some ⟨b, o, none⟩) n c] w fun e w' => e = .returned (.int .i64 (-1)) ∧ Below w.heap.size w w' := by
  have HF := Lib.hid hf
  have HC := Lib.hid hc
  have HBL := Lib.hid hbl
  have HNC := Lib.hid hnc
  have HEA := Lib.hid (endS_all f n hf)
  have HC0 : Hid (((w.alloc (.cells #[.int .i64 0] 3))).heap[w.heap.size]? = some (.cells #[.int .i64 0] 3 (0, 0))) := Lib.hid (heap_alloc_new w _)
  have HB1 : Hid (Below w.heap.size w (w.alloc (.cells #[.int .i64 0] 3))) := Lib.hid ((Below.refl _ _).alloc (Nat.le_refl _) _)
  clear hf hc hbl hnc
  refine callsIn_wide.1 (?_ : CallsIn Fence.wide 3 _ _ _ _ _)
  refine callsIn_of_wp_marks Tryz.func160 rfl trivial ?_ rfl
  simp only [Tryz.ntmps160, List.size_toArray, List.length_cons, List.length_nil, Nat.reduceAdd, Nat.reduceSub, Array.replicate_succ, Array.replicate_zero, List.push_toArray, List.append_toArray, List.nil_append, List.cons_append]
  refine wpIn_wide.2 ?_
  go_upto_region 2 with (fail)
  generalize (w.alloc (.cells #[.int .i64 0] 3)) = w1 at *
  go_wp2_with (go_at_call 206; refine (all_any _ _ _ _).mono ?_; rintro e w2 ⟨rfl, rfl⟩)
  have hB2 : Below w1.heap.size w1 (w1.alloc (.cells #[.slice (some ⟨b, o, none⟩) n c] 56)) := (Below.refl _ _).alloc (Nat.le_refl _) _
  have hX2 : (w1.alloc (.cells #[.slice (some ⟨b, o, none⟩) n c] 56)).heap[w1.heap.size]? = some (.cells #[.slice (some ⟨b, o, none⟩) n c] 56 (0, 0)) := heap_alloc_new w1 _
  have hC2 := (hB2.block _ (Array.getElem?_eq_some_iff.1 HC0.out).1).trans HC0.out
  have hbw : Below w.heap.size w (w1.alloc (.cells #[.slice (some ⟨b, o, none⟩) n c] 56)) := HB1.out.trans (hB2.mono HB1.out.size)
  have hs1 := HB1.out.size
  have hs2 : (w1.alloc (.cells #[.slice (some ⟨b, o, none⟩) n c] 56)).heap.size = w1.heap.size + 1 := by simp
  have hsC : w.heap.size < w1.heap.size := (Array.getElem?_eq_some_iff.1 HC0.out).1
  have hblx := HBL.out
  refine (wpIn_wide (n := 3)).1 ?_
  refine wpIn_rangeFunc_ownF rfl (by decide) (gf := 247) (lb := #[.pointer (some ⟨w1.heap.size, 0, none⟩)]) rfl trivial (enters_of Tryz.func247 (by kernel_rfl) rfl)
    (all_stops (w1.alloc (.cells #[.slice (some ⟨b, o, none⟩) n c] 56)) w1.heap.size b o n c f HF.out h6 HNC.out (by omega) (by omega) (by rw [cell_of_row _ _ 0 _ 56 _ hX2]; rfl) (fun j hj => (hbw.cell (p := ⟨b, o + j, none⟩) hblx).trans (HC.out j hj)))
    (fun h k => h.trans k) (fun W l o1 o2 hl hlo _ _ => ⟨by simp, World.putObj_heap_other (by omega), World.putObj_heap_other (by omega)⟩) (Below.refl _ _) (fun _ => rfl)
    (fun pre W => W.heap[w.heap.size]? = some (.cells #[.int .i64 (endS pre)] 3 (0, 0)) ∧ Below w.heap.size w W)
    (fun _ _ _ => False)
    (OwnFrom.and (Own.from (I := fun (pre : List Spot) (W : World) => W.heap[w.heap.size]? = some (.cells #[.int .i64 (endS pre)] 3 (0, 0))) (fun s A B row hs hg hr => (grownBy_keeps_cells hg hr hs rfl).trans hs) _) (ownFrom_below (Nat.le_refl _) (by omega)))
    (fun _ _ _ _ _ hs _ _ => hs)
    ⟨hC2, hbw⟩
    (fun x => { tmps := #[.slice (some ⟨b, o, none⟩) n c, undef, .int .i64 0, .pointer (some ⟨w.heap.size, 0, none⟩), .int .i64 (x.1.1 : Int), .int .i32 (x.1.2 : Int), .slice (some ⟨b, o, none⟩) n c, .func (.func 247) #[] #[.pointer (some ⟨w1.heap.size, 0, none⟩)], .int .i64 (x.1.1 : Int), .int .i32 (x.1.2 : Int), undef, undef, undef, undef, undef, undef, undef, undef, undef], defers := [] }) ?assign ?body ?done ?stop
  case assign =>
    intro l x W K hK
    gi_wp2
    exact hK
  case body =>
    rintro l pre x W ⟨hX, hB⟩ hlt
    have hx1 := x.2.1
    have hx2 := x.2.2
    have hw : IntKind.i64.wrap ((x.1.1 : Int) + 1) = (x.1.1 : Int) + 1 := by rw [IntKind.wrap_i64]; omega
    have hv2 : (x.1.2 : Int) < 128 := by omega
    have c0 : W.cell? ⟨w.heap.size, 0, none⟩ = some (.int .i64 (endS pre)) := (by rw [cell_of_row _ _ 0 _ 3 _ hX]; rfl)
    have f0 : W.frozen? ⟨w.heap.size, 0, none⟩ = false := frozen_of_row _ _ 0 _ 3 hX
    have hw7 : Fence.wide.fn 207 := trivial
    have HSI := Lib.hid (CallsIn.inRound l (callsIn_wide (n := 0).2 (size_asc W x.1.2 hx2)))
    have HX := Lib.hid hX
    have HB := Lib.hid hB
    clear hX hB
    gi_wp2_with (gi_at_call 207; refine HSI.out.mono ?_; rintro e W ⟨rfl, rfl⟩)
    have hbl2 : w.heap.size < W.heap.size := (Array.getElem?_eq_some_iff.1 HX.out).1
    refine ⟨KeepsOthers.setCell _ _ _, ⟨by simp, Below.heap_setCell _ _ _ _ (by simp only; omega), Below.heap_setCell _ _ _ _ (by simp only; omega)⟩, ?_, HB.out.setCell (p := ⟨w.heap.size, 0, none⟩) (Nat.le_refl _) _⟩
    rw [heap_setCell_same _ w.heap.size 0 _ 3 _ HX.out, endS_snoc]
    rfl
  case done =>
    rintro D ys W hD rfl ⟨hX, hB⟩ hK
    have HX := Lib.hid hX
    have HB := Lib.hid hB
    have HK := Lib.hid hK
    have HDL : Hid (w.heap.size ≤ D) := Lib.hid (by omega)
    have hend := HEA.out
    rw [hend] at hX
    have c0 : W.cell? ⟨w.heap.size, 0, none⟩ = some (.int .i64 (n : Int)) := (by rw [cell_of_row _ _ 0 _ 3 _ hX]; rfl)
    clear hX hB hK hB2 hX2 hC2 hbw hs1 hs2 hsC hblx hend hD
    go_wp2
    refine ⟨by simp, .inl ⟨_, _, rfl, run_takeDeferred HK.out, ?_⟩⟩
    exact ⟨_, results_tmp rfl _ _ _, rfl, HB.out.trans (belowK_b (w := w) (Nat.le_refl _) W D _ _ HDL.out HK.out rfl rfl)⟩
  case stop =>
    rintro D c pre W _ _ h _
    exact h.elim
end Go.Proofs.YtifilhkkgkihpaaGreatDoor
set_option linter.unusedSimpArgs false
set_option linter.unusedVariables false
namespace Go.Proofs.YtifilhkkgkihpaaGreatDoor
open Go.RowKit
theorem own_boxP {w : World} {base : Nat} {e t : TypeId} {size n : Nat} {v : Value} {xs : List Value} {b : Nat} {cs : Array Value} {f : Nat × Nat} (h : w.ownsRow base e size v n xs) (hb : w.heap[b]? = some (.cells cs t f)) (het : e ≠ t) : v.ownBlock ≠ some b := by
  rcases h.2 with ⟨rfl, -⟩ | ⟨g, cap, cur, rfl, e2, e3, -⟩
  · intro e; cases e
  · intro e
    cases e
    rw [hb] at e3
    cases e3
    exact het rfl
structure Tk where
  kd : Int
  tx : ByteArray
  ps : Nat
def tcells (t : Tk) : List Value := [.int .i64 t.kd, .string t.tx, .int .i64 (t.ps : Int)]
/-- from a place on, s is these tokens. -/
inductive LexS (s : ByteArray) : Nat → List Tk → Prop
  | nil : LexS s s.size []
  | cons {off n m : Nat} {kd : Int} {tx : ByteArray} {ts : List Tk} : off < s.size → 0 < n → off + n + m ≤ s.size → (∀ w, Calls Tryz.prog 162 #[.string (s.extract off s.size)] w (OnePost w kd tx n)) → Blank (s.extract (off + n) s.size) m → LexS s (off + n + m) ts → LexS s off (⟨kd, tx, off⟩ :: ts)
theorem LexS.le {s : ByteArray} {off : Nat} {ts : List Tk} (h : LexS s off ts) : off ≤ s.size := by
  cases h with
  | nil => exact Nat.le_refl _
  | cons h1 _ _ _ _ _ => omega
theorem Tryz.infoTk : (Tryz.prog.info? 201).map (fun i => (i.zero, i.size, i.bytes)) = some (some (.agg #[.int .i64 0, .string ⟨#[]⟩, .int .i64 0]), 3, 32) := by kernel_rfl
theorem results_110 {fn : Func} {p u : Tmp} (h : fn.results = #[.tmp u, .cell p 110]) (tmps : Array Value) (w : World) (g : Nat) (cs : Array Value) (hp : tmps.getD p undef = .pointer (some ⟨g, 0, none⟩)) (hg : w.heap[g]? = some (.cells cs 110 (0, 0))) (hs : cs.size = 3) :
    (results fn tmps).run Tryz.prog w = .ok (.tuple #[tmps.getD u undef, .agg cs]) w := by
  have hi2 : (Tryz.prog.info? 110).map (·.size) = some cs.size := by rw [hs]; kernel_rfl
  have hp2 : tmps[p]?.getD undef = .pointer (some ⟨g, 0, none⟩) := by simpa using hp
  simp only [results, h]
  simp [Sem.run_bind, Result.andThen, hp2, asAddr, run_loadVar_row w g 110 110 cs (0, 0) _ hg Tryz.underlying110 rfl hi2]
def endTk (s : ByteArray) : Tk := ⟨0, ⟨#[]⟩, s.size⟩
def LexPost (w : World) (s : ByteArray) (TS : List Tk) (e : Ending) (w' : World) : Prop := ∃ g c, e = .returned (.tuple #[.slice (some ⟨g, 0, none⟩) (TS.length + 1) c, .agg #[.int .i64 0, .int .i64 0, .string ⟨#[]⟩]]) ∧ w'.ownsRow w.heap.size 201 3 (.slice (some ⟨g, 0, none⟩) (TS.length + 1) c) (TS.length + 1) ((TS ++ [endTk s]).flatMap tcells) ∧ Below w.heap.size w w'
set_option maxRecDepth 20000 in
set_option maxHeartbeats 8000000 in
theorem lex_any (w : World) (b o c m0 : Nat) (s : ByteArray) (TS : List Tk) (hs : s.size ≤ 10000) (hsc : s.size ≤ c) (hbl : b < w.heap.size) (hby : Lib.Bytes w b o s) (hasc : ∀ i (h : i < s.size), s[i].toNat < 128) (hb0 : Blank s m0) (hlx : LexS s m0 TS) (hTS : TS.length ≤ 1000) :
    Calls Tryz.prog 123 #[.slice (some ⟨b, o, none⟩) s.size c] w (LexPost w s TS) := by
  have HBY := Lib.hid hby
  have HBL := Lib.hid hbl
  have HB0 := Lib.hid hb0
  have HLX := Lib.hid hlx
  have hs2 : (s.size : Int) ≤ 10000 := by omega
  have hnl : ¬ (1048576 : Int) < s.size := by omega
  have HBAD : Hid (∀ W', Below w.heap.size w W' → Calls Tryz.prog 160 #[.slice (some ⟨b, o, none⟩) s.size c] W' fun e w' => e = .returned (.int .i64 (-1)) ∧ Below W'.heap.size W' w') := Lib.hid (fun W' hb => by
    refine bad_none W' b o s.size c (fun j => ⟨(if j < s.size then j else 0, if h : j < s.size then s[j].toNat else 0), by simp only; split <;> omega, by simp only; split; exact hasc j (by assumption); omega⟩) (fun j hj => by simp [hj]) (by omega) hsc (Nat.lt_of_lt_of_le hbl hb.size) (fun j hj => ?_)
    rw [keepB hb hbl (hby j hj)]
    simp [hj])
  have HX : Hid ((w.alloc (.cells #[.int .i64 0, .int .i64 0, .string ⟨#[]⟩] 110)).heap[w.heap.size]? = some (.cells #[.int .i64 0, .int .i64 0, .string ⟨#[]⟩] 110 (0, 0))) := Lib.hid (heap_alloc_new w _)
  have HB : Hid (Below w.heap.size w (w.alloc (.cells #[.int .i64 0, .int .i64 0, .string ⟨#[]⟩] 110))) := Lib.hid ((Below.refl _ _).alloc (Nat.le_refl _) _)
  obtain ⟨i0, hi9, hz0, hz1, hz2⟩ := info_parts Tryz.infoTk
  have HIF := Lib.hid hi9
  have HIF0 := Lib.hid hz0
  have HIF1 := Lib.hid hz1
  have HIF2 := Lib.hid hz2
  clear hby hbl hb0 hlx hasc hsc hi9 hz0 hz1 hz2
  go_enter Tryz.func123, Tryz.ntmps123
  go_upto_region 1 with (fail)
  generalize (w.alloc (.cells #[.int .i64 0, .int .i64 0, .string ⟨#[]⟩] 110)) = w1 at *
  have HL1 : Hid (w.heap.size < w1.heap.size) := Lib.hid (Array.getElem?_eq_some_iff.1 HX.out).1
  go_upto_region 7 with (go_at_call 160; (with_reducible refine (HBAD.out _ HB.out).mono ?_); rintro e w2 ⟨rfl, hb2⟩; have HB2 := Lib.hid hb2; clear hb2)
  have HX2 := Lib.hid ((HB2.out.block _ HL1.out).trans HX.out)
  have HBW : Hid (Below w.heap.size w w2) := Lib.hid (HB.out.trans (HB2.out.mono HB.out.size))
  have hcv : (convert 56 9 (.slice (some ⟨b, o, none⟩) s.size c)).run Tryz.prog w2 = .ok (.string s) w2 := Lib.run_convert_whole (P := Tryz.prog) w2 56 5 9 Tryz.underlying56 Tryz.underlying5 Tryz.underlying9 b o s (fun i hi => keepB HBW.out HBL.out (HBY.out i hi)) c
  go_upto_region 9 with (go_at_call 161; ((with_reducible refine (blank_any s m0 _ (by omega) HB0.out).mono ?_); rintro e w2 ⟨rfl, rfl⟩))
  clear hcv
  have H0 : Hid (w2.ownsRow w.heap.size 201 3 (.slice none 0 0) 0 []) := Lib.hid (World.ownsRow_nil _ _ _ _)
  have HX2B := HX2
  go_loopw [7, 5] (fun s7 s5 wr => ∃ (off : Nat) (DN RS : List Tk) (xa : Option Addr) (xc : Nat), s7 = .int .i64 (off : Int) ∧ s5 = .slice xa DN.length xc ∧ Hid (LexS s off RS) ∧ Hid (TS = DN ++ RS) ∧ Hid (wr.ownsRow w.heap.size 201 3 (.slice xa DN.length xc) DN.length (DN.flatMap tcells)) ∧ Hid (Below w.heap.size w wr) ∧ Hid (wr.heap[w.heap.size]? = some (.cells #[.int .i64 0, .int .i64 0, .string ⟨#[]⟩] 110 (0, 0)))) (fun s7 _ _ => s.size - (intOf s7).toNat)
  case atStart => exact ⟨m0, [], TS, none, 0, rfl, rfl, HLX, Lib.hid rfl, H0, HBW, HX2⟩
  case round =>
    obtain ⟨off, DN, RS, xa, xc, rfl, rfl, HL, HT, HO, HBR, HXR⟩ := hrel
    clear HX2 HX2B H0 HBW HLX
    obtain ⟨wi, rfl⟩ : ∃ wi : World, wi = wr := ⟨_, rfl⟩
    have hoff := HL.out.le
    have hdn : DN.length ≤ 1000 := by
      have := congrArg List.length HT.out
      simp at this
      omega
    by_cases hlt : off < s.size
    · have hlt2 : (off : Int) < s.size := by omega
      obtain ⟨n, m, kd, tx, ts, hRS, h1, h2, h3, h4, h5⟩ : ∃ (n m : Nat) (kd : Int) (tx : ByteArray) (ts : List Tk), RS = ⟨kd, tx, off⟩ :: ts ∧ 0 < n ∧ off + n + m ≤ s.size ∧ (∀ w, Calls Tryz.prog 162 #[.string (s.extract off s.size)] w (OnePost w kd tx n)) ∧ Blank (s.extract (off + n) s.size) m ∧ LexS s (off + n + m) ts := by
        cases HL.out with
        | nil => omega
        | cons a1 a2 a3 a4 a5 a6 => exact ⟨_, _, _, _, _, rfl, a2, a3, a4, a5, a6⟩
      have HON := Lib.hid h3
      have HBK := Lib.hid h4
      have HLN := Lib.hid h5
      have HT2 : Hid (TS = (DN ++ [⟨kd, tx, off⟩]) ++ ts) := Lib.hid (by rw [HT.out, hRS]; simp)
      have hn0 : ((n : Int) == 0) = false := by simpa using (by omega : n ≠ 0)
      have hw1 : IntKind.i64.wrap ((off : Int) + (n : Int)) = ((off + n : Nat) : Int) := by rw [IntKind.wrap_i64]; omega
      have hw2 : IntKind.i64.wrap (((off + n : Nat) : Int) + (m : Int)) = ((off + n + m : Nat) : Int) := by rw [IntKind.wrap_i64]; omega
      clear h3 h4 h5 hRS
      go_upto_region 13 with (go_at_call 162; (with_reducible refine (HON.out _).mono ?_); rintro e w3 ⟨rfl, hb3⟩; have HB3 := Lib.hid hb3; clear hb3)
      have HT4 : Hid ((w3.alloc (.cells #[.int .i64 kd, .string tx, .int .i64 0] 201)).heap[w3.heap.size]? = some (.cells #[.int .i64 kd, .string tx, .int .i64 0] 201 (0, 0))) := Lib.hid (heap_alloc_new w3 _)
      have HB4 : Hid (Below wi.heap.size wi (w3.alloc (.cells #[.int .i64 kd, .string tx, .int .i64 0] 201))) := Lib.hid (HB3.out.alloc HB3.out.size _)
      generalize (w3.alloc (.cells #[.int .i64 kd, .string tx, .int .i64 0] 201)) = w4 at *
      have t2 : w4.cell? ⟨w3.heap.size, 2, none⟩ = some (.int .i64 0) := (by rw [cell_of_row _ _ 2 _ 201 _ HT4.out]; rfl)
      have f2 : w4.frozen? ⟨w3.heap.size, 2, none⟩ = false := frozen_of_row _ _ 2 _ 201 HT4.out
      go_upto_region 14 with (fail)
      clear t2 f2
      obtain ⟨w5, hw5⟩ : ∃ w5, w4.setCell ⟨w3.heap.size, 2, none⟩ (.int .i64 (off : Int)) = w5 := ⟨_, rfl⟩
      have HT5 : Hid (w5.heap[w3.heap.size]? = some (.cells #[.int .i64 kd, .string tx, .int .i64 (off : Int)] 201 (0, 0))) := Lib.hid (by rw [← hw5, heap_setCell_same _ w3.heap.size 2 _ 201 _ HT4.out]; rfl)
      have HB5 : Hid (Below wi.heap.size wi w5) := Lib.hid (by rw [← hw5]; exact HB4.out.setCell (p := ⟨w3.heap.size, 2, none⟩) HB3.out.size _)
      rw [hw5]
      clear hw5
      have t0 : w5.cell? ⟨w3.heap.size, 0, none⟩ = some (.int .i64 kd) := (by rw [cell_of_row _ _ 0 _ 201 _ HT5.out]; rfl)
      have t1 : w5.cell? ⟨w3.heap.size, 1, none⟩ = some (.string tx) := (by rw [cell_of_row _ _ 1 _ 201 _ HT5.out]; rfl)
      have t2 : w5.cell? ⟨w3.heap.size, 2, none⟩ = some (.int .i64 (off : Int)) := (by rw [cell_of_row _ _ 2 _ 201 _ HT5.out]; rfl)
      have HB6 : Hid (Below w5.heap.size w5 (w5.alloc (.cells #[.int .i64 kd, .string tx, .int .i64 (off : Int)] 201))) := Lib.hid ((Below.refl _ _).alloc (Nat.le_refl _) _)
      have HO6 : Hid ((w5.alloc (.cells #[.int .i64 kd, .string tx, .int .i64 (off : Int)] 201)).ownsRow w.heap.size 201 3 (.slice xa DN.length xc) DN.length (DN.flatMap tcells)) := Lib.hid ((ownsRow_mono HO.out (fun g hg => HB5.out.block g (HO.out.lt g hg).2)).alloc _)
      have HSZ : Hid (w.heap.size ≤ (w5.alloc (.cells #[.int .i64 kd, .string tx, .int .i64 (off : Int)] 201)).heap.size) := Lib.hid (Nat.le_trans HBR.out.size (Nat.le_trans HB5.out.size HB6.out.size))
      have HBK2 := Lib.hid (fun (W : World) => blank_any (s.extract (off + n) s.size) m W (by simp; omega) HBK.out)
      have hdn2 : (DN.length : Int) ≤ 1000 := by omega
      have hle1 : ¬ (s.size : Int) < ((off + n : Nat) : Int) := by omega
      go_wp2_with (first
        | (at_builtin; refine wpList_append_lies _ rfl _ _ 192 rfl w.heap.size 201 i0 (.agg #[.int .i64 0, .string ⟨#[]⟩, .int .i64 0]) 3 32 Tryz.underlying192 HIF.out HIF0.out HIF1.out HIF2.out rfl (by decide) (.slice xa DN.length xc) DN.length (DN.flatMap tcells) rfl HO6.out ⟨w5.heap.size, 0, none⟩ 1 1 [.int .i64 kd, .string tx, .int .i64 (off : Int)] rfl rfl (news_of (heap_alloc_new w5 _)) (by simp [Value.oneCell']) (by decide) (by unfold maxLen; omega) (by omega) HSZ.out _ rfl ?_; intro g6 c6 w6 hown6 hgr6 hat6 hlt6; have HOW6 := Lib.hid hown6; have HGR6 := Lib.hid hgr6; clear hown6 hgr6 hat6 hlt6)
        | (go_at_call 161; ((with_reducible refine (HBK2.out _).mono ?_); rintro e w6 ⟨rfl, rfl⟩)))
      have HBN : Hid (Below w.heap.size w w6) := Lib.hid (below_grow (HBR.out.trans ((HB5.out.trans (HB6.out.mono HB5.out.size)).mono HBR.out.size)) HGR6.out HSZ.out (fun g e => (HO6.out.lt g e).1))
      have HXN : Hid (w6.heap[w.heap.size]? = some (.cells #[.int .i64 0, .int .i64 0, .string ⟨#[]⟩] 110 (0, 0))) := Lib.hid (by
        have hbx := HB5.out.trans (HB6.out.mono HB5.out.size)
        have hlt9 := (Array.getElem?_eq_some_iff.1 HXR.out).1
        rw [HGR6.out.block w.heap.size (Nat.lt_of_lt_of_le hlt9 hbx.size) (fun e => own_boxP HO6.out ((hbx.block _ hlt9).trans HXR.out) (by decide) e.symm), hbx.block _ hlt9]
        exact HXR.out)
      go_roundw
      case rel => exact ⟨off + n + m, DN ++ [⟨kd, tx, off⟩], ts, some ⟨g6, 0, none⟩, c6, rfl, by simp, HLN, HT2, Lib.hid (by simpa [tcells] using HOW6.out), HBN, HXN⟩
      case measure => simp [intOf]; omega
    · have hlt2 : ¬ (off : Int) < s.size := by omega
      obtain rfl : off = s.size := by omega
      have HRS : Hid (RS = []) := Lib.hid (by
        cases HL.out with
        | nil => rfl
        | cons a1 _ _ _ _ _ => omega)
      have HTD : Hid (TS = DN) := Lib.hid (by rw [HT.out, HRS.out]; simp)
      have HB6 : Hid (Below wi.heap.size wi (wi.alloc (.cells #[.int .i64 0, .string ⟨#[]⟩, .int .i64 (s.size : Int)] 201))) := Lib.hid ((Below.refl _ _).alloc (Nat.le_refl _) _)
      have HO6 : Hid ((wi.alloc (.cells #[.int .i64 0, .string ⟨#[]⟩, .int .i64 (s.size : Int)] 201)).ownsRow w.heap.size 201 3 (.slice xa DN.length xc) DN.length (DN.flatMap tcells)) := Lib.hid (HO.out.alloc _)
      have HSZ : Hid (w.heap.size ≤ (wi.alloc (.cells #[.int .i64 0, .string ⟨#[]⟩, .int .i64 (s.size : Int)] 201)).heap.size) := Lib.hid (Nat.le_trans HBR.out.size HB6.out.size)
      have HXB : Hid (∀ w6 : World, (wi.alloc (.cells #[.int .i64 0, .string ⟨#[]⟩, .int .i64 (s.size : Int)] 201)).grownBy w6 (Value.slice xa DN.length xc).ownBlock → w6.heap[w.heap.size]? = some (.cells #[.int .i64 0, .int .i64 0, .string ⟨#[]⟩] 110 (0, 0))) := Lib.hid (fun w6 hg => by
        have hlt9 := (Array.getElem?_eq_some_iff.1 HXR.out).1
        rw [hg.block w.heap.size (Nat.lt_of_lt_of_le hlt9 HB6.out.size) (fun e => own_boxP HO6.out ((HB6.out.block _ hlt9).trans HXR.out) (by decide) e.symm), HB6.out.block _ hlt9]
        exact HXR.out)
      go_wp2_with (first
        | (at_builtin; refine wpList_append_lies _ rfl _ _ 192 rfl w.heap.size 201 i0 (.agg #[.int .i64 0, .string ⟨#[]⟩, .int .i64 0]) 3 32 Tryz.underlying192 HIF.out HIF0.out HIF1.out HIF2.out rfl (by decide) (.slice xa DN.length xc) DN.length (DN.flatMap tcells) rfl HO6.out ⟨wi.heap.size, 0, none⟩ 1 1 [.int .i64 0, .string ⟨#[]⟩, .int .i64 (s.size : Int)] rfl rfl (news_of (heap_alloc_new wi _)) (by simp [Value.oneCell']) (by decide) (by unfold maxLen; omega) (by omega) HSZ.out _ rfl ?_; intro g6 c6 w6 hown6 hgr6 hat6 hlt6; have HOW6 := Lib.hid hown6; have HGR6 := Lib.hid hgr6; have HX6 := Lib.hid (HXB.out w6 hgr6); clear hown6 hgr6 hat6 hlt6)
        | (refine wpList_store_row rfl 110 _ _ rfl w.heap.size _ rfl rfl 110 _ HX6.out (by kernel_rfl) rfl (by simp [Value.oneCell']) ?_))
      (try simp only [Exit.inBlock, Exit.then])
      have hbn : Below w.heap.size w w6 := below_grow (HBR.out.trans (HB6.out.mono HBR.out.size)) HGR6.out HSZ.out (fun g e => (HO6.out.lt g e).1)
      refine bodyPost_ret (v := .tuple #[.slice (some ⟨g6, 0, none⟩) (DN.length + 1) c6, .agg #[.int .i64 0, .int .i64 0, .string ⟨#[]⟩]]) (results_110 (fn := Tryz.f123) (p := 3) (u := 2) rfl _ _ w.heap.size _ rfl (setRow_heap _ _ _ _ _ _ HX6.out) rfl) rfl ?_
      refine ⟨g6, c6, by rw [HTD.out], ?_, below_rowP hbn (Nat.le_refl _)⟩
      rw [HTD.out, List.flatMap_append]
      have h8 := HOW6.out
      refine ownsRow_mono (by simpa [tcells, endTk] using h8) (fun g e => setRow_other _ _ _ _ (fun e2 => own_boxP h8 HX6.out (by decide) (by rw [e, e2])))
end Go.Proofs.YtifilhkkgkihpaaGreatDoor
set_option linter.unusedSimpArgs false
set_option linter.unusedVariables false
namespace Go.Proofs.YtifilhkkgkihpaaGreatDoor
open Go.RowKit
def ClonePostT (w : World) (kd ps : Int) (nm : ByteArray) (nn : Nat) (NS : List ByteArray) (kn : Nat) (KS : List Int) (op : Bool) (e : Ending) (w' : World) : Prop :=
  ∃ a' c' b' d', e = .returned (.agg #[.int .i64 kd, .int .i64 ps, .string nm, .slice a' nn c', .slice b' kn d', .bool op]) ∧ NamesAt w' a' nn NS ∧ w'.ownsRow w.heap.size 3 1 (.slice b' kn d') kn (KS.map (Value.int .i64)) ∧ (∀ ad bd, a' = some ad → nn ≠ 0 → b' = some bd → ad.block ≠ bd.block) ∧ (a' = none → c' = 0) ∧ (b' = none → d' = 0) ∧ (∀ ad, a' = some ad → w.heap.size ≤ ad.block) ∧ (∀ ad, b' = some ad → w.heap.size ≤ ad.block) ∧ Below w.heap.size w w'
set_option maxRecDepth 20000 in
set_option maxHeartbeats 4000000 in
theorem clone_type (w : World) (kd ps : Int) (nm : ByteArray) (na : Option Addr) (nn nc : Nat) (NS : List ByteArray) (ka : Option Addr) (kn kc : Nat) (KS : List Int) (op : Bool) (hN : NamesAt w na nn NS) (hK : IntsAt w ka kn KS) (hn : nn ≤ 100000) (hk : kn ≤ 100000) (hnc : na = none → nc = 0) (hkc : ka = none → kc = 0) :
    Calls Tryz.prog 220 #[.agg #[.int .i64 kd, .int .i64 ps, .string nm, .slice na nn nc, .slice ka kn kc, .bool op]] w (ClonePostT w kd ps nm nn NS kn KS op) := by
  have HN := Lib.hid hN
  have HK := Lib.hid hK
  have HC55 : Hid (∀ w', Below w.heap.size w w' → Calls Tryz.prog 91 #[.slice na nn nc] w' fun e w'' => ∃ a' c', e = .returned (.slice a' nn c') ∧ NamesAt w'' a' nn NS ∧ (a' = none → c' = 0) ∧ (∀ ad, a' = some ad → w'.heap.size ≤ ad.block) ∧ Below w'.heap.size w' w'') := Lib.hid (fun w' hb => clone_55 w' na nn nc NS (HN.out.on hb) hnc hn)
  have HC45 : Hid (∀ w', Below w.heap.size w w' → Calls Tryz.prog 67 #[.slice ka kn kc] w' fun e w'' => ∃ a' c', e = .returned (.slice a' kn c') ∧ w''.ownsRow w'.heap.size 3 1 (.slice a' kn c') kn (KS.map (Value.int .i64)) ∧ (a' = none → c' = 0) ∧ (∀ ad, a' = some ad → w'.heap.size ≤ ad.block) ∧ Below w'.heap.size w' w'') := Lib.hid (fun w' hb => clone_45o w' ka kn kc KS (HK.out.on hb) hkc hk)
  have HB : Hid (Below w.heap.size w ((w.alloc (.cells #[.int .i64 kd, .int .i64 ps, .string nm, .slice na nn nc, .slice ka kn kc, .bool op] 152)).alloc (.cells #[.int .i64 0, .int .i64 0, .string ⟨#[]⟩, .slice none 0 0, .slice none 0 0, .bool false] 152))) := Lib.hid (((Below.refl _ _).alloc (Nat.le_refl _) _).alloc (by simp) _)
  have HX : Hid (((w.alloc (.cells #[.int .i64 kd, .int .i64 ps, .string nm, .slice na nn nc, .slice ka kn kc, .bool op] 152)).alloc (.cells #[.int .i64 0, .int .i64 0, .string ⟨#[]⟩, .slice none 0 0, .slice none 0 0, .bool false] 152)).heap[w.heap.size]? = some (.cells #[.int .i64 kd, .int .i64 ps, .string nm, .slice na nn nc, .slice ka kn kc, .bool op] 152 (0, 0))) := Lib.hid (by rw [Below.heap_alloc _ _ _ (by simp)]; exact heap_alloc_new w _)
  have HY : Hid (((w.alloc (.cells #[.int .i64 kd, .int .i64 ps, .string nm, .slice na nn nc, .slice ka kn kc, .bool op] 152)).alloc (.cells #[.int .i64 0, .int .i64 0, .string ⟨#[]⟩, .slice none 0 0, .slice none 0 0, .bool false] 152)).heap[w.heap.size + 1]? = some (.cells #[.int .i64 0, .int .i64 0, .string ⟨#[]⟩, .slice none 0 0, .slice none 0 0, .bool false] 152 (0, 0))) := Lib.hid (by
    have := heap_alloc_new (w.alloc (.cells #[.int .i64 kd, .int .i64 ps, .string nm, .slice na nn nc, .slice ka kn kc, .bool op] 152)) (.cells #[.int .i64 0, .int .i64 0, .string ⟨#[]⟩, .slice none 0 0, .slice none 0 0, .bool false] 152)
    simpa using this)
  clear hN hK hnc hkc
  go_enter Tryz.func220, Tryz.ntmps220
  go_upto_region 1 with (fail)
  generalize ((w.alloc (.cells #[.int .i64 kd, .int .i64 ps, .string nm, .slice na nn nc, .slice ka kn kc, .bool op] 152)).alloc (.cells #[.int .i64 0, .int .i64 0, .string ⟨#[]⟩, .slice none 0 0, .slice none 0 0, .bool false] 152)) = w1 at *
  have a1 : w1.cell? ⟨w.heap.size, 3, none⟩ = some (.slice na nn nc) := (by rw [cell_of_row _ _ 3 _ 152 _ HX.out]; rfl)
  have a2 : w1.cell? ⟨w.heap.size, 4, none⟩ = some (.slice ka kn kc) := (by rw [cell_of_row _ _ 4 _ 152 _ HX.out]; rfl)
  have HS1 : Hid (w.heap.size + 1 < w1.heap.size) := Lib.hid (Array.getElem?_eq_some_iff.1 HY.out).1
  go_region_law
    (first
      | (go_simp; go_at_call 91; (with_reducible refine (HC55.out _ (by exact HB.out.drew)).mono ?_); rintro e w5 ⟨a5, c5, rfl, hn5, hz5, hg5, hb5⟩; have HN5 := Lib.hid hn5; have HZ5 := Lib.hid hz5; have HG5 : Hid (∀ ad, a5 = some ad → w1.heap.size ≤ ad.block) := Lib.hid hg5; have HL5 : Hid (∀ ad, a5 = some ad → nn ≠ 0 → ad.block < w5.heap.size) := Lib.hid (fun ad e h0 => (by rcases hn5.2 with h9 | ⟨g, o, e2, hl, _⟩; exact absurd h9 h0; rw [e2] at e; cases e; exact hl)); have HB5 := Lib.hid (show Below w1.heap.size w1 w5 from (Below.refl _ _).drew.trans hb5); have HX5 := Lib.hid ((HB5.out.block w.heap.size (by have := HS1.out; omega)).trans HX.out); have d1 : w5.cell? ⟨w.heap.size, 3, none⟩ = some (.slice na nn nc) := (by rw [cell_of_row _ _ 3 _ 152 _ HX5.out]; rfl); have d2 : w5.cell? ⟨w.heap.size, 4, none⟩ = some (.slice ka kn kc) := (by rw [cell_of_row _ _ 4 _ 152 _ HX5.out]; rfl); clear hn5 hz5 hg5 hb5)
      | (go_simp; go_at_call 67; (with_reducible refine (HC45.out _ (by exact HB.out.trans (HB5.out.mono HB.out.size))).mono ?_); rintro e w6 ⟨b6, c6, rfl, hk6, hz6, hg6, hb6⟩; have HK6 := Lib.hid hk6; have HZ6 := Lib.hid hz6; have HAP : Hid (∀ ad bd, a5 = some ad → nn ≠ 0 → b6 = some bd → ad.block ≠ bd.block) := Lib.hid (fun ad bd e h0 e2 => (by have h8 := HL5.out ad e h0; have h9 := hg6 bd e2; omega)); have HG6 : Hid (∀ ad, b6 = some ad → w1.heap.size ≤ ad.block) := Lib.hid (fun ad e => Nat.le_trans HB5.out.size (hg6 ad e)); have HN6 := Lib.hid (HN5.out.on hb6); have HB6 := Lib.hid (show Below w1.heap.size w1 w6 from HB5.out.trans (hb6.mono HB5.out.size)); have HX6 := Lib.hid ((HB6.out.block w.heap.size (by have := HS1.out; omega)).trans HX.out); have e1 : w6.cell? ⟨w.heap.size, 3, none⟩ = some (.slice na nn nc) := (by rw [cell_of_row _ _ 3 _ 152 _ HX6.out]; rfl); have e2 : w6.cell? ⟨w.heap.size, 4, none⟩ = some (.slice ka kn kc) := (by rw [cell_of_row _ _ 4 _ 152 _ HX6.out]; rfl); have eA : w6.cell? ⟨w.heap.size, 1, none⟩ = some (.int .i64 ps) := (by rw [cell_of_row _ _ 1 _ 152 _ HX6.out]; rfl); have eB : w6.cell? ⟨w.heap.size, 2, none⟩ = some (.string nm) := (by rw [cell_of_row _ _ 2 _ 152 _ HX6.out]; rfl); have e0 : w6.cell? ⟨w.heap.size, 0, none⟩ = some (.int .i64 kd) := (by rw [cell_of_row _ _ 0 _ 152 _ HX6.out]; rfl); have e3 : w6.cell? ⟨w.heap.size, 5, none⟩ = some (.bool op) := (by rw [cell_of_row _ _ 5 _ 152 _ HX6.out]; rfl); have HY6 := Lib.hid ((HB6.out.block (w.heap.size + 1) HS1.out).trans HY.out); have f1 : w6.frozen? ⟨w.heap.size, 3, none⟩ = false := frozen_of_row _ _ 3 _ 152 HX6.out; have f2 : w6.frozen? ⟨w.heap.size, 4, none⟩ = false := frozen_of_row _ _ 4 _ 152 HX6.out; have l6 : w.heap.size < w6.heap.size := (Array.getElem?_eq_some_iff.1 HX6.out).1; clear hk6 hz6 hg6 hb6)
      | fail)
  all_goals
    go_wp2_with (refine wpList_store_row rfl 152 _ _ rfl (w.heap.size + 1) _ rfl rfl 152 _ ((Below.heap_setCell _ _ _ _ (by simp)).trans ((Below.heap_setCell _ _ _ _ (by simp)).trans HY6.out)) (by kernel_rfl) rfl (by simp [Value.oneCell']) ?_)
    (try simp only [Exit.inBlock, Exit.then])
    exact bodyPost_ret (v := .agg #[.int .i64 kd, .int .i64 ps, .string nm, .slice a5 nn c5, .slice b6 kn c6, .bool op]) (results_cell_row (P := Tryz.prog) rfl _ _ (w.heap.size + 1) 152 _ (0, 0) _ rfl (setRow_heap _ _ _ _ _ _ ((Below.heap_setCell _ _ _ _ (by simp)).trans ((Below.heap_setCell _ _ _ _ (by simp)).trans HY6.out))) Tryz.underlying152 rfl (by kernel_rfl)) rfl
      (show ClonePostT w kd ps nm nn NS kn KS op _ _ from ⟨a5, c5, b6, c6, rfl,
        HN6.out.kept (fun ad e => by have h1 := HG5.out ad e; have h2 := HS1.out; exact (setRow_other _ _ _ _ (by omega)).trans ((Below.heap_setCell _ _ _ _ (by simp; omega)).trans (Below.heap_setCell _ _ _ _ (by simp; omega)))) (by rw [setRow_size]; simp),
        own_move HK6.out (fun g e => by have h1 := (HK6.out.lt g e).1; have h2 := HS1.out; have h3 := HB5.out.size; exact ⟨(setRow_other _ _ _ _ (by omega)).trans ((Below.heap_setCell _ _ _ _ (by simp; omega)).trans (Below.heap_setCell _ _ _ _ (by simp; omega))), by omega⟩),
        HAP.out,
        HZ5.out, HZ6.out, fun ad e => Nat.le_trans HB.out.size (HG5.out ad e), fun ad e => Nat.le_trans HB.out.size (HG6.out ad e),
        by
          have hb := HB.out.trans (HB6.out.mono HB.out.size)
          exact ⟨hb.os, hb.tape, hb.output, by rw [setRow_size]; simp; exact hb.size, fun k hk => ((setRow_other _ _ _ _ (by omega)).trans ((Below.heap_setCell _ _ _ _ (by simp; omega)).trans (Below.heap_setCell _ _ _ _ (by simp; omega)))).trans (hb.block k hk)⟩⟩)
end Go.Proofs.YtifilhkkgkihpaaGreatDoor
