/- Plain: what a tree of types that is told by values gives: a word, two words with an arrow between. Plain: sizes of a graph's bytes; the normal graph's heads are little. Walks: Typed: the graph of a type's text. Plain: a graph that may be, as it lies. Plain: the texts of some types. Plain: a typed graph may be. Walks: a graph that came in. Walks: graph.Basic. -/
import Derived.Test.YtifilhkkgkihpaaGreatDoorAs37
import Derived.Test.YtifilhkkgkihpaaGreatDoorAs18
import Derived.Test.YtifilhkkgkihpaaGreatDoorAs11
import Derived.Lib.ConvBytes
import Derived.Test.YtifilhkkgkihpaaGreatDoorAs36
set_option linter.unusedSimpArgs false
set_option linter.unusedVariables false
set_option linter.unusedSimpArgs false
set_option linter.unusedVariables false
namespace Go.Proofs.YtifilhkkgkihpaaGreatDoor
open Go.RowKit
theorem map1 {α β : Type} {f : α → β} {L : List α} {b : β} (h : L.map f = [b]) : ∃ x, L = [x] ∧ f x = b := by
  cases L with
  | nil => simp at h
  | cons x l =>
    cases l with
    | nil => exact ⟨x, rfl, by simpa using h⟩
    | cons y l => simp at h
theorem map3 {α β : Type} {f : α → β} {L : List α} {a b c : β} (h : L.map f = [a, b, c]) : ∃ x y z, L = [x, y, z] ∧ f x = a ∧ f y = b ∧ f z = c := by
  cases L with
  | nil => simp at h
  | cons x l =>
    rw [List.map_cons, List.cons.injEq] at h
    cases l with
    | nil => simp at h
    | cons y l =>
      rw [List.map_cons, List.cons.injEq] at h
      obtain ⟨z, rfl, h3⟩ := map1 h.2.2
      exact ⟨x, y, z, rfl, h.1, h.2.1, h3⟩
/-- types that may be: each of its kind, its kids ahead of it. -/
def okY (ys : List Ny) : Bool := (List.range ys.length).all fun i => match ys[i]? with
  | none => false
  | some y => typB y.1 y.2.2.2.2 y.2.2.1.length y.2.2.2.1.length y.2.2.1 && risesB y.2.2.1 && y.1 != 10 && y.2.2.2.1.all (fun k => decide (0 ≤ k) && decide (k < (i : Int)))
def kidsY (ys : List Ny) : List Nat := ys.flatMap fun y => y.2.2.2.1.map Int.toNat
theorem kids_vw {YT : List Nd} {ys : List Ny} (h : YT.map vw = ys) : kidsN YT = kidsY ys := by
  subst h
  unfold kidsN kidsY
  rw [List.flatMap_map]
  rfl
theorem typs_ok {w : World} {xa : Option Addr} {n : Nat} {YT : List Nd} {ys : List Ny} (h : YT.map vw = ys) (hin : TpsIn w xa n YT) (hok : okY ys = true) : TypsOk YT := by
  intro i x hx
  subst h
  have hl := (List.getElem?_eq_some_iff.1 hx).1
  have h1 := List.all_eq_true.1 hok i (List.mem_range.2 (by simpa using hl))
  rw [List.getElem?_map, hx] at h1
  simp only [Option.map_some, vw, Bool.and_eq_true, bne_iff_ne, List.all_eq_true, decide_eq_true_eq] at h1
  have h2 := (hin.nds x (List.mem_of_getElem? hx)).1
  refine ⟨?_, h1.1.1.2, h1.1.2, fun k hk => h1.2 k hk⟩
  rw [h2.names.1, h2.kids.1]
  exact h1.1.1.1
theorem hd_word {YT : List Nd} {p : Nat} {ps : Int} (h : YT.map vw = [((p : Int), ps, [], [], false)]) : HdT YT 0 0 [((p : Int), [], [], false)] [0] := by
  obtain ⟨x, hx0, hv0⟩ := map1 h
  · subst hx0
    simp only [vw, Prod.mk.injEq] at hv0
    obtain ⟨h1, h2, h3, h4, h5⟩ := hv0
    have := HdT.mk (YT := [x]) (i := 0) (m := 0) (x := x) [] rfl h3 (by rw [h4]; rfl) (fun j c hc => by simp at hc) (by simp)
    rw [h1, h5] at this
    exact this
theorem hd_arrow {YT : List Nd} {p q : Nat} {p1 p2 p3 : Int} (h : YT.map vw = [((p : Int), p1, [], [], false), ((q : Int), p2, [], [], false), (7, p3, [], [0, 1], false)]) : HdT YT 2 0 [(7, [], [1, 2], false), ((p : Int), [], [], false), ((q : Int), [], [], false)] [2, 0, 1] := by
  obtain ⟨x, y, z, hx0, hv0⟩ := map3 h
  · subst hx0
    simp only [vw, Prod.mk.injEq] at hv0
    obtain ⟨⟨a1, a2, a3, a4, a5⟩, ⟨b1, b2, b3, b4, b5⟩, ⟨c1, c2, c3, c4, c5⟩⟩ := hv0
    have hx := HdT.mk (YT := [x, y, z]) (i := 0) (m := 1) (x := x) [] rfl a3 (by rw [a4]; rfl) (fun j c hc => by simp at hc) (by simp)
    have hy := HdT.mk (YT := [x, y, z]) (i := 1) (m := 2) (x := y) [] rfl b3 (by rw [b4]; rfl) (fun j c hc => by simp at hc) (by simp)
    rw [a1, a5] at hx
    rw [b1, b5] at hy
    have := HdT.mk (YT := [x, y, z]) (i := 2) (m := 0) (x := z) [(0, [((p : Int), [], [], false)], [0]), (1, [((q : Int), [], [], false)], [1])] rfl c3 (by rw [c4]; rfl) (fun j c hc => by
      match j, hc with
      | 0, hc => simp at hc; subst hc; exact hx
      | 1, hc => simp at hc; subst hc; exact hy
      | j + 2, hc => simp at hc) (by simp)
    rw [c1, c5] at this
    exact this
theorem hs_word (p : Nat) (hp : p ≤ 6) : HsOk [((p : Int), [], [], false)] := by
  intro HS h hn
  obtain ⟨x, hx0, hv0⟩ := map1 h
  · subst hx0
    simp only [vh, Prod.mk.injEq] at hv0
    obtain ⟨h1, h2, h3, h4⟩ := hv0
    obtain ⟨n1, n2⟩ := hn x (by simp)
    refine ⟨by simp [fewH, n1, n2, h2, h3], fun y hy => ?_⟩
    obtain rfl : y = x := by simpa using hy
    rw [h1, h2, h3, h4]
    rcases (by omega : p = 0 ∨ p = 1 ∨ p = 2 ∨ p = 3 ∨ p = 4 ∨ p = 5 ∨ p = 6) with rfl | rfl | rfl | rfl | rfl | rfl | rfl <;> rfl
theorem hs_arrow (p q : Nat) (hp : p ≤ 6) (hq : q ≤ 6) : HsOk [(7, [], [1, 2], false), ((p : Int), [], [], false), ((q : Int), [], [], false)] := by
  intro HS h hn
  obtain ⟨x, y, z, hx0, hv0⟩ := map3 h
  · subst hx0
    simp only [vh, Prod.mk.injEq] at hv0
    obtain ⟨⟨a1, a2, a3, a4⟩, ⟨b1, b2, b3, b4⟩, ⟨c1, c2, c3, c4⟩⟩ := hv0
    obtain ⟨n1, n2⟩ := hn x (by simp)
    obtain ⟨m1, m2⟩ := hn y (by simp)
    obtain ⟨l1, l2⟩ := hn z (by simp)
    refine ⟨by simp [fewH, n1, n2, m1, m2, l1, l2, a2, a3, b2, b3, c2, c3], fun u hu => ?_⟩
    simp only [List.mem_cons, List.not_mem_nil, or_false] at hu
    rcases hu with rfl | rfl | rfl
    · rw [a1, a2, a3, a4]; rfl
    · rw [b1, b2, b3, b4]
      rcases (by omega : p = 0 ∨ p = 1 ∨ p = 2 ∨ p = 3 ∨ p = 4 ∨ p = 5 ∨ p = 6) with rfl | rfl | rfl | rfl | rfl | rfl | rfl <;> rfl
    · rw [c1, c2, c3, c4]
      rcases (by omega : q = 0 ∨ q = 1 ∨ q = 2 ∨ q = 3 ∨ q = 4 ∨ q = 5 ∨ q = 6) with rfl | rfl | rfl | rfl | rfl | rfl | rfl <;> rfl
theorem hv_word (p : Nat) (hp : p ≤ 6) : ∀ HS : List Hd, HS.map vh = [((p : Int), [], [], false)] → OkHeads HS ∧ ∀ x ∈ HS, (∀ s ∈ x.NS, s.size ≤ 60) ∧ x.KS.length ≤ 20 ∧ x.NS.length ≤ 20 := by
  intro HS h
  obtain ⟨x, hx0, hv0⟩ := map1 h
  subst hx0
  simp only [vh, Prod.mk.injEq] at hv0
  obtain ⟨h1, h2, h3, h4⟩ := hv0
  refine ⟨fun y hy => ?_, fun y hy => ?_⟩
  · obtain rfl : y = x := by simpa using hy
    rw [h1, h2, h3, h4]
    rcases (by omega : p = 0 ∨ p = 1 ∨ p = 2 ∨ p = 3 ∨ p = 4 ∨ p = 5 ∨ p = 6) with rfl | rfl | rfl | rfl | rfl | rfl | rfl <;> rfl
  · obtain rfl : y = x := by simpa using hy
    rw [h2, h3]
    simp
theorem hv_arrow (p q : Nat) (hp : p ≤ 6) (hq : q ≤ 6) : ∀ HS : List Hd, HS.map vh = [(7, [], [1, 2], false), ((p : Int), [], [], false), ((q : Int), [], [], false)] → OkHeads HS ∧ ∀ x ∈ HS, (∀ s ∈ x.NS, s.size ≤ 60) ∧ x.KS.length ≤ 20 ∧ x.NS.length ≤ 20 := by
  intro HS h
  obtain ⟨x, y, z, hx0, hv0⟩ := map3 h
  subst hx0
  simp only [vh, Prod.mk.injEq] at hv0
  obtain ⟨⟨a1, a2, a3, a4⟩, ⟨b1, b2, b3, b4⟩, ⟨c1, c2, c3, c4⟩⟩ := hv0
  refine ⟨fun u hu => ?_, fun u hu => ?_⟩
  · simp only [List.mem_cons, List.not_mem_nil, or_false] at hu
    rcases hu with rfl | rfl | rfl
    · rw [a1, a2, a3, a4]; rfl
    · rw [b1, b2, b3, b4]
      rcases (by omega : p = 0 ∨ p = 1 ∨ p = 2 ∨ p = 3 ∨ p = 4 ∨ p = 5 ∨ p = 6) with rfl | rfl | rfl | rfl | rfl | rfl | rfl <;> rfl
    · rw [c1, c2, c3, c4]
      rcases (by omega : q = 0 ∨ q = 1 ∨ q = 2 ∨ q = 3 ∨ q = 4 ∨ q = 5 ∨ q = 6) with rfl | rfl | rfl | rfl | rfl | rfl | rfl <;> rfl
  · simp only [List.mem_cons, List.not_mem_nil, or_false] at hu
    rcases hu with rfl | rfl | rfl
    · rw [a2, a3]; simp
    · rw [b2, b3]; simp
    · rw [c2, c3]; simp
end Go.Proofs.YtifilhkkgkihpaaGreatDoor
set_option linter.unusedSimpArgs false
set_option linter.unusedVariables false
namespace Go.Proofs.YtifilhkkgkihpaaGreatDoor
open Go.RowKit
/-- a head with few and short names, and few kids. -/
def FewV (x : Hd) : Prop := (∀ s ∈ x.NS, s.size ≤ 60) ∧ x.KS.length ≤ 20 ∧ x.NS.length ≤ 20
theorem NormF.few {A OA : List Hd} {ra : Nat} (nA : NormF A ra OA) (hf : ∀ x ∈ A, FewV x) : ∀ x ∈ OA, FewV x := fun x hx => by
  obtain ⟨cl, ord, a1, a2, a3, a4⟩ := nA
  obtain ⟨i, hi⟩ := List.getElem?_of_mem hx
  obtain ⟨r, y, h1, h2, h3, h4, h5, h6, h7⟩ := (a3.heads i x hi).of
  have := hf y (List.mem_of_getElem? h1)
  refine ⟨by rw [h5]; exact this.1, by rw [h6, List.length_map]; exact this.2.1, by rw [h5]; exact this.2.2⟩
/-- the normal graph's heads are little where they lie. -/
theorem few_in {w : World} {la : Option Addr} {ln : Nat} {HS : List Hd} (hH : HeadsIn w la ln HS) (hf : ∀ x ∈ HS, FewV x) : HS.all fewH = true := by
  refine List.all_eq_true.2 fun x hx => ?_
  obtain ⟨i, hi⟩ := List.getElem?_of_mem hx
  have hl := (List.getElem?_eq_some_iff.1 hi).1
  obtain ⟨g, o, e, hg, hc⟩ := hH.2.resolve_left (by rw [hH.1]; omega)
  have ok := (hc i x hi).ok
  obtain ⟨h1, h2, h3⟩ := hf x hx
  unfold fewH
  simp only [Bool.and_eq_true, decide_eq_true_eq, List.all_eq_true]
  exact ⟨⟨by rw [ok.kids.1]; exact h2, by rw [ok.names.1]; exact h3⟩, h1⟩
end Go.Proofs.YtifilhkkgkihpaaGreatDoor
set_option linter.unusedSimpArgs false
set_option linter.unusedVariables false
namespace Go.Proofs.YtifilhkkgkihpaaGreatDoor
open Go.RowKit
theorem below_bytes (w : World) (s : ByteArray) : Below w.heap.size w (Lib.bytesWorld w 5 s) :=
  ⟨by simp [Lib.bytesWorld, World.freeze, World.alloc, World.drew, -World.alloc_eq, -World.drew_eq], by simp [Lib.bytesWorld, World.freeze, World.alloc, World.drew, -World.alloc_eq, -World.drew_eq], by simp [Lib.bytesWorld, World.freeze, World.alloc, World.drew, -World.alloc_eq, -World.drew_eq], by rw [Lib.bytesWorld_size]; omega, fun b hb => Lib.bytesWorld_at_old w 5 s b hb⟩
theorem conv_ex (w : World) (s : ByteArray) : ∃ wb cap, (convert 9 56 (.string s)).run Tryz.prog w = .ok (.slice (some ⟨w.heap.size, 0, none⟩) s.size cap) wb ∧ Below w.heap.size w wb ∧ Lib.Bytes wb w.heap.size 0 s ∧ s.size ≤ cap ∧ wb.heap.size = w.heap.size + 1 := by
  refine ⟨_, _, Lib.run_convert_string_bytes (P := Tryz.prog) w 9 56 5 s Tryz.underlying9 Tryz.underlying56 Tryz.underlying5, below_bytes w s, fun i hi => ?_, grownCap_ge _ _ _ _, Lib.bytesWorld_size w 5 s⟩
  rw [Nat.zero_add, Lib.bytesWorld_cell w 5 s i hi]
  have : s.data.toList.getD i 0 = s[i] := by
    rw [List.getD_eq_getElem?_getD, List.getElem?_eq_getElem (by rw [Array.length_toList]; exact hi)]
    rfl
  rw [this]
/-- heads that say hs may be. -/
def HsV (hs : List Vh) : Prop := ∀ HS : List Hd, HS.map vh = hs → OkHeads HS ∧ ∀ x ∈ HS, FewV x
/-- a text is a type's, whose heads are hs. -/
structure TextT (s : ByteArray) (hs : List Vh) : Prop where
  of : ∃ (m0 : Nat) (TS : List Tk) (d : Nat) (ys : List Ny) (r : Nat) (ix : List Nat), s.size ≤ 10000 ∧ (∀ i (h : i < s.size), s[i].toNat < 128) ∧ Blank s m0 ∧ LexS s m0 TS ∧ TS.length ≤ 1000 ∧ TypT (TS ++ [endTk s]) 0 TS.length d 0 ys ∧ d ≤ 256 ∧ ys.length = r + 1 ∧ r < 1000 ∧ okY ys = true ∧ (∀ x ∈ bumps (UU (r + 1) r) (kidsY ys), x = 1) ∧ (∀ i, i < r + 1 → (i ∈ kidsY ys ↔ i ≠ r)) ∧ (kidsY ys).length ≤ 10000 ∧ (∀ y ∈ ys, ∀ k ∈ y.2.2.2.1, 0 ≤ k ∧ k ≤ 1000) ∧ (∀ YT : List Nd, YT.map vw = ys → HdT YT r 0 hs ix) ∧ ix.length ≤ 10000
  len : 0 < hs.length ∧ hs.length ≤ 100
  ok : HsOk hs
  vals : HsV hs
/-- a graph that has been made anew. -/
structure GrIn (w w' : World) (g : Nat) (OS : List Hd) : Prop where
  heads : HeadsIn w' (some ⟨g, 0, none⟩) OS.length OS
  ge : w.heap.size ≤ g
  new : ∀ x ∈ OS, (x.na = none → x.nc = 0) ∧ (x.ka = none → x.kc = 0) ∧ ∀ ad, blkOf x ad → w.heap.size ≤ ad.block
def TypedPost (w : World) (hs : List Vh) (e : Ending) (w' : World) : Prop := ∃ (HS OS : List Hd) (g c : Nat), e = .returned (.agg #[.slice (some ⟨g, 0, none⟩) OS.length c, .int .i64 0]) ∧ HS.map vh = hs ∧ OkHeads HS ∧ (∀ x ∈ HS, FewV x) ∧ NormF HS 0 OS ∧ GrIn w w' g OS ∧ Below w.heap.size w w'
set_option maxRecDepth 20000 in
set_option maxHeartbeats 8000000 in
theorem typedT_any (w : World) (s : ByteArray) (hs : List Vh) (hT : TextT s hs) :
    Calls Tryz.prog 39 #[.string s] w (TypedPost w hs) := by
  obtain ⟨m0, TS, d, ys, r, ix, t1, t2, t3, t4, t5, t6, t7, t8, t9, t10, t11, t12, t13, t14, t15, t16⟩ := hT.of
  have HOKS := Lib.hid hT.vals
  have HX1 : Hid ((w.alloc (.cells #[.slice none 0 0, .int .i64 0] 36)).heap[w.heap.size]? = some (.cells #[.slice none 0 0, .int .i64 0] 36 (0, 0))) := Lib.hid (heap_alloc_new w _)
  have HB1 : Hid (Below w.heap.size w (w.alloc (.cells #[.slice none 0 0, .int .i64 0] 36))) := Lib.hid ((Below.refl _ _).alloc (Nat.le_refl _) _)
  obtain ⟨wb, cap, hcv, hbb, hby, hcap, hsb⟩ := conv_ex (w.alloc (.cells #[.slice none 0 0, .int .i64 0] 36)) s
  have HBB := Lib.hid hbb
  have HPT := Lib.hid (parse_type wb (w.alloc (.cells #[.slice none 0 0, .int .i64 0] 36)).heap.size 0 cap m0 s TS t1 hcap (by rw [hsb]; omega) hby t2 t3 t4 t5 t6 t7 (by omega))
  have HOF : Hid (∀ w' gy oy cy YT, YT.map vw = ys → TpsIn w' (some ⟨gy, oy, none⟩) (r + 1) YT → Calls Tryz.prog 76 #[.agg #[.slice none 0 0, .slice (some ⟨gy, oy, none⟩) (r + 1) cy, .slice none 0 0], .int .i64 (r : Int)] w' (OfPost w' hs)) := Lib.hid (fun w' gy oy cy YT hv hin => by
    have ek := kids_vw hv
    exact of_any w' gy oy cy (r + 1) r YT hin (by omega) (by omega) (typs_ok hv hin t10) (by rw [ek]; exact t11) (by rw [ek]; exact t12) (by rw [ek]; exact t13) (fun x hx k hk => t14 (vw x) (by rw [← hv]; exact List.mem_map_of_mem hx) k hk) hs ix (t15 YT hv) hT.len.2 hT.len.1 t16 hT.ok)
  have HYL := Lib.hid t8
  clear hT t1 t2 t3 t4 t5 t6 t7 t8 t10 t11 t12 t13 t14 t15 t16 hbb hby hcap
  go_enter Tryz.func39, Tryz.ntmps39
  go_upto_region 1 with (fail)
  generalize (w.alloc (.cells #[.slice none 0 0, .int .i64 0] 36)) = w1 at *
  go_upto_region 2 with (go_at_call 75; (with_reducible refine HPT.out.mono ?_); rintro e w2 ⟨xa, xc, YT, rfl, hm, ht, hg, hh, hb⟩; have HM := Lib.hid hm; have HT := Lib.hid ht; have HG := Lib.hid hg; have HH := Lib.hid hh; have HB2 := Lib.hid hb; clear hm ht hg hh hb)
  obtain ⟨gy, oy, hxa, hgy, hcy⟩ := HT.out.row.resolve_left (by have := HYL.out; omega)
  subst hxa
  clear hgy hcy
  rw [HYL.out] at HT ⊢
  have hwr : IntKind.i64.wrap (r : Int) = (r : Int) := by rw [IntKind.wrap_i64]; omega
  have HBA : Hid (Below w2.heap.size w2 ((w2.alloc (.cells #[.slice none 0 0, .slice (some ⟨gy, oy, none⟩) (r + 1) xc, .slice none 0 0] 108)).alloc (.cells #[.int .i64 0, .int .i64 0, .string ⟨#[]⟩] 110))) := Lib.hid (((Below.refl _ _).alloc (Nat.le_refl _) _).alloc (by simp) _)
  have HXT : Hid (((w2.alloc (.cells #[.slice none 0 0, .slice (some ⟨gy, oy, none⟩) (r + 1) xc, .slice none 0 0] 108)).alloc (.cells #[.int .i64 0, .int .i64 0, .string ⟨#[]⟩] 110)).heap[w2.heap.size]? = some (.cells #[.slice none 0 0, .slice (some ⟨gy, oy, none⟩) (r + 1) xc, .slice none 0 0] 108 (0, 0))) := Lib.hid (by rw [Below.heap_alloc _ _ _ (by simp)]; exact heap_alloc_new w2 _)
  generalize ((w2.alloc (.cells #[.slice none 0 0, .slice (some ⟨gy, oy, none⟩) (r + 1) xc, .slice none 0 0] 108)).alloc (.cells #[.int .i64 0, .int .i64 0, .string ⟨#[]⟩] 110)) = w3 at *
  have HB3 : Hid (Below w.heap.size w w3) := Lib.hid (HB1.out.trans ((HBB.out.trans ((HB2.out.trans (HBA.out.mono HB2.out.size)).mono HBB.out.size)).mono HB1.out.size))
  have HL1 : Hid (w.heap.size < w1.heap.size) := Lib.hid (Array.getElem?_eq_some_iff.1 HX1.out).1
  have HX3 : Hid (w3.heap[w.heap.size]? = some (.cells #[.slice none 0 0, .int .i64 0] 36 (0, 0))) := Lib.hid ((HBA.out.block _ (Nat.lt_of_lt_of_le HL1.out (Nat.le_trans HBB.out.size HB2.out.size))).trans ((HB2.out.block _ (Nat.lt_of_lt_of_le HL1.out HBB.out.size)).trans ((HBB.out.block _ HL1.out).trans HX1.out)))
  have HO3 := Lib.hid (HOF.out w3 gy oy xc YT HM.out (HT.out.on HBA.out))
  have a0 : w3.cell? ⟨w2.heap.size, 0, none⟩ = some (.slice none 0 0) := (by rw [cell_of_row _ _ 0 _ 108 _ HXT.out]; rfl)
  have a1 : w3.cell? ⟨w2.heap.size, 1, none⟩ = some (.slice (some ⟨gy, oy, none⟩) (r + 1) xc) := (by rw [cell_of_row _ _ 1 _ 108 _ HXT.out]; rfl)
  have a2 : w3.cell? ⟨w2.heap.size, 2, none⟩ = some (.slice none 0 0) := (by rw [cell_of_row _ _ 2 _ 108 _ HXT.out]; rfl)
  go_upto_region 3 with (go_at_call 76; (with_reducible refine HO3.out.mono ?_); rintro e w4 ⟨HS, g, c, OS, cl, ord, hv4, rfl, hg4, hh4, hn4, hcl4, hst4, hco4, hnp4, hl4, hb4⟩; have HV4 := Lib.hid hv4; have HG4 := Lib.hid hg4; have HH4 := Lib.hid hh4; have HN4 := Lib.hid hn4; have HNF : Hid (NormF HS 0 OS) := Lib.hid ⟨cl, ord, hst4, hco4, hnp4, hl4⟩; have HB4 := Lib.hid hb4; clear hv4 hg4 hh4 hn4 hcl4 hst4 hco4 hnp4 hl4 hb4)
  clear a0 a1 a2
  have HB5 : Hid (Below w.heap.size w w4) := Lib.hid (HB3.out.trans (HB4.out.mono HB3.out.size))
  have HX4 : Hid (w4.heap[w.heap.size]? = some (.cells #[.slice none 0 0, .int .i64 0] 36 (0, 0))) := Lib.hid ((HB4.out.block _ (Array.getElem?_eq_some_iff.1 HX3.out).1).trans HX3.out)
  have HX5 : Hid ((w4.alloc (.cells #[.slice (some ⟨g, 0, none⟩) OS.length c, .int .i64 0] 36)).heap[w.heap.size]? = some (.cells #[.slice none 0 0, .int .i64 0] 36 (0, 0))) := Lib.hid ((Below.heap_alloc _ _ _ (Array.getElem?_eq_some_iff.1 HX4.out).1).trans HX4.out)
  have HX6 : Hid ((w4.alloc (.cells #[.slice (some ⟨g, 0, none⟩) OS.length c, .int .i64 0] 36)).heap[w4.heap.size]? = some (.cells #[.slice (some ⟨g, 0, none⟩) OS.length c, .int .i64 0] 36 (0, 0))) := Lib.hid (heap_alloc_new w4 _)
  have HB6 : Hid (Below w4.heap.size w4 (w4.alloc (.cells #[.slice (some ⟨g, 0, none⟩) OS.length c, .int .i64 0] 36))) := Lib.hid ((Below.refl _ _).alloc (Nat.le_refl _) _)
  generalize (w4.alloc (.cells #[.slice (some ⟨g, 0, none⟩) OS.length c, .int .i64 0] 36)) = w5 at *
  have b0 : w5.cell? ⟨w4.heap.size, 0, none⟩ = some (.slice (some ⟨g, 0, none⟩) OS.length c) := (by rw [cell_of_row _ _ 0 _ 36 _ HX6.out]; rfl)
  have b1 : w5.cell? ⟨w4.heap.size, 1, none⟩ = some (.int .i64 0) := (by rw [cell_of_row _ _ 1 _ 36 _ HX6.out]; rfl)
  go_wp2_with (refine wpList_store_row rfl 36 _ _ rfl w.heap.size _ rfl rfl 36 _ HX5.out (by kernel_rfl) rfl (by simp [Value.oneCell']) ?_)
  (try simp only [Exit.inBlock, Exit.then])
  have HLW : Hid (w.heap.size < w3.heap.size) := Lib.hid (Array.getElem?_eq_some_iff.1 HX3.out).1
  have hok := HOKS.out HS HV4.out
  have hfv : ∀ x ∈ OS, (x.na = none → x.nc = 0) ∧ (x.ka = none → x.kc = 0) ∧ ∀ ad, blkOf x ad → w.heap.size ≤ ad.block := fun x hx => ⟨(HN4.out x hx).1, (HN4.out x hx).2.1, fun ad e => Nat.le_trans HB3.out.size ((HN4.out x hx).2.2 ad e)⟩
  exact bodyPost_ret (v := .agg #[.slice (some ⟨g, 0, none⟩) OS.length c, .int .i64 0]) (results_cell_row (P := Tryz.prog) rfl _ _ w.heap.size 36 _ (0, 0) _ rfl (setRow_heap _ _ _ _ _ _ HX5.out) Tryz.underlying36 rfl (by kernel_rfl)) rfl
    ⟨HS, OS, g, c, rfl, HV4.out, hok.1, hok.2, HNF.out, ⟨(HH4.out.on HB6.out).row w.heap.size _ (by have := HG4.out; have := HLW.out; omega) (fun x hx ad e => by have := (HN4.out x hx).2.2 ad e; have := HLW.out; omega), Nat.le_trans HB3.out.size HG4.out, hfv⟩, below_row (HB5.out.trans (HB6.out.mono HB5.out.size)) (Nat.le_refl _)⟩
end Go.Proofs.YtifilhkkgkihpaaGreatDoor
set_option linter.unusedSimpArgs false
set_option linter.unusedVariables false
namespace Go.Proofs.YtifilhkkgkihpaaGreatDoor
open Go.RowKit
/-- a graph that may be, little, as it lies. -/
structure GOk (w : World) (la : Option Addr) (ln root : Nat) (HS : List Hd) : Prop where
  heads : HeadsIn w la ln HS
  few : HS.all fewH = true
  rlt : root < ln
  len : ln ≤ 50
  ok : graphB (root : Int) HS = true
  nil : ∀ x ∈ HS, x.na = none → x.nc = 0
theorem GOk.on {w w' : World} {la : Option Addr} {ln root : Nat} {HS : List Hd} (h : GOk w la ln root HS) (hb : Below w.heap.size w w') : GOk w' la ln root HS := ⟨h.heads.on hb, h.few, h.rlt, h.len, h.ok, h.nil⟩
theorem GOk.oks {w : World} {la : Option Addr} {ln root : Nat} {HS : List Hd} (h : GOk w la ln root HS) : OkHeads HS := (OkHeads.of_graph h.ok).1
theorem GOk.lens {w : World} {la : Option Addr} {ln root : Nat} {HS : List Hd} (h : GOk w la ln root HS) : root < HS.length ∧ HS.length ≤ 50 := by have h1 := h.heads.1; have h2 := h.rlt; have h3 := h.len; omega
end Go.Proofs.YtifilhkkgkihpaaGreatDoor
set_option linter.unusedSimpArgs false
set_option linter.unusedVariables false
namespace Go.Proofs.YtifilhkkgkihpaaGreatDoor
open Go.RowKit
theorem blk (s : ByteArray) (n : Nat) (h : (decide (n ≤ s.size) && (s.data.toList.take n).all (fun c => c == 32) && (decide (n = s.size) || ((s.data.toList[n]?).any (fun c => Lib.indexByte blankS.data.toList ((c.toNat : Int).toNat.toUInt8) == -1)) && !preB (s.extract n s.size) ⟨#[47, 47]⟩)) = true) : Blank s n := by
  simp only [Bool.and_eq_true, decide_eq_true_eq, List.all_eq_true, Bool.or_eq_true, beq_iff_eq, Bool.not_eq_true'] at h
  obtain ⟨⟨h1, h2⟩, h3⟩ := h
  have e : ∀ (i : Nat) (h : i < s.size), s.data.toList[i]? = some s[i] := fun i h => by
    rw [List.getElem?_eq_getElem (by rw [Array.length_toList]; exact h)]
    rfl
  refine ⟨h1, fun i hi hn => h2 _ (List.mem_of_getElem? (i := i) (by rw [List.getElem?_take, if_pos hn]; exact e i hi)), fun hn => ?_⟩
  rcases h3 with h3 | ⟨h3, h4⟩
  · omega
  · rw [e n hn] at h3
    simp only [Option.any_some, beq_iff_eq] at h3
    exact ⟨h3, h4⟩
theorem asc (s : ByteArray) (h : s.data.toList.all (fun c => decide (c.toNat < 128)) = true) : ∀ i (h : i < s.size), s[i].toNat < 128 := fun i hi => by
  have := List.all_eq_true.1 h s[i] (List.mem_of_getElem? (i := i) (by rw [List.getElem?_eq_getElem (by rw [Array.length_toList]; exact hi)]; rfl))
  simpa using this
theorem signs_not (s : ByteArray) (i : Nat) (h : ((signL.take i).all fun y => !preB s y) = true) : ∀ j y, j < i → signL[j]? = some y → preB s y = false := fun j y hj hy => by
  have := List.all_eq_true.1 h y (List.mem_of_getElem? (i := j) (by rw [List.getElem?_take, if_pos hj]; exact hy))
  simpa using this
def t_int : ByteArray := ⟨#[105, 110, 116]⟩
theorem t_int_text : TextT t_int [(((0 : Nat) : Int), [], [], false)] where
  of := ⟨0, [⟨7, ⟨#[105, 110, 116]⟩, 0⟩], 1, [(((0 : Nat) : Int), ((0 : Nat) : Int), [], [], false)], 0, [0], by decide, asc _ (by kernel_rfl), blk _ _ (by kernel_rfl), LexS.cons (n := 3) (m := 0) (by decide) (by decide) (by decide) (fun w => by have := one_word (t_int.extract 0 t_int.size) 3 w (by decide) (by decide) (by kernel_rfl) (by kernel_rfl) (by kernel_rfl) (by decide) (by kernel_rfl); rwa [show (t_int.extract 0 t_int.size).extract 0 3 = ⟨#[105, 110, 116]⟩ from by kernel_rfl] at this) (blk _ _ (by kernel_rfl)) (LexS.nil), by decide, (show TypT ([⟨7, ⟨#[105, 110, 116]⟩, 0⟩] ++ [endTk t_int]) 0 (0 + 1) 1 0 [(((0 : Nat) : Int), ((0 : Nat) : Int), [], [], false)] from TypT.word (p := 0) (t := ⟨7, ⟨#[105, 110, 116]⟩, 0⟩) (t' := endTk t_int) rfl rfl rfl rfl (by kernel_rfl)), by decide, rfl, by decide, by kernel_rfl, by decide, fun i hi => by obtain rfl : i = 0 := (by omega); exact ⟨fun h => (by cases h), fun h => absurd rfl h⟩, by decide, by decide, fun YT h => hd_word h, by decide⟩
  len := by decide
  ok := hs_word 0 (by decide)
  vals := hv_word 0 (by decide)
def t_str : ByteArray := ⟨#[115, 116, 114]⟩
theorem t_str_text : TextT t_str [(((2 : Nat) : Int), [], [], false)] where
  of := ⟨0, [⟨7, ⟨#[115, 116, 114]⟩, 0⟩], 1, [(((2 : Nat) : Int), ((0 : Nat) : Int), [], [], false)], 0, [0], by decide, asc _ (by kernel_rfl), blk _ _ (by kernel_rfl), LexS.cons (n := 3) (m := 0) (by decide) (by decide) (by decide) (fun w => by have := one_word (t_str.extract 0 t_str.size) 3 w (by decide) (by decide) (by kernel_rfl) (by kernel_rfl) (by kernel_rfl) (by decide) (by kernel_rfl); rwa [show (t_str.extract 0 t_str.size).extract 0 3 = ⟨#[115, 116, 114]⟩ from by kernel_rfl] at this) (blk _ _ (by kernel_rfl)) (LexS.nil), by decide, (show TypT ([⟨7, ⟨#[115, 116, 114]⟩, 0⟩] ++ [endTk t_str]) 0 (0 + 1) 1 0 [(((2 : Nat) : Int), ((0 : Nat) : Int), [], [], false)] from TypT.word (p := 2) (t := ⟨7, ⟨#[115, 116, 114]⟩, 0⟩) (t' := endTk t_str) rfl rfl rfl rfl (by kernel_rfl)), by decide, rfl, by decide, by kernel_rfl, by decide, fun i hi => by obtain rfl : i = 0 := (by omega); exact ⟨fun h => (by cases h), fun h => absurd rfl h⟩, by decide, by decide, fun YT h => hd_word h, by decide⟩
  len := by decide
  ok := hs_word 2 (by decide)
  vals := hv_word 2 (by decide)
def t_any : ByteArray := ⟨#[97, 110, 121]⟩
theorem t_any_text : TextT t_any [(((5 : Nat) : Int), [], [], false)] where
  of := ⟨0, [⟨7, ⟨#[97, 110, 121]⟩, 0⟩], 1, [(((5 : Nat) : Int), ((0 : Nat) : Int), [], [], false)], 0, [0], by decide, asc _ (by kernel_rfl), blk _ _ (by kernel_rfl), LexS.cons (n := 3) (m := 0) (by decide) (by decide) (by decide) (fun w => by have := one_word (t_any.extract 0 t_any.size) 3 w (by decide) (by decide) (by kernel_rfl) (by kernel_rfl) (by kernel_rfl) (by decide) (by kernel_rfl); rwa [show (t_any.extract 0 t_any.size).extract 0 3 = ⟨#[97, 110, 121]⟩ from by kernel_rfl] at this) (blk _ _ (by kernel_rfl)) (LexS.nil), by decide, (show TypT ([⟨7, ⟨#[97, 110, 121]⟩, 0⟩] ++ [endTk t_any]) 0 (0 + 1) 1 0 [(((5 : Nat) : Int), ((0 : Nat) : Int), [], [], false)] from TypT.word (p := 5) (t := ⟨7, ⟨#[97, 110, 121]⟩, 0⟩) (t' := endTk t_any) rfl rfl rfl rfl (by kernel_rfl)), by decide, rfl, by decide, by kernel_rfl, by decide, fun i hi => by obtain rfl : i = 0 := (by omega); exact ⟨fun h => (by cases h), fun h => absurd rfl h⟩, by decide, by decide, fun YT h => hd_word h, by decide⟩
  len := by decide
  ok := hs_word 5 (by decide)
  vals := hv_word 5 (by decide)
def t_int_dyn : ByteArray := ⟨#[105, 110, 116, 32, 45, 62, 32, 100, 121, 110]⟩
theorem t_int_dyn_text : TextT t_int_dyn [(7, [], [1, 2], false), (((0 : Nat) : Int), [], [], false), (((4 : Nat) : Int), [], [], false)] where
  of := ⟨0, [⟨7, ⟨#[105, 110, 116]⟩, 0⟩, ⟨8, ⟨#[45, 62]⟩, 4⟩, ⟨7, ⟨#[100, 121, 110]⟩, 7⟩], 2, [(((0 : Nat) : Int), ((0 : Nat) : Int), [], [], false), (((4 : Nat) : Int), ((7 : Nat) : Int), [], [], false), (7, ((4 : Nat) : Int), [], [0, 1], false)], 2, [2, 0, 1], by decide, asc _ (by kernel_rfl), blk _ _ (by kernel_rfl), LexS.cons (n := 3) (m := 1) (by decide) (by decide) (by decide) (fun w => by have := one_word (t_int_dyn.extract 0 t_int_dyn.size) 3 w (by decide) (by decide) (by kernel_rfl) (by kernel_rfl) (by kernel_rfl) (by decide) (by kernel_rfl); rwa [show (t_int_dyn.extract 0 t_int_dyn.size).extract 0 3 = ⟨#[105, 110, 116]⟩ from by kernel_rfl] at this) (blk _ _ (by kernel_rfl)) (LexS.cons (n := 2) (m := 1) (by decide) (by decide) (by decide) (fun w => one_sign (t_int_dyn.extract 4 t_int_dyn.size) ⟨#[45, 62]⟩ 1 w (by decide) (by decide) (by kernel_rfl) (by kernel_rfl) (by kernel_rfl) (by kernel_rfl) (by kernel_rfl) (by kernel_rfl) rfl (by kernel_rfl) (signs_not _ 1 (by kernel_rfl))) (blk _ _ (by kernel_rfl)) (LexS.cons (n := 3) (m := 0) (by decide) (by decide) (by decide) (fun w => by have := one_word (t_int_dyn.extract 7 t_int_dyn.size) 3 w (by decide) (by decide) (by kernel_rfl) (by kernel_rfl) (by kernel_rfl) (by decide) (by kernel_rfl); rwa [show (t_int_dyn.extract 7 t_int_dyn.size).extract 0 3 = ⟨#[100, 121, 110]⟩ from by kernel_rfl] at this) (blk _ _ (by kernel_rfl)) (LexS.nil))), by decide, (show TypT ([⟨7, ⟨#[105, 110, 116]⟩, 0⟩, ⟨8, ⟨#[45, 62]⟩, 4⟩, ⟨7, ⟨#[100, 121, 110]⟩, 7⟩] ++ [endTk t_int_dyn]) 0 (2 + 1) (1 + 1) 0 [(((0 : Nat) : Int), ((0 : Nat) : Int), [], [], false), (((4 : Nat) : Int), ((7 : Nat) : Int), [], [], false), (7, ((4 : Nat) : Int), [], [0, 1], false)] from TypT.arr (p := 0) (m := 0) (t := ⟨7, ⟨#[105, 110, 116]⟩, 0⟩) (t' := ⟨8, ⟨#[45, 62]⟩, 4⟩) (ys := [(((4 : Nat) : Int), ((7 : Nat) : Int), [], [], false)]) rfl rfl rfl rfl (by kernel_rfl) (by decide) (by decide) (TypT.word (p := 4) (m := 1) (t := ⟨7, ⟨#[100, 121, 110]⟩, 7⟩) (t' := endTk t_int_dyn) rfl rfl rfl rfl (by kernel_rfl))), by decide, rfl, by decide, by kernel_rfl, by decide, fun i hi => by
    have e : kidsY [(((0 : Nat) : Int), ((0 : Nat) : Int), [], [], false), (((4 : Nat) : Int), ((7 : Nat) : Int), [], [], false), (7, ((4 : Nat) : Int), [], [0, 1], false)] = [0, 1] := rfl
    rw [e]
    simp
    omega, by decide, by decide, fun YT h => hd_arrow h, by decide⟩
  len := by decide
  ok := hs_arrow 0 4 (by decide) (by decide)
  vals := hv_arrow 0 4 (by decide) (by decide)
end Go.Proofs.YtifilhkkgkihpaaGreatDoor
set_option linter.unusedSimpArgs false
set_option linter.unusedVariables false
namespace Go.Proofs.YtifilhkkgkihpaaGreatDoor
open Go.RowKit
/-- a typed graph may be. -/
theorem typed_gok {w w' : World} {HS OS : List Hd} {g : Nat} (hok : OkHeads HS) (hfv : ∀ x ∈ HS, FewV x) (hn : NormF HS 0 OS) (h0 : 0 < HS.length) (hl : HS.length ≤ 50) (hg : GrIn w w' g OS) : GOk w' (some ⟨g, 0, none⟩) OS.length 0 OS where
  heads := hg.heads
  few := few_in hg.heads (hn.few hfv)
  rlt := by
    obtain ⟨cl, ord, a1, a2, a3, a4⟩ := hn
    have := (List.getElem?_eq_some_iff.1 a3.first).1
    omega
  len := by have := hn.le hok (by omega) h0; omega
  ok := hn.ok hok (by have := hn.le hok (by omega) h0; omega)
  nil x hx := (hg.new x hx).1
theorem vh_len {HS : List Hd} {hs : List Vh} (h : HS.map vh = hs) : HS.length = hs.length := by rw [← h]; simp
end Go.Proofs.YtifilhkkgkihpaaGreatDoor
set_option linter.unusedSimpArgs false
set_option linter.unusedVariables false
namespace Go.Proofs.YtifilhkkgkihpaaGreatDoor
open Go.RowKit
/-- a graph that came in: little, or not; right, or not. -/
structure GRaw (w : World) (la : Option Addr) (ln : Nat) (HS : List Hd) : Prop where
  raw : HeadsRaw w la ln HS
  len : (ln : Int) ≤ maxLen
  nil : ∀ x ∈ HS, x.na = none → x.nc = 0
theorem GRaw.heads {w : World} {la : Option Addr} {ln : Nat} {HS : List Hd} (h : GRaw w la ln HS) (hf : fewB HS = true) : HeadsIn w la ln HS ∧ (ln : Int) ≤ 100000 ∧ HS.all fewH = true ∧ HS.length ≤ 25 := by
  unfold fewB at hf
  simp only [Bool.and_eq_true, decide_eq_true_eq] at hf
  exact ⟨h.raw.bounded hf.1, by have := h.raw.1; omega, hf.1, hf.2⟩
theorem GRaw.gok {w : World} {la : Option Addr} {ln root : Nat} {HS : List Hd} (h : GRaw w la ln HS) (hf : fewB HS = true) (hg : graphB (root : Int) HS = true) : GOk w la ln root HS := by
  obtain ⟨h1, h2, h3, h4⟩ := h.heads hf
  obtain ⟨g1, g2, g3⟩ := OkHeads.of_graph hg
  have := h.raw.1
  exact ⟨h1, h3, by omega, by omega, hg, h.nil⟩
theorem few_c {w : World} {la : Option Addr} {ln lc : Nat} {ra : Int} {HS : List Hd} (h : GRaw w la ln HS) {b : Bool} (hf : fewB HS = b) : ∀ W', Below w.heap.size w W' → Calls Tryz.prog 32 #[.agg #[.slice la ln lc, .int .i64 ra]] W' (BoolPost W' b) := fun W' hb => by
  have := few_top W' la ln lc ra HS (h.raw.on hb) h.len
  rwa [hf] at this
theorem right_c {w : World} {la : Option Addr} {ln lc : Nat} {ra : Int} {HS : List Hd} (h : GRaw w la ln HS) (hf : fewB HS = true) {b : Bool} (hg : graphB ra HS = b) : ∀ W', Below w.heap.size w W' → Calls Tryz.prog 33 #[.agg #[.slice la ln lc, .int .i64 ra]] W' (BoolPost W' b) := fun W' hb => by
  obtain ⟨h1, h2, h3, h4⟩ := h.heads hf
  have := right_h W' la ln lc ra HS (h1.on hb) h2
  rwa [hg] at this
end Go.Proofs.YtifilhkkgkihpaaGreatDoor
set_option linter.unusedSimpArgs false
set_option linter.unusedVariables false
namespace Go.Proofs.YtifilhkkgkihpaaGreatDoor
open Go.RowKit
/-- the graph of a kind without kids. -/
def bsc (k : Int) : List Hd := [⟨k, none, 0, 0, [], none, 0, 0, [], false⟩]
def BasicPost (w : World) (k : Int) (e : Ending) (w' : World) : Prop := ∃ g : Nat, e = .returned (.agg #[.slice (some ⟨g, 0, none⟩) 1 1, .int .i64 0]) ∧ HeadsIn w' (some ⟨g, 0, none⟩) 1 (bsc k) ∧ w.heap.size ≤ g ∧ Below w.heap.size w w'
set_option maxRecDepth 20000 in
set_option maxHeartbeats 4000000 in
theorem gb_ok (w : World) (k : Int) (h0 : 0 ≤ k) (h6 : k ≤ 6) : Calls Tryz.prog 37 #[.int .i64 k] w (BasicPost w k) := by
  have h1 : ¬ k < 0 := by omega
  have h2 : ¬ 6 < k := by omega
  have HX1 : Hid ((w.alloc (.cells #[.slice none 0 0, .int .i64 0] 36)).heap[w.heap.size]? = some (.cells #[.slice none 0 0, .int .i64 0] 36 (0, 0))) := Lib.hid (heap_alloc_new w _)
  have HB1 : Hid (Below w.heap.size w (w.alloc (.cells #[.slice none 0 0, .int .i64 0] 36))) := Lib.hid ((Below.refl _ _).alloc (Nat.le_refl _) _)
  go_enter Tryz.func37, Tryz.ntmps37
  go_upto_region 1 with (fail)
  generalize (w.alloc (.cells #[.slice none 0 0, .int .i64 0] 36)) = w1 at *
  have HL1 : Hid (w.heap.size < w1.heap.size) := Lib.hid (Array.getElem?_eq_some_iff.1 HX1.out).1
  have HX2 : Hid ((w1.alloc (.cells #[.int .i64 k, .slice none 0 0, .slice none 0 0, .bool false] 33)).heap[w.heap.size]? = some (.cells #[.slice none 0 0, .int .i64 0] 36 (0, 0))) := Lib.hid ((Below.heap_alloc _ _ _ HL1.out).trans HX1.out)
  have HX3 : Hid ((w1.alloc (.cells #[.int .i64 k, .slice none 0 0, .slice none 0 0, .bool false] 33)).heap[w1.heap.size]? = some (.cells #[.int .i64 k, .slice none 0 0, .slice none 0 0, .bool false] 33 (0, 0))) := Lib.hid (heap_alloc_new w1 _)
  go_wp2_with (refine wpList_store_row rfl 36 _ _ rfl w.heap.size _ rfl rfl 36 _ HX2.out (by kernel_rfl) rfl (by simp [Value.oneCell']) ?_)
  (try simp only [Exit.inBlock, Exit.then])
  have hne : w1.heap.size ≠ w.heap.size := by have := HL1.out; omega
  have hk : ∀ j, ((w1.alloc (.cells #[.int .i64 k, .slice none 0 0, .slice none 0 0, .bool false] 33)).setRow w.heap.size #[.slice (some ⟨w1.heap.size, 0, none⟩) 1 1, .int .i64 0]).cell? ⟨w1.heap.size, j, none⟩ = (#[.int .i64 k, .slice none 0 0, .slice none 0 0, .bool false] : Array Value)[j]? := fun j => by
    rw [World.cell?_of_block (w := (w1.alloc (.cells #[.int .i64 k, .slice none 0 0, .slice none 0 0, .bool false] 33))) (a := ⟨w1.heap.size, j, none⟩) (setRow_other _ _ _ _ hne), cell_of_row _ _ j _ 33 _ HX3.out]
  exact bodyPost_ret (v := .agg #[.slice (some ⟨w1.heap.size, 0, none⟩) 1 1, .int .i64 0]) (results_cell_row (P := Tryz.prog) rfl _ _ w.heap.size 36 _ (0, 0) _ rfl (setRow_heap _ _ _ _ _ _ HX2.out) Tryz.underlying36 rfl (by kernel_rfl)) rfl
    ⟨w1.heap.size, rfl, ⟨rfl, .inr ⟨w1.heap.size, 0, rfl, by rw [setRow_size]; simp, fun i x hi => by
      match i, hi with
      | 0, hi => cases hi; exact ⟨hk 0, hk 1, hk 2, hk 3, ⟨⟨rfl, .inl rfl⟩, ⟨rfl, .inl rfl⟩, Nat.zero_le _, Nat.zero_le _, fun s h => by cases h⟩⟩
      | i + 1, hi => simp [bsc] at hi⟩⟩, HB1.out.size, below_row (HB1.out.alloc HB1.out.size _) (Nat.le_refl _)⟩
theorem bsc_gok {w w' : World} {k : Nat} (hk : k ≤ 6) {g : Nat} (h : HeadsIn w' (some ⟨g, 0, none⟩) 1 (bsc (k : Int))) : GOk w' (some ⟨g, 0, none⟩) 1 0 (bsc (k : Int)) where
  heads := h
  few := rfl
  rlt := by decide
  len := by decide
  ok := by rcases (by omega : k = 0 ∨ k = 1 ∨ k = 2 ∨ k = 3 ∨ k = 4 ∨ k = 5 ∨ k = 6) with rfl | rfl | rfl | rfl | rfl | rfl | rfl <;> rfl
  nil x hx _ := by obtain rfl : x = _ := (by simpa [bsc] using hx); rfl
end Go.Proofs.YtifilhkkgkihpaaGreatDoor
