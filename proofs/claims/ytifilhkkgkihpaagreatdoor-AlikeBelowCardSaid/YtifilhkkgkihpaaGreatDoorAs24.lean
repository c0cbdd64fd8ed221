/- Walks: the reader's typ over an arrow; any such type. Plain: rows of types; a clone of a tree under way. Walks: tree.Clone of a tree of types alone. Walks: tree.New, Builder.Tree, the deferred closure of parse.run. Walks: parse.run over a type, parse.Type. -/
import Derived.Test.YtifilhkkgkihpaaGreatDoorAs23
import Derived.Recover
set_option linter.unusedSimpArgs false
set_option linter.unusedVariables false
set_option linter.unusedSimpArgs false
set_option linter.unusedVariables false
namespace Go.Proofs.YtifilhkkgkihpaaGreatDoor
open Go.RowKit
set_option maxRecDepth 20000 in
set_option maxHeartbeats 8000000 in
theorem typ_arr (w0 w : World) (R Bb gt ct : Nat) (TS : List Tk) (at_ at' op : Nat) (xa : Option Addr) (xc : Nat) (PT : List Nd) (ys : List Ny) (hR : RdS w0 w R Bb gt ct TS at_ op xa xc PT) (hp : PT.length + ys.length + 2 ≤ 1000) (hl : TS.length ≤ 100000) (ho : op < 256) (p : Nat) (t t' : Tk) (ht : TS[at_]? = some t) (h7 : t.kd = 7) (hb : basics[p]? = some t.tx) (ht' : TS[at_ + 1]? = some t') (hi : isB t' [arrow] = true) (hk : t'.kd ≠ 0) (r : Int)
    (ih : ∀ w' xa' xc' y, RdS w0 w' R Bb gt ct TS (at_ + 2) (op + 1) xa' xc' (PT ++ [y]) → Calls Tryz.prog 99 #[.pointer (some ⟨R, 0, none⟩)] w' (TysPost w0 w' R Bb gt ct TS at' (op + 1) xa' xc' (PT ++ [y]) ys (.int .i64 r))) :
    Calls Tryz.prog 99 #[.pointer (some ⟨R, 0, none⟩)] w (TysPost w0 w R Bb gt ct TS at' op xa xc PT (((p : Int), (t.ps : Int), [], [], false) :: (ys ++ [((7 : Int), (t'.ps : Int), [], [(PT.length : Int), r], false)])) (.int .i64 ((PT.length + ys.length + 1 : Nat) : Int))) := by
  have HR := Lib.hid hR
  have HT' := Lib.hid ht'
  have HI := Lib.hid hi
  have HIH := Lib.hid ih
  have HP := Lib.hid hp
  have HK := Lib.hid hk
  have hfd := field_201_2
  have HEN := Lib.hid (enter_any w0 w R Bb gt ct TS at_ op xa xc PT hR ho)
  have HSI : Hid (∀ w', RdS w0 w' R Bb gt ct TS at_ (op + 1) xa xc PT → Calls Tryz.prog 130 #[.pointer (some ⟨R, 0, none⟩)] w' (TyPost w0 w' R Bb gt ct TS (at_ + 1) (op + 1) xa xc PT (p : Int) (t.ps : Int) [] [] false (.int .i64 (PT.length : Int)))) := Lib.hid (fun w' h => simple_word w0 w' R Bb gt ct TS at_ (op + 1) xa xc PT h (by omega) t ht hl h7 p hb)
  clear hR ht ht' hi hb h7 hp ih hk
  go_enter_defers Tryz.func99, Tryz.ntmps99
  go_upto_region 3 with (go_at_call 128; (with_reducible refine HEN.out.mono ?_); rintro e w2 ⟨rfl, hr2, ha2⟩; have HR2 := Lib.hid hr2; have HA2 := Lib.hid ha2; clear hr2 ha2)
  have HS2 := Lib.hid (HSI.out w2 HR2.out)
  go_upto_region 4 with (go_at_call 130; (with_reducible refine HS2.out.mono ?_); rintro e w3 ⟨y3, xa3, xc3, rfl, k1, k2, k3, k4, k5, k6, k7⟩; have HY : Hid (vw (y3, (t.ps : Int)) = ((p : Int), (t.ps : Int), [], [], false)) := Lib.hid (by simp [vw, k1, k2, k3, k4]); have HR3 := Lib.hid k5; have HA3 := Lib.hid k6; have HO3 := Lib.hid k7; clear k1 k2 k3 k4 k5 k6 k7)
  have HN : Hid ((w3.alloc (.cells #[.string ⟨#[45, 62]⟩] 9)).heap[w3.heap.size]? = some (.cells #[.string ⟨#[45, 62]⟩] 9 (0, 0))) := Lib.hid (heap_alloc_new w3 _)
  have HB4 : Hid (Below w3.heap.size w3 (w3.alloc (.cells #[.string ⟨#[45, 62]⟩] 9))) := Lib.hid ((Below.refl _ _).alloc (Nat.le_refl _) _)
  have HIS := Lib.hid (is_any w0 (w3.alloc (.cells #[.string ⟨#[45, 62]⟩] 9)) R Bb gt ct TS (at_ + 1) (op + 1) xa3 xc3 (PT ++ [(y3, (t.ps : Int))]) (HR3.out.on HB4.out) t' HT'.out hl w3.heap.size 1 1 [arrow] rfl (by decide) (by simp) (fun k s hs => by
    rw [cell_of_row _ _ _ _ 9 _ HN.out]
    match k, hs with
    | 0, hs => simp at hs; rw [← hs]; rfl
    | k + 1, hs => simp at hs))
  rw [HI.out] at HIS
  go_upto_region 6 with (go_at_call 131; (with_reducible refine HIS.out.mono ?_); rintro e w5 ⟨rfl, hb5⟩; have HB5 := Lib.hid hb5; clear hb5)
  have HR5 := Lib.hid (HR3.out.on (HB4.out.trans (HB5.out.mono HB4.out.size)))
  have HO3' : Hid (∀ g, (Value.slice xa3 (PT ++ [(y3, (t.ps : Int))]).length xc3).ownBlock = some g → (Value.slice xa PT.length xc).ownBlock = some g ∨ w.heap.size ≤ g) := Lib.hid (fun g e => by
    rw [own_len _ _ _ (PT.length + 1) xc3] at e
    rcases HO3.out g e with r | r
    · exact .inl r
    · exact .inr (Nat.le_trans HA2.out.size r))
  have HA5 : Hid (RdA w w5 R Bb (Value.slice xa PT.length xc).ownBlock) := Lib.hid ((HA2.out.trans HA3.out (fun g e => .inl e)).trans (RdA.of_below (own := (Value.slice xa PT.length xc).ownBlock) (HB4.out.trans (HB5.out.mono HB4.out.size))) (fun g e => .inl e))
  have HNX := Lib.hid (next_all w0 w5 R Bb gt ct TS (at_ + 1) (op + 1) xa3 xc3 (PT ++ [(y3, (t.ps : Int))]) HR5.out t' HT'.out hl)
  go_upto_region 7 with (go_at_call 132; (with_reducible refine HNX.out.mono ?_); rintro e w6 ⟨rfl, hr6, ha6⟩; rw [if_neg HK.out] at hr6; have HR6 := Lib.hid hr6; have HA6 := Lib.hid ha6; clear hr6 ha6)
  have HA6' : Hid (RdA w w6 R Bb (Value.slice xa PT.length xc).ownBlock) := Lib.hid (HA5.out.trans HA6.out HO3'.out)
  have HI6 := Lib.hid (HIH.out w6 xa3 xc3 _ HR6.out)
  have HPT : Hid (∀ w7 xa7 xc7 YS, YS.map vw = ys → RdS w0 w7 R Bb gt ct TS at' (op + 1) xa7 xc7 (PT ++ [(y3, (t.ps : Int))] ++ YS) → Calls Tryz.prog 133 #[.pointer (some ⟨R, 0, none⟩), .agg #[.int .i64 7, .int .i64 (t'.ps : Int), .string ⟨#[]⟩, .slice none 0 0, .slice (some ⟨w7.heap.size, 0, none⟩) 2 2, .bool false]] (w7.alloc (.cells #[.int .i64 (PT.length : Int), .int .i64 r] 3)) (TyPost w0 (w7.alloc (.cells #[.int .i64 (PT.length : Int), .int .i64 r] 3)) R Bb gt ct TS at' (op + 1) xa7 xc7 (PT ++ [(y3, (t.ps : Int))] ++ YS) 7 (t'.ps : Int) [] [(PT.length : Int), r] false (.int .i64 ((PT.length + ys.length + 1 : Nat) : Int)))) := Lib.hid (fun w7 xa7 xc7 YS hy h => by
    have hyl : YS.length = ys.length := by rw [← hy]; simp
    have he : (PT ++ [(y3, (t.ps : Int))] ++ YS).length = PT.length + ys.length + 1 := by simp; omega
    have hn := heap_alloc_new w7 (.cells #[.int .i64 (PT.length : Int), .int .i64 r] 3)
    have hbb : Below w7.heap.size w7 (w7.alloc (.cells #[.int .i64 (PT.length : Int), .int .i64 r] 3)) := (Below.refl _ _).alloc (Nat.le_refl _) _
    have := putType_any w0 (w7.alloc (.cells #[.int .i64 (PT.length : Int), .int .i64 r] 3)) R Bb gt ct TS at' (op + 1) xa7 xc7 (PT ++ [(y3, (t.ps : Int))] ++ YS) (h.on hbb) (by have := HP.out; omega) 7 (t'.ps : Int) none 0 0 [] (some ⟨w7.heap.size, 0, none⟩) 2 2 [(PT.length : Int), r] false ⟨rfl, .inl rfl⟩ ⟨rfl, .inr ⟨w7.heap.size, 0, rfl, by simp, fun i k hk => by
      rw [cell_of_row _ _ _ _ 3 _ hn]
      match i, hk with
      | 0, hk => simp at hk; rw [← hk]; rfl
      | 1, hk => simp at hk; rw [← hk]; rfl
      | i + 2, hk => simp at hk⟩⟩ (by decide) (by decide) (fun _ => rfl) (fun h => by cases h) (fun s h => by cases h)
    rw [he] at this
    exact this)
  go_wp2_with (first
    | (go_at_call 99; (with_reducible refine HI6.out.mono ?_); rintro e w7 ⟨YS, xa7, xc7, rfl, k1, k2, k3, k4⟩; have HYS := Lib.hid k1; have HR7 := Lib.hid k2; have HA7 := Lib.hid k3; have HO7 := Lib.hid k4; have HPT7 := Lib.hid (HPT.out w7 xa7 xc7 YS k1 k2); clear k1 k2 k3 k4)
    | (go_at_call 133; (with_reducible refine HPT7.out.mono ?_); rintro e w8 ⟨y8, xa8, xc8, rfl, k1, k2, k3, k4, k5, k6, k7⟩; have HY8 : Hid (vw (y8, (t'.ps : Int)) = ((7 : Int), (t'.ps : Int), [], [(PT.length : Int), r], false)) := Lib.hid (by simp [vw, k1, k2, k3, k4]); have HR8 := Lib.hid k5; have HA8 := Lib.hid k6; have HO8 := Lib.hid k7; clear k1 k2 k3 k4 k5 k6 k7))
  have HA7' : Hid (RdA w w7 R Bb (Value.slice xa PT.length xc).ownBlock) := Lib.hid (HA6'.out.trans HA7.out HO3'.out)
  have HO7' : Hid (∀ g, (Value.slice xa7 (PT ++ [(y3, (t.ps : Int))] ++ YS).length xc7).ownBlock = some g → (Value.slice xa PT.length xc).ownBlock = some g ∨ w.heap.size ≤ g) := Lib.hid (fun g e => by
    rcases HO7.out g e with r | r
    · exact HO3'.out g r
    · exact .inr (Nat.le_trans HA6'.out.size r))
  have HB8 : Hid (Below w7.heap.size w7 (w7.alloc (.cells #[.int .i64 (PT.length : Int), .int .i64 r] 3))) := Lib.hid ((Below.refl _ _).alloc (Nat.le_refl _) _)
  have HA8' : Hid (RdA w w8 R Bb (Value.slice xa PT.length xc).ownBlock) := Lib.hid ((HA7'.out.trans (RdA.of_below (own := (Value.slice xa PT.length xc).ownBlock) HB8.out) (fun g e => .inl e)).trans HA8.out HO7'.out)
  have HO8' : Hid (∀ (n : Nat) (g : Nat), (Value.slice xa8 n xc8).ownBlock = some g → (Value.slice xa PT.length xc).ownBlock = some g ∨ w.heap.size ≤ g) := Lib.hid (fun n g e => by
    rw [own_len _ _ _ ((PT ++ [(y3, (t.ps : Int))] ++ YS).length + 1) xc8] at e
    rcases HO8.out g e with r | r
    · exact HO7'.out g r
    · exact .inr (Nat.le_trans HA7'.out.size (Nat.le_trans HB8.out.size r)))
  refine leaves_cons (f := 129) (args := #[.pointer (some ⟨R, 0, none⟩)]) (by simp) (by simp [go_sem]) ?_
  refine (leave_d w0 w8 .returning R Bb gt ct TS at' op xa8 xc8 _ HR8.out ho).mono ?_
  rintro e u' w9 ⟨rfl, rfl, hr9, ha9⟩
  refine ⟨_, results_tmp rfl _ _ _, ?_⟩
  refine ⟨[(y3, (t.ps : Int))] ++ YS ++ [(y8, (t'.ps : Int))], xa8, xc8, rfl, by simp [HY.out, HYS.out, HY8.out], by simpa using hr9, HA8'.out.trans ha9 (fun g e => HO8'.out _ g e), fun g e => HO8'.out _ g e⟩
theorem typt_any (w0 : World) (R Bb gt ct : Nat) (TS : List Tk) (hl : TS.length ≤ 100000) {a a' d m : Nat} {ys : List Ny} (hT : TypT TS a a' d m ys) : ∀ (op : Nat) (xa : Option Addr) (xc : Nat) (PT : List Nd) (w : World), m = PT.length → RdS w0 w R Bb gt ct TS a op xa xc PT → PT.length + ys.length ≤ 1000 → op + d ≤ 256 →
    Calls Tryz.prog 99 #[.pointer (some ⟨R, 0, none⟩)] w (TysPost w0 w R Bb gt ct TS a' op xa xc PT ys (.int .i64 ((PT.length + ys.length - 1 : Nat) : Int))) := by
  induction hT with
  | word ht h7 hb ht' hi =>
    intro op xa xc PT w hm hR hp ho
    simp at hp
    exact typ_word w0 w R Bb gt ct TS _ op xa xc PT hR (by omega) hl (by omega) _ _ _ ht h7 hb ht' hi
  | arr ht h7 hb ht' hi hk hpos hT' ih =>
    rename_i at_ at' d m p t t' ys
    intro op xa xc PT w hm hR hp ho
    simp at hp
    subst hm
    have := typ_arr w0 w R Bb gt ct TS at_ at' op xa xc PT ys hR (by omega) hl (by omega) p t t' ht h7 hb ht' hi hk ((PT.length + ys.length : Nat) : Int) (fun w' xa' xc' y h => by
      have := ih (op + 1) xa' xc' (PT ++ [y]) w' (by simp) h (by rw [List.length_append]; simp only [List.length_cons, List.length_nil]; omega) (by omega)
      have e : (PT ++ [y]).length + ys.length - 1 = PT.length + ys.length := by rw [List.length_append]; simp only [List.length_cons, List.length_nil]; omega
      rw [e] at this
      exact this)
    have e : PT.length + (((p : Int), (t.ps : Int), ([] : List ByteArray), ([] : List Int), false) :: (ys ++ [((7 : Int), (t'.ps : Int), ([] : List ByteArray), [(PT.length : Int), ((PT.length + ys.length : Nat) : Int)], false)])).length - 1 = PT.length + ys.length + 1 := by simp; omega
    rw [e]
    exact this
end Go.Proofs.YtifilhkkgkihpaaGreatDoor
set_option linter.unusedSimpArgs false
set_option linter.unusedVariables false
namespace Go.Proofs.YtifilhkkgkihpaaGreatDoor
open Go.RowKit
/-- types as they lie in a row. -/
structure TpsIn (w : World) (xa : Option Addr) (n : Nat) (PT : List Nd) : Prop where
  len : n = PT.length
  row : n = 0 ∨ ∃ g o, xa = some ⟨g, o, none⟩ ∧ g < w.heap.size ∧ ∀ i x, PT[i]? = some x → ∀ j, j < 6 → w.cell? ⟨g, o + (i * 6 + j), none⟩ = (ncells x)[j]?
  nds : ∀ x ∈ PT, HdOk w x.1 ∧ (x.1.na = none → x.1.nc = 0) ∧ (x.1.ka = none → x.1.kc = 0)
theorem TpsIn.on {w w' : World} {xa : Option Addr} {n : Nat} {PT : List Nd} (h : TpsIn w xa n PT) (hb : Below w.heap.size w w') : TpsIn w' xa n PT where
  len := h.len
  row := by
    rcases h.row with r | ⟨g, o, e, hg, hc⟩
    · exact .inl r
    · exact .inr ⟨g, o, e, Nat.lt_of_lt_of_le hg hb.size, fun i x hx j hj => by rw [keepB hb hg (v := (ncells x)[j]'(by simpa [ncells] using hj)) (by rw [hc i x hx j hj]; exact List.getElem?_eq_getElem _)]; exact (List.getElem?_eq_getElem _).symm⟩
  nds x hx := ⟨(h.nds x hx).1.on hb, (h.nds x hx).2⟩
theorem nflat_at : ∀ (L : List Nd) (i j : Nat) (t : Nd), L[i]? = some t → j < 6 → (L.flatMap ncells)[i * 6 + j]? = (ncells t)[j]?
  | [], i, j, t, h, _ => by simp at h
  | z :: r, 0, j, t, h, hj => by
    obtain rfl : z = t := by simpa using h
    rw [List.flatMap_cons, List.getElem?_append_left (by simp [ncells]; omega)]
    simp
  | z :: r, i + 1, j, t, h, hj => by
    rw [List.flatMap_cons, List.getElem?_append_right (by simp [ncells]; omega)]
    have e : (i + 1) * 6 + j - (ncells z).length = i * 6 + j := by simp [ncells]; omega
    rw [e]
    exact nflat_at r i j t (by simpa using h) hj
theorem tps_own {w : World} {base : Nat} {xa : Option Addr} {xc : Nat} {PT : List Nd} (h : w.ownsRow base 152 6 (.slice xa PT.length xc) PT.length (PT.flatMap ncells)) (hn : ∀ x ∈ PT, HdOk w x.1 ∧ (x.1.na = none → x.1.nc = 0) ∧ (x.1.ka = none → x.1.kc = 0)) : TpsIn w xa PT.length PT where
  len := rfl
  row := by
    cases PT with
    | nil => exact .inl rfl
    | cons z r =>
      obtain ⟨g, rfl⟩ : ∃ g, xa = some ⟨g, 0, none⟩ := by
        rcases h.2 with ⟨e, _⟩ | ⟨g, c, cur, e, -⟩
        · cases e
        · cases e; exact ⟨g, rfl⟩
      refine .inr ⟨g, 0, rfl, (h.lt g rfl).2, fun i x hx j hj => ?_⟩
      rw [h.cellAt (0 + (i * 6 + j)) (by have := (List.getElem?_eq_some_iff.1 hx).1; simp only [List.length_cons] at this ⊢; omega), Nat.zero_add]
      exact nflat_at _ i j x hx hj
  nds := hn
/-- a clone of a tree's types, as far as it is. -/
structure CSt (w wr : World) (B : Nat) (xa : Option Addr) (xc : Nat) (YT : List Nd) : Prop where
  below : Below w.heap.size w wr
  ge : w.heap.size ≤ B
  box : wr.heap[B]? = some (.cells #[.slice none 0 0, .slice xa YT.length xc, .slice none 0 0] 108 (0, 0))
  typs : wr.ownsRow w.heap.size 152 6 (.slice xa YT.length xc) YT.length (YT.flatMap ncells)
  nds : ∀ x ∈ YT, HdOk wr x.1 ∧ (x.1.na = none → x.1.nc = 0) ∧ (x.1.ka = none → x.1.kc = 0)
  sep : ∀ x ∈ YT, ∀ ad, blkOf x.1 ad → B < ad.block ∧ ad.block ≠ B ∧ ad.block < wr.heap.size ∧ (Value.slice xa YT.length xc).ownBlock ≠ some ad.block
section
variable {w wr w' : World} {B : Nat} {xa : Option Addr} {xc : Nat} {YT : List Nd}
theorem CSt.ltB (h : CSt w wr B xa xc YT) : B < wr.heap.size := (Array.getElem?_eq_some_iff.1 h.box).1
theorem CSt.neB (h : CSt w wr B xa xc YT) : (Value.slice xa YT.length xc).ownBlock ≠ some B := own_boxP h.typs h.box (by decide)
theorem CSt.on (h : CSt w wr B xa xc YT) (hb : Below wr.heap.size wr w') : CSt w w' B xa xc YT where
  below := h.below.trans (hb.mono h.below.size)
  ge := h.ge
  box := (hb.block B h.ltB).trans h.box
  typs := ownsRow_mono h.typs (fun g hg => hb.block g (h.typs.lt g hg).2)
  nds x hx := ⟨(h.nds x hx).1.on hb, (h.nds x hx).2⟩
  sep x hx ad e := by
    obtain ⟨h1, h2, h3, h4⟩ := h.sep x hx ad e
    exact ⟨h1, h2, Nat.lt_of_lt_of_le h3 hb.size, h4⟩
theorem CSt.step (h : CSt w wr B xa xc YT) {x : Hd} {ps : Int} {wd : World} (hd : Below wr.heap.size wr wd) {o : Obj} {w6 : World} {g6 c6 : Nat}
    (hx : HdOk wd x) (hxn : (x.na = none → x.nc = 0) ∧ (x.ka = none → x.kc = 0)) (hxs : ∀ ad, blkOf x ad → wr.heap.size ≤ ad.block ∧ ad.block < wd.heap.size)
    (hg : (wd.alloc o).grownBy w6 (Value.slice xa YT.length xc).ownBlock) (hown : w6.ownsRow w.heap.size 152 6 (.slice (some ⟨g6, 0, none⟩) (YT.length + 1) c6) (YT.length + 1) (YT.flatMap ncells ++ ncells (x, ps))) (hw : (Value.slice xa YT.length xc).ownBlock = some g6 ∨ g6 = (wd.alloc o).heap.size) :
    CSt w (w6.setCell ⟨B, 1, none⟩ (.slice (some ⟨g6, 0, none⟩) (YT.length + 1) c6)) B (some ⟨g6, 0, none⟩) c6 (YT ++ [(x, ps)]) := by
  have hbd : Below wr.heap.size wr (wd.alloc o) := hd.alloc hd.size _
  have hsd : (wd.alloc o).heap.size = wd.heap.size + 1 := by simp
  have hds := hd.size
  have hBl := h.ltB
  have hlo : ∀ b, b < wr.heap.size → (Value.slice xa YT.length xc).ownBlock ≠ some b → w6.heap[b]? = wr.heap[b]? := fun b hb e => by
    rw [hg.block b (by omega) (fun e' => e e'.symm)]
    exact hbd.block b hb
  have hB6 := (hlo B hBl h.neB).trans h.box
  have hsz : wr.heap.size ≤ w6.heap.size := Nat.le_trans hbd.size hg.size
  have hgs := hg.size
  have hkeep : ∀ b, b < wr.heap.size → b ≠ B → (Value.slice xa YT.length xc).ownBlock ≠ some b → (w6.setCell ⟨B, 1, none⟩ (.slice (some ⟨g6, 0, none⟩) (YT.length + 1) c6)).heap[b]? = wr.heap[b]? := fun b hb h1 h2 => by
    rw [Below.heap_setCell _ _ _ _ h1]
    exact hlo b hb h2
  have hgb : ∀ b, b < wr.heap.size → (Value.slice xa YT.length xc).ownBlock ≠ some b → g6 ≠ b := fun b hb hne e => by
    rcases hw with r | r
    · exact hne (by rw [r, e])
    · omega
  have howl : ∀ g, (Value.slice xa YT.length xc).ownBlock = some g → w.heap.size ≤ g ∧ g < wr.heap.size := fun g e => h.typs.lt g e
  have hbs := h.below.size
  have e1 : (YT ++ [(x, ps)]).length = YT.length + 1 := by simp
  exact {
    below := ⟨hg.os.trans (hbd.os.trans h.below.os), hg.tape.trans (hbd.tape.trans h.below.tape), hg.output.trans (hbd.output.trans h.below.output), by simpa using Nat.le_trans hbs hsz, fun b hb => by
      rw [hkeep b (by omega) (fun e => by have := h.ge; omega) (fun e => by have := howl _ e; omega)]
      exact h.below.block b hb⟩
    ge := h.ge
    box := by
      rw [e1, heap_setCell_same _ B 1 _ 108 _ hB6]
      rfl
    typs := by
      rw [e1, List.flatMap_append]
      have := ownsRow_mono (w' := w6.setCell ⟨B, 1, none⟩ (.slice (some ⟨g6, 0, none⟩) (YT.length + 1) c6)) hown (fun g e => by
        cases e
        exact Below.heap_setCell _ _ _ _ (hgb B hBl h.neB))
      simpa using this
    nds := fun z hz => by
      rcases List.mem_append.1 hz with r | r
      · exact ⟨hd_kept (h.nds z r).1 (fun ad e _ => by obtain ⟨s1, s2, s3, s4⟩ := h.sep z r ad e; exact hkeep _ s3 s2 s4) (by simpa using hsz), (h.nds z r).2⟩
      · obtain rfl : z = (x, ps) := by simpa using r
        refine ⟨hd_kept hx (fun ad e hl => ?_) (by simp; omega), hxn⟩
        obtain ⟨s1, s2⟩ := hxs ad e
        rw [Below.heap_setCell _ _ _ _ (by simp; omega), hg.block _ (by omega) (fun e2 => by have := howl _ e2.symm; omega), Below.heap_alloc _ _ _ s2]
    sep := fun z hz ad e => by
      rcases List.mem_append.1 hz with r | r
      · obtain ⟨s1, s2, s3, s4⟩ := h.sep z r ad e
        exact ⟨s1, s2, by simp; omega, fun e2 => hgb _ s3 s4 (by simpa [Value.ownBlock] using e2)⟩
      · obtain rfl : z = (x, ps) := by simpa using r
        obtain ⟨s1, s2⟩ := hxs ad e
        refine ⟨by omega, by omega, by simp; omega, fun e2 => ?_⟩
        have e3 : g6 = ad.block := by simpa [Value.ownBlock] using e2
        rcases hw with q | q
        · have := howl _ q; omega
        · omega }
end
end Go.Proofs.YtifilhkkgkihpaaGreatDoor
set_option linter.unusedSimpArgs false
set_option linter.unusedVariables false
namespace Go.Proofs.YtifilhkkgkihpaaGreatDoor
open Go.RowKit
theorem alias_nil (w : World) : Calls Tryz.prog 218 #[.slice none 0 0] w fun e w' => e = .returned (.slice none 0 0) ∧ w = w' := by
  have hq := Lib.run_eql_slice_nil (P := Tryz.prog) w 106 190 none 0 0 0 0 Tryz.underlying106
  simp only [Option.isNone] at hq
  go_enter Tryz.func218, Tryz.ntmps218
  go_wp2
  go_ret
  exact ⟨rfl, rfl⟩
theorem CSt.kept {w wr : World} {B : Nat} {xa : Option Addr} {xc : Nat} {YT : List Nd} (h : CSt w wr B xa xc YT) {wd : World} (hd : Below wr.heap.size wr wd) {o : Obj} {w6 : World} (hg : (wd.alloc o).grownBy w6 (Value.slice xa YT.length xc).ownBlock) (v : Value) {b : Nat} {cs : Array Value} {t : TypeId} {f : Nat × Nat} (hb : wr.heap[b]? = some (.cells cs t f)) (ht : 152 ≠ t) (hne : b ≠ B) : (w6.setCell ⟨B, 1, none⟩ v).heap[b]? = some (.cells cs t f) := by
  have hl : b < wr.heap.size := (Array.getElem?_eq_some_iff.1 hb).1
  have hbd : Below wr.heap.size wr (wd.alloc o) := hd.alloc hd.size _
  rw [Below.heap_setCell _ _ _ _ hne, hg.block b (Nat.lt_of_lt_of_le hl hbd.size) (fun e => own_boxP h.typs hb ht e.symm), hbd.block b hl]
  exact hb
/-- a tree of types alone, read again. -/
def ClPost (w : World) (PT : List Nd) (e : Ending) (w' : World) : Prop := ∃ xa' xc' YT, e = .returned (.agg #[.slice none 0 0, .slice xa' PT.length xc', .slice none 0 0]) ∧ YT.map vw = PT.map vw ∧ TpsIn w' xa' PT.length YT ∧ (∀ ad, xa' = some ad → w.heap.size ≤ ad.block) ∧ (∀ x ∈ YT, ∀ ad, blkOf x.1 ad → w.heap.size ≤ ad.block) ∧ Below w.heap.size w w'
theorem TpsIn.at {w : World} {xa : Option Addr} {n : Nat} {PT : List Nd} (h : TpsIn w xa n PT) {i : Nat} {x : Nd} (hx : PT[i]? = some x) : ∃ g o, xa = some ⟨g, o, none⟩ ∧ g < w.heap.size ∧ w.cell? ⟨g, o + i * 6, none⟩ = some (.int .i64 x.1.kd) ∧ w.cell? ⟨g, o + i * 6 + 1, none⟩ = some (.int .i64 x.2) ∧ w.cell? ⟨g, o + i * 6 + 2, none⟩ = some (.string ⟨#[]⟩) ∧ w.cell? ⟨g, o + i * 6 + 3, none⟩ = some (.slice x.1.na x.1.nn x.1.nc) ∧ w.cell? ⟨g, o + i * 6 + 4, none⟩ = some (.slice x.1.ka x.1.kn x.1.kc) ∧ w.cell? ⟨g, o + i * 6 + 5, none⟩ = some (.bool x.1.op) := by
  rcases h.row with r | ⟨g, o, e, hg, hc⟩
  · have h1 := (List.getElem?_eq_some_iff.1 hx).1
    have := h.len
    omega
  · have hc' : ∀ j, j < 6 → w.cell? ⟨g, o + i * 6 + j, none⟩ = (ncells x)[j]? := fun j hj => by rw [Nat.add_assoc]; exact hc i x hx j hj
    exact ⟨g, o, e, hg, hc' 0 (by omega), hc' 1 (by omega), hc' 2 (by omega), hc' 3 (by omega), hc' 4 (by omega), hc' 5 (by omega)⟩
set_option maxRecDepth 20000 in
set_option maxHeartbeats 8000000 in
theorem clone_tree (w : World) (xa : Option Addr) (xc : Nat) (PT : List Nd) (hT : TpsIn w xa PT.length PT) (hp : PT.length ≤ 1000) :
    Calls Tryz.prog 165 #[.agg #[.slice none 0 0, .slice xa PT.length xc, .slice none 0 0]] w (ClPost w PT) := by
  have HT := Lib.hid hT
  have HP := Lib.hid hp
  have hp2 : (PT.length : Int) ≤ 1000 := by omega
  obtain ⟨i0, hi9, hz0, hz1, hz2⟩ := info_parts Tryz.infoTn
  have HIF := Lib.hid hi9
  have HIF0 := Lib.hid hz0
  have HIF1 := Lib.hid hz1
  have HIF2 := Lib.hid hz2
  have HX : Hid (((w.alloc (.cells #[.slice none 0 0, .slice xa PT.length xc, .slice none 0 0] 108)).alloc (.cells #[.slice none 0 0, .slice none 0 0, .slice none 0 0] 108)).heap[w.heap.size]? = some (.cells #[.slice none 0 0, .slice xa PT.length xc, .slice none 0 0] 108 (0, 0))) := Lib.hid (by rw [Below.heap_alloc _ _ _ (by simp)]; exact heap_alloc_new w _)
  have HY : Hid (((w.alloc (.cells #[.slice none 0 0, .slice xa PT.length xc, .slice none 0 0] 108)).alloc (.cells #[.slice none 0 0, .slice none 0 0, .slice none 0 0] 108)).heap[w.heap.size + 1]? = some (.cells #[.slice none 0 0, .slice none 0 0, .slice none 0 0] 108 (0, 0))) := Lib.hid (by
    have := heap_alloc_new (w.alloc (.cells #[.slice none 0 0, .slice xa PT.length xc, .slice none 0 0] 108)) (.cells #[.slice none 0 0, .slice none 0 0, .slice none 0 0] 108)
    simpa using this)
  have HB : Hid (Below w.heap.size w ((w.alloc (.cells #[.slice none 0 0, .slice xa PT.length xc, .slice none 0 0] 108)).alloc (.cells #[.slice none 0 0, .slice none 0 0, .slice none 0 0] 108))) := Lib.hid (((Below.refl _ _).alloc (Nat.le_refl _) _).alloc (by simp) _)
  have HSZ : Hid (((w.alloc (.cells #[.slice none 0 0, .slice xa PT.length xc, .slice none 0 0] 108)).alloc (.cells #[.slice none 0 0, .slice none 0 0, .slice none 0 0] 108)).heap.size = w.heap.size + 2) := Lib.hid (by simp)
  clear hT hp hi9 hz0 hz1 hz2
  go_enter Tryz.func165, Tryz.ntmps165
  go_upto_region 1 with (fail)
  generalize ((w.alloc (.cells #[.slice none 0 0, .slice xa PT.length xc, .slice none 0 0] 108)).alloc (.cells #[.slice none 0 0, .slice none 0 0, .slice none 0 0] 108)) = w1 at *
  have a0 : w1.cell? ⟨w.heap.size, 0, none⟩ = some (.slice none 0 0) := (by rw [cell_of_row _ _ 0 _ 108 _ HX.out]; rfl)
  have a2 : w1.cell? ⟨w.heap.size, 2, none⟩ = some (.slice none 0 0) := (by rw [cell_of_row _ _ 2 _ 108 _ HX.out]; rfl)
  go_upto_region 2 with (go_at_call 218; (with_reducible refine (alias_nil _).mono ?_); rintro e w1 ⟨rfl, rfl⟩)
  clear a0 a2
  have HC : Hid (CSt w (w1.alloc (.cells #[.slice none 0 0, .slice none 0 0, .slice none 0 0] 108)) w1.heap.size none 0 []) := Lib.hid ⟨HB.out.alloc HB.out.size _, HB.out.size, heap_alloc_new w1 _, World.ownsRow_nil _ _ _ _, fun x h => (by cases h), fun x h => (by cases h)⟩
  have HX2 : Hid ((w1.alloc (.cells #[.slice none 0 0, .slice none 0 0, .slice none 0 0] 108)).heap[w.heap.size]? = some (.cells #[.slice none 0 0, .slice xa PT.length xc, .slice none 0 0] 108 (0, 0))) := Lib.hid (by rw [Below.heap_alloc _ _ _ (by have := HSZ.out; omega)]; exact HX.out)
  have HY2 : Hid ((w1.alloc (.cells #[.slice none 0 0, .slice none 0 0, .slice none 0 0] 108)).heap[w.heap.size + 1]? = some (.cells #[.slice none 0 0, .slice none 0 0, .slice none 0 0] 108 (0, 0))) := Lib.hid (by rw [Below.heap_alloc _ _ _ (by have := HSZ.out; omega)]; exact HY.out)
  generalize hB : w1.heap.size = B at *
  have HBB : Hid (B = w.heap.size + 2) := Lib.hid HSZ.out
  generalize (w1.alloc (.cells #[.slice none 0 0, .slice none 0 0, .slice none 0 0] 108)) = w2 at *
  clear HX HY HB HSZ hB
  have a0 : w2.cell? ⟨w.heap.size, 0, none⟩ = some (.slice none 0 0) := (by rw [cell_of_row _ _ 0 _ 108 _ HX2.out]; rfl)
  go_upto_region 3 with (fail)
  clear a0
  go_loopw [15] (fun s15 wr => s15 = .int .i64 0 ∧ Hid (CSt w wr B none 0 []) ∧ Hid (wr.heap[w.heap.size]? = some (.cells #[.slice none 0 0, .slice xa PT.length xc, .slice none 0 0] 108 (0, 0))) ∧ Hid (wr.heap[w.heap.size + 1]? = some (.cells #[.slice none 0 0, .slice none 0 0, .slice none 0 0] 108 (0, 0)))) (fun _ _ => 0)
  case atStart => exact ⟨rfl, HC, HX2, HY2⟩
  case round =>
    obtain ⟨rfl, HC3, HX3, HY3⟩ := hrel
    clear HC HX2 HY2
    obtain ⟨w3, rfl⟩ : ∃ w3 : World, w3 = wr := ⟨_, rfl⟩
    have a1 : w3.cell? ⟨w.heap.size, 1, none⟩ = some (.slice xa PT.length xc) := (by rw [cell_of_row _ _ 1 _ 108 _ HX3.out]; rfl)
    go_upto_region 8 with (fail)
    clear a1
    go_loopw [30] (fun s30 wr => ∃ (i : Nat) (xa' : Option Addr) (xc' : Nat) (YT : List Nd), s30 = .int .i64 (i : Int) ∧ i ≤ PT.length ∧ YT.length = i ∧ Hid (YT.map vw = (PT.take i).map vw) ∧ Hid (CSt w wr B xa' xc' YT) ∧ Hid (wr.heap[w.heap.size]? = some (.cells #[.slice none 0 0, .slice xa PT.length xc, .slice none 0 0] 108 (0, 0))) ∧ Hid (wr.heap[w.heap.size + 1]? = some (.cells #[.slice none 0 0, .slice none 0 0, .slice none 0 0] 108 (0, 0)))) (fun s30 _ => PT.length - (intOf s30).toNat)
    case atStart => exact ⟨0, none, 0, [], rfl, Nat.zero_le _, rfl, Lib.hid rfl, HC3, HX3, HY3⟩
    case round =>
      obtain ⟨i, xa4, xc4, YT, rfl, hin, hlen, HM, HC4, HX4, HY4⟩ := hrel
      clear HC3 HX3 HY3
      obtain ⟨w4, rfl⟩ : ∃ w4 : World, w4 = wr := ⟨_, rfl⟩
      by_cases hlt : i < PT.length
      · have hlt2 : (i : Int) < PT.length := by omega
        have hwi : IntKind.i64.wrap ((i : Int) + 1) = (i : Int) + 1 := by rw [IntKind.wrap_i64]; omega
        obtain ⟨x, hx⟩ : ∃ x, PT[i]? = some x := ⟨_, List.getElem?_eq_getElem hlt⟩
        have HXX := Lib.hid hx
        have HT4 := Lib.hid (HT.out.on HC4.out.below)
        have HOK := Lib.hid (HT4.out.nds x (List.mem_of_getElem? hx))
        obtain ⟨g, o, rfl, hg, c0, c1, c2, c3, c4, c5⟩ := HT4.out.at hx
        have HLEN : Hid (YT.length = i) := Lib.hid hlen
        clear hx hlen
        obtain ⟨⟨kd, na, nn, nc, NS, ka, kn, kc, KS, op⟩, ps⟩ := x
        simp only at c0 c1 c2 c3 c4 c5 HOK
        go_upto_region 10 with (fail)
        clear c0 c1 c2 c3 c4 c5 hg
        have HZ : Hid ((w4.alloc (.cells #[.int .i64 kd, .int .i64 ps, .string ⟨#[]⟩, .slice na nn nc, .slice ka kn kc, .bool op] 152)).heap[w4.heap.size]? = some (.cells #[.int .i64 kd, .int .i64 ps, .string ⟨#[]⟩, .slice na nn nc, .slice ka kn kc, .bool op] 152 (0, 0))) := Lib.hid (heap_alloc_new w4 _)
        have HB5 : Hid (Below w4.heap.size w4 (w4.alloc (.cells #[.int .i64 kd, .int .i64 ps, .string ⟨#[]⟩, .slice na nn nc, .slice ka kn kc, .bool op] 152))) := Lib.hid ((Below.refl _ _).alloc (Nat.le_refl _) _)
        have HCL : Hid (∀ w', Below w4.heap.size w4 w' → Calls Tryz.prog 220 #[.agg #[.int .i64 kd, .int .i64 ps, .string ⟨#[]⟩, .slice na nn nc, .slice ka kn kc, .bool op]] w' (ClonePostT w' kd ps ⟨#[]⟩ nn NS kn KS op)) := Lib.hid (fun w' hb => clone_type w' kd ps ⟨#[]⟩ na nn nc NS ka kn kc KS op (HOK.out.1.names.on hb) (HOK.out.1.kids.on hb) HOK.out.1.nnb (by have := HOK.out.1.knb; simp only at this; omega) HOK.out.2.1 HOK.out.2.2)
        generalize (w4.alloc (.cells #[.int .i64 kd, .int .i64 ps, .string ⟨#[]⟩, .slice na nn nc, .slice ka kn kc, .bool op] 152)) = w5 at *
        have HC5 := Lib.hid (HC4.out.on HB5.out)
        have HSB : Hid (w.heap.size ≤ w4.heap.size) := Lib.hid HC4.out.below.size
        have b1 : w5.cell? ⟨B, 1, none⟩ = some (.slice xa4 YT.length xc4) := (by rw [cell_of_row _ _ 1 _ 108 _ HC5.out.box]; rfl)
        have c0 : w5.cell? ⟨w4.heap.size, 0, none⟩ = some (.int .i64 kd) := (by rw [cell_of_row _ _ 0 _ 152 _ HZ.out]; rfl)
        have c1 : w5.cell? ⟨w4.heap.size, 1, none⟩ = some (.int .i64 ps) := (by rw [cell_of_row _ _ 1 _ 152 _ HZ.out]; rfl)
        have c2 : w5.cell? ⟨w4.heap.size, 2, none⟩ = some (.string ⟨#[]⟩) := (by rw [cell_of_row _ _ 2 _ 152 _ HZ.out]; rfl)
        have c3 : w5.cell? ⟨w4.heap.size, 3, none⟩ = some (.slice na nn nc) := (by rw [cell_of_row _ _ 3 _ 152 _ HZ.out]; rfl)
        have c4 : w5.cell? ⟨w4.heap.size, 4, none⟩ = some (.slice ka kn kc) := (by rw [cell_of_row _ _ 4 _ 152 _ HZ.out]; rfl)
        have c5 : w5.cell? ⟨w4.heap.size, 5, none⟩ = some (.bool op) := (by rw [cell_of_row _ _ 5 _ 152 _ HZ.out]; rfl)
        go_region_law
          (first
            | (go_simp; go_at_call 220; (with_reducible refine (HCL.out _ (by exact HB5.out.drew)).mono ?_); rintro e w6 ⟨a6, cc6, b6, d6, rfl, hn6, hk6, hsp6, hza6, hzb6, hla6, hlb6, hb6⟩; have HBD : Hid (Below w5.heap.size w5 w6) := Lib.hid ((Below.refl _ _).drew.trans hb6); have HB6 : Hid (Below w4.heap.size w4 w6) := Lib.hid (HB5.out.trans (HBD.out.mono HB5.out.size)); have HX6 : Hid (HdOk w6 ⟨kd, a6, nn, cc6, NS, b6, kn, d6, KS, op⟩) := Lib.hid ⟨hn6, own_ints hk6, HOK.out.1.nnb, HOK.out.1.knb, HOK.out.1.small⟩; have HXN6 : Hid ((a6 = none → cc6 = 0) ∧ (b6 = none → d6 = 0)) := Lib.hid ⟨hza6, hzb6⟩; have HC6 := Lib.hid (HC5.out.on HBD.out); have HL6 := Lib.hid hla6; have HLB6 := Lib.hid hlb6; have HNK := Lib.hid hn6; have HKK := Lib.hid hk6; have b6x : w6.cell? ⟨B, 1, none⟩ = some (.slice xa4 YT.length xc4) := (by rw [cell_of_row _ _ 1 _ 108 _ HC6.out.box]; rfl); have b6y : (w6.alloc (.cells #[.int .i64 kd, .int .i64 ps, .string ⟨#[]⟩, .slice a6 nn cc6, .slice b6 kn d6, .bool op] 152)).cell? ⟨B, 1, none⟩ = some (.slice xa4 YT.length xc4) := (by rw [cell_of_row _ _ 1 _ 108 _ ((Below.heap_alloc _ _ _ HC6.out.ltB).trans HC6.out.box)]; rfl); have HO6 : Hid ((w6.alloc (.cells #[.int .i64 kd, .int .i64 ps, .string ⟨#[]⟩, .slice a6 nn cc6, .slice b6 kn d6, .bool op] 152)).ownsRow w.heap.size 152 6 (.slice xa4 YT.length xc4) YT.length (YT.flatMap ncells)) := Lib.hid (HC6.out.typs.alloc _); clear hn6 hk6 hsp6 hza6 hzb6 hla6 hlb6 hb6)
            | (refine step_append_lies (w6.alloc (.cells #[.int .i64 kd, .int .i64 ps, .string ⟨#[]⟩, .slice a6 nn cc6, .slice b6 kn d6, .bool op] 152)) rfl _ _ 105 rfl w.heap.size 152 i0 (.agg #[.int .i64 0, .int .i64 0, .string ⟨#[]⟩, .slice none 0 0, .slice none 0 0, .bool false]) 6 88 Tryz.underlying105 HIF.out HIF0.out HIF1.out HIF2.out rfl (by decide) (.slice xa4 YT.length xc4) YT.length (YT.flatMap ncells) rfl HO6.out ⟨w6.heap.size, 0, none⟩ 1 1 [.int .i64 kd, .int .i64 ps, .string ⟨#[]⟩, .slice a6 nn cc6, .slice b6 kn d6, .bool op] rfl rfl (news_of (heap_alloc_new w6 _)) (by simp [Value.oneCell']) (by decide) (by unfold maxLen; have := HP.out; have := HLEN.out; omega) (by have := HP.out; have := HLEN.out; omega) (by have h1 := HSB.out; have h2 := HB6.out.size; simp; omega) _ rfl ?_; intro g7 cc7 w7 hown7 hgr7 hat7 hlt7; have HOW7 := Lib.hid hown7; have HGR7 := Lib.hid hgr7; have HAT7 := Lib.hid hat7; have HBB7 : Hid (w7.heap[B]? = some (.cells #[.slice none 0 0, .slice xa4 YT.length xc4, .slice none 0 0] 108 (0, 0))) := Lib.hid (by rw [hgr7.block B (by have := HC6.out.ltB; simp; omega) (fun e => HC6.out.neB e.symm), Below.heap_alloc _ _ _ HC6.out.ltB]; exact HC6.out.box); have b7x : w7.cell? ⟨B, 1, none⟩ = some (.slice xa4 YT.length xc4) := (by rw [cell_of_row _ _ 1 _ 108 _ HBB7.out]; rfl); have f7x : w7.frozen? ⟨B, 1, none⟩ = false := frozen_of_row _ _ 1 _ 108 HBB7.out; have l7x : B < w7.heap.size := (Array.getElem?_eq_some_iff.1 HBB7.out).1; clear hown7 hgr7 hat7 hlt7)
            | fail)
        all_goals
          have HST := Lib.hid (HC4.out.step HB6.out (x := ⟨kd, a6, nn, cc6, NS, b6, kn, d6, KS, op⟩) (ps := ps) HX6.out HXN6.out (fun ad e => by
            rcases e with ⟨e1, e2⟩ | ⟨e1, e2⟩
            · refine ⟨Nat.le_trans HB5.out.size (HL6.out ad e1), ?_⟩
              rcases HNK.out.2 with h9 | ⟨g, oo, e3, hl, _⟩
              · exact absurd h9 e2
              · simp only at e1
                rw [e3] at e1; cases e1; exact hl
            · refine ⟨Nat.le_trans HB5.out.size (HLB6.out ad e1), ?_⟩
              simp only at e1
              subst e1
              exact (HKK.out.lt _ rfl).2) HGR7.out HOW7.out HAT7.out)
          have HX8 := Lib.hid (HC4.out.kept HB6.out HGR7.out (.slice (some ⟨g7, 0, none⟩) (YT.length + 1) cc7) HX4.out (by decide) (by have := HBB.out; omega))
          have HY8 := Lib.hid (HC4.out.kept HB6.out HGR7.out (.slice (some ⟨g7, 0, none⟩) (YT.length + 1) cc7) HY4.out (by decide) (by have := HBB.out; omega))
          have HM8 : Hid ((YT ++ [((⟨kd, a6, nn, cc6, NS, b6, kn, d6, KS, op⟩, ps) : Nd)]).map vw = (PT.take (i + 1)).map vw) := Lib.hid (by
            rw [List.map_append, HM.out, List.take_add_one, HXX.out]
            simp [vw])
          obtain ⟨w8, hw8⟩ : ∃ w8, w7.setCell ⟨B, 1, none⟩ (.slice (some ⟨g7, 0, none⟩) (YT.length + 1) cc7) = w8 := ⟨_, rfl⟩
          rw [hw8] at HST HX8 HY8
          clear b7x f7x l7x b6x b6y b1
          rw [hw8]
          clear hw8
          go_wp2
          go_roundw
          case rel => exact ⟨i + 1, _, _, _, by go_num, by omega, by have := HLEN.out; simp; omega, HM8, HST, HX8, HY8⟩
          case measure => simp [intOf]; omega
      · have hlt2 : ¬ (i : Int) < PT.length := by omega
        have HEQ : Hid (YT.length = PT.length) := Lib.hid (by omega)
        have HMM : Hid (YT.map vw = PT.map vw) := Lib.hid (by rw [HM.out, List.take_of_length_le (by omega)])
        have c0 : w4.cell? ⟨B, 0, none⟩ = some (.slice none 0 0) := (by rw [cell_of_row _ _ 0 _ 108 _ HC4.out.box]; rfl)
        have c1 : w4.cell? ⟨B, 1, none⟩ = some (.slice xa4 YT.length xc4) := (by rw [cell_of_row _ _ 1 _ 108 _ HC4.out.box]; rfl)
        have c2 : w4.cell? ⟨B, 2, none⟩ = some (.slice none 0 0) := (by rw [cell_of_row _ _ 2 _ 108 _ HC4.out.box]; rfl)
        have HBW : Hid (Below w.heap.size w (w4.setRow (w.heap.size + 1) #[.slice none 0 0, .slice xa4 YT.length xc4, .slice none 0 0])) := Lib.hid (below_rowP HC4.out.below (by omega))
        have HTT : Hid (TpsIn (w4.setRow (w.heap.size + 1) #[.slice none 0 0, .slice xa4 YT.length xc4, .slice none 0 0]) xa4 YT.length YT) := Lib.hid (tps_own (xc := xc4) (ownsRow_mono HC4.out.typs (fun g e => setRow_other _ _ _ _ (fun e2 => own_boxP HC4.out.typs HY4.out (by decide) (by rw [e, e2])))) (fun x hx => ⟨hd_kept (HC4.out.nds x hx).1 (fun ad e _ => setRow_other _ _ _ _ (fun e2 => by have := (HC4.out.sep x hx ad e).1; have := HBB.out; omega)) (by rw [setRow_size]; exact Nat.le_refl _), (HC4.out.nds x hx).2⟩))
        clear hlen
        go_wp2_with (refine wpList_store_row rfl 108 _ _ rfl (w.heap.size + 1) _ rfl rfl 108 _ HY4.out (by kernel_rfl) rfl (by simp [Value.oneCell']) ?_)
        (try simp only [Exit.inBlock, Exit.then])
        refine bodyPost_ret (v := .agg #[.slice none 0 0, .slice xa4 YT.length xc4, .slice none 0 0]) (results_cell_row (P := Tryz.prog) rfl _ _ (w.heap.size + 1) 108 _ (0, 0) _ rfl (setRow_heap _ _ _ _ _ _ HY4.out) Tryz.underlying108 rfl (by kernel_rfl)) rfl ?_
        have := HTT.out
        rw [HEQ.out] at this
        refine ⟨xa4, xc4, YT, by rw [HEQ.out], HMM.out, by rw [← HEQ.out] at this ⊢; exact this, fun ad e => ?_, fun x hx ad e => by have := (HC4.out.sep x hx ad e).1; have := HC4.out.ge; omega, HBW.out⟩
        exact (HC4.out.typs.lt ad.block (by rw [e]; rfl)).1
end Go.Proofs.YtifilhkkgkihpaaGreatDoor
set_option linter.unusedSimpArgs false
set_option linter.unusedVariables false
namespace Go.Proofs.YtifilhkkgkihpaaGreatDoor
open Go.RowKit
theorem new_tree (w : World) : Calls Tryz.prog 125 #[] w fun e w' => e = .returned (.pointer (some ⟨w.heap.size, 0, none⟩)) ∧ w' = w.alloc (.cells #[.slice none 0 0, .slice none 0 0, .slice none 0 0] 235) := by
  go_enter Tryz.func125, Tryz.ntmps125
  go_wp2
  go_ret
  exact ⟨rfl, rfl⟩
theorem TpsIn.kept {w w' : World} {xa : Option Addr} {n m : Nat} {PT : List Nd} (h : TpsIn w xa n PT) (hg : ∀ ad, xa = some ad → m ≤ ad.block) (hh : ∀ x ∈ PT, ∀ ad, blkOf x.1 ad → m ≤ ad.block) (hk : ∀ b, m ≤ b → b < w.heap.size → w'.heap[b]? = w.heap[b]?) (hs : w.heap.size ≤ w'.heap.size) : TpsIn w' xa n PT where
  len := h.len
  row := by
    rcases h.row with r | ⟨g, o, e, hl, hc⟩
    · exact .inl r
    · refine .inr ⟨g, o, e, Nat.lt_of_lt_of_le hl hs, fun i x hx j hj => ?_⟩
      rw [← hc i x hx j hj]
      simp only [World.cell?, hk g (hg _ e) hl]
  nds x hx := ⟨hd_kept (h.nds x hx).1 (fun ad e hl => hk _ (hh x hx ad e) hl) hs, (h.nds x hx).2⟩
set_option maxRecDepth 20000 in
set_option maxHeartbeats 4000000 in
theorem tree_any (w0 w : World) (R Bb gt ct : Nat) (TS : List Tk) (at_ op : Nat) (xa : Option Addr) (xc : Nat) (PT : List Nd) (hR : RdS w0 w R Bb gt ct TS at_ op xa xc PT) (hp : PT.length ≤ 1000) :
    Calls Tryz.prog 127 #[.pointer (some ⟨Bb, 0, none⟩)] w (ClPost w PT) := by
  have HX : Hid ((w.alloc (.cells #[.slice none 0 0, .slice none 0 0, .slice none 0 0] 108)).heap[w.heap.size]? = some (.cells #[.slice none 0 0, .slice none 0 0, .slice none 0 0] 108 (0, 0))) := Lib.hid (heap_alloc_new w _)
  have HB : Hid (Below w.heap.size w (w.alloc (.cells #[.slice none 0 0, .slice none 0 0, .slice none 0 0] 108))) := Lib.hid ((Below.refl _ _).alloc (Nat.le_refl _) _)
  have HR := Lib.hid (hR.on HB.out)
  have HC := Lib.hid (clone_tree (w.alloc (.cells #[.slice none 0 0, .slice none 0 0, .slice none 0 0] 108)) xa xc PT (tps_own HR.out.typs HR.out.nds) hp)
  clear hR hp
  go_enter Tryz.func127, Tryz.ntmps127
  go_upto_region 1 with (fail)
  generalize (w.alloc (.cells #[.slice none 0 0, .slice none 0 0, .slice none 0 0] 108)) = w1 at *
  have HL1 : Hid (w.heap.size < w1.heap.size) := Lib.hid (Array.getElem?_eq_some_iff.1 HX.out).1
  have b0 : w1.cell? ⟨Bb, 0, none⟩ = some (.slice none 0 0) := (by rw [cell_of_row _ _ 0 _ 235 _ HR.out.bbox]; rfl)
  have b1 : w1.cell? ⟨Bb, 1, none⟩ = some (.slice xa PT.length xc) := (by rw [cell_of_row _ _ 1 _ 235 _ HR.out.bbox]; rfl)
  have b2 : w1.cell? ⟨Bb, 2, none⟩ = some (.slice none 0 0) := (by rw [cell_of_row _ _ 2 _ 235 _ HR.out.bbox]; rfl)
  go_wp2_with (first
    | (go_at_call 165; (with_reducible refine HC.out.mono ?_); rintro e w2 ⟨xa2, xc2, YT, rfl, hm2, ht2, hg2, hh2, hb2⟩; have HM2 := Lib.hid hm2; have HG2 := Lib.hid hg2; have HH2 := Lib.hid hh2; have HT2 := Lib.hid ht2; have HB2 := Lib.hid hb2; have HX2 := Lib.hid ((hb2.block _ HL1.out).trans HX.out); clear hm2 ht2 hg2 hh2 hb2)
    | (refine wpList_store_row rfl 108 _ _ rfl w.heap.size _ rfl rfl 108 _ HX2.out (by kernel_rfl) rfl (by simp [Value.oneCell']) ?_))
  (try simp only [Exit.inBlock, Exit.then])
  exact bodyPost_ret (v := .agg #[.slice none 0 0, .slice xa2 PT.length xc2, .slice none 0 0]) (results_cell_row (P := Tryz.prog) rfl _ _ w.heap.size 108 _ (0, 0) _ rfl (setRow_heap _ _ _ _ _ _ HX2.out) Tryz.underlying108 rfl (by kernel_rfl)) rfl
    ⟨xa2, xc2, YT, rfl, HM2.out, HT2.out.kept HG2.out HH2.out (fun b hb _ => setRow_other _ _ _ _ (by have := HL1.out; omega)) (by rw [setRow_size]; exact Nat.le_refl _), fun ad e => Nat.le_trans HB.out.size (HG2.out ad e), fun x hx ad e => Nat.le_trans HB.out.size (HH2.out x hx ad e), below_rowP (HB.out.trans (HB2.out.mono HB.out.size)) (Nat.le_refl _)⟩
set_option maxRecDepth 20000 in
theorem run1_idle (a b : Addr) (w : World) :
    CallsD Tryz.prog 124 #[.pointer (some a), .pointer (some b)] .returning w fun e u' w' => e = .returned (.tuple #[]) ∧ u' = .returning ∧ w' = w := by
  refine callsD_of_wpS Tryz.func124 rfl fun c₀ cs hu => ?_
  apply wpS_seq
  apply wpS_region
  simp [wpOpsS, go_sem, recoverD, hu, Tryz.ntmps124, Exit.thenS]
  apply wpS_seq
  apply wpS_region
  simp [wpOpsS, go_sem, recoverD, hu, Tryz.ntmps124, Exit.thenS]
  refine wpS_cond (t := false) (by simp [Act.eval, Array.replicate]) ?_
  simp only [Bool.false_eq_true, if_false]
  refine wpS_of_wp (wp_skip ?_)
  cases c₀
  simp_all [bodyPostS, results, Tryz.results124]
end Go.Proofs.YtifilhkkgkihpaaGreatDoor
set_option linter.unusedSimpArgs false
set_option linter.unusedVariables false
namespace Go.Proofs.YtifilhkkgkihpaaGreatDoor
open Go.RowKit
/-- a type's tree. -/
def ParsePost (w : World) (ys : List Ny) (e : Ending) (w' : World) : Prop := ∃ xa xc YT, e = .returned (.tuple #[.agg #[.slice none 0 0, .slice xa ys.length xc, .slice none 0 0], .agg #[.int .i64 0, .int .i64 0, .string ⟨#[]⟩]]) ∧ YT.map vw = ys ∧ TpsIn w' xa ys.length YT ∧ (∀ ad, xa = some ad → w.heap.size ≤ ad.block) ∧ (∀ x ∈ YT, ∀ ad, blkOf x.1 ad → w.heap.size ≤ ad.block) ∧ Below w.heap.size w w'
theorem results_two {fn : Func} {p q : Tmp} (h : fn.results = #[.cell p 108, .cell q 110]) (tmps : Array Value) (w : World) (g k : Nat) (cs ds : Array Value) (hp : tmps.getD p undef = .pointer (some ⟨g, 0, none⟩)) (hq : tmps.getD q undef = .pointer (some ⟨k, 0, none⟩)) (hg : w.heap[g]? = some (.cells cs 108 (0, 0))) (hk : w.heap[k]? = some (.cells ds 110 (0, 0))) (hs : cs.size = 3) (hd : ds.size = 3) :
    (results fn tmps).run Tryz.prog w = .ok (.tuple #[.agg cs, .agg ds]) w := by
  have hi2 : (Tryz.prog.info? 108).map (·.size) = some cs.size := by rw [hs]; kernel_rfl
  have hi3 : (Tryz.prog.info? 110).map (·.size) = some ds.size := by rw [hd]; kernel_rfl
  have hp2 : tmps[p]?.getD undef = .pointer (some ⟨g, 0, none⟩) := by simpa using hp
  have hq2 : tmps[q]?.getD undef = .pointer (some ⟨k, 0, none⟩) := by simpa using hq
  simp only [results, h]
  simp [Sem.run_bind, Result.andThen, hp2, hq2, asAddr, run_loadVar_row w g 108 108 cs (0, 0) _ hg Tryz.underlying108 rfl hi2, run_loadVar_row w k 110 110 ds (0, 0) _ hk Tryz.underlying110 rfl hi3]
theorem type1_ok (w0 : World) (R Bb gt ct : Nat) (TS : List Tk) (hl : TS.length ≤ 100000) {a a' d m : Nat} {ys : List Ny} (hT : TypT TS a a' d m ys) (op : Nat) (xa : Option Addr) (xc : Nat) (PT : List Nd) (w : World) (hm : m = PT.length) (hR : RdS w0 w R Bb gt ct TS a op xa xc PT) (hp : PT.length + ys.length ≤ 1000) (ho : op + d ≤ 256) :
    Calls Tryz.prog 98 #[.pointer (some ⟨R, 0, none⟩)] w (TysPost w0 w R Bb gt ct TS a' op xa xc PT ys (.tuple #[])) := by
  have HT := Lib.hid (typt_any w0 R Bb gt ct TS hl hT op xa xc PT w hm hR hp ho)
  clear hm hR hp ho hT
  go_enter Tryz.func98, Tryz.ntmps98
  go_wp2_with (go_at_call 99; (with_reducible refine HT.out.mono ?_); rintro e w2 ⟨YS, xa2, xc2, rfl, h1, h2, h3, h4⟩; have H1 := Lib.hid h1; have H2 := Lib.hid h2; have H3 := Lib.hid h3; have H4 := Lib.hid h4; clear h1 h2 h3 h4)
  go_end0
  first | exact ⟨YS, xa2, xc2, rfl, H1.out, H2.out, H3.out, H4.out⟩ | exact ⟨YS, xa2, xc2, H1.out, H2.out, H3.out, H4.out⟩
set_option maxRecDepth 20000 in
set_option maxHeartbeats 8000000 in
theorem run_type (w : World) (b o c m0 : Nat) (s : ByteArray) (TS : List Tk) (hs : s.size ≤ 10000) (hsc : s.size ≤ c) (hbl : b < w.heap.size) (hby : Lib.Bytes w b o s) (hasc : ∀ i (h : i < s.size), s[i].toNat < 128) (hb0 : Blank s m0) (hlx : LexS s m0 TS) (hTS : TS.length ≤ 1000) {d : Nat} {ys : List Ny} (hT : TypT (TS ++ [endTk s]) 0 TS.length d 0 ys) (hd : d ≤ 256) (hy : ys.length ≤ 1000) :
    Calls Tryz.prog 97 #[.slice (some ⟨b, o, none⟩) s.size c, .func (.func 98) #[] #[]] w (ParsePost w ys) := by
  have hmf : ∀ (fn : Fn) (first cap : Array Value) (w : World), (Instr.makeFunc fn first cap).run Tryz.prog w = .ok (.func fn first cap) w := fun _ _ _ _ => rfl
  have HX : Hid (((w.alloc (.cells #[.slice none 0 0, .slice none 0 0, .slice none 0 0] 108)).alloc (.cells #[.int .i64 0, .int .i64 0, .string ⟨#[]⟩] 110)).heap[w.heap.size]? = some (.cells #[.slice none 0 0, .slice none 0 0, .slice none 0 0] 108 (0, 0))) := Lib.hid (by rw [Below.heap_alloc _ _ _ (by simp)]; exact heap_alloc_new w _)
  have HY : Hid (((w.alloc (.cells #[.slice none 0 0, .slice none 0 0, .slice none 0 0] 108)).alloc (.cells #[.int .i64 0, .int .i64 0, .string ⟨#[]⟩] 110)).heap[w.heap.size + 1]? = some (.cells #[.int .i64 0, .int .i64 0, .string ⟨#[]⟩] 110 (0, 0))) := Lib.hid (by
    have := heap_alloc_new (w.alloc (.cells #[.slice none 0 0, .slice none 0 0, .slice none 0 0] 108)) (.cells #[.int .i64 0, .int .i64 0, .string ⟨#[]⟩] 110)
    simpa using this)
  have HB : Hid (Below w.heap.size w ((w.alloc (.cells #[.slice none 0 0, .slice none 0 0, .slice none 0 0] 108)).alloc (.cells #[.int .i64 0, .int .i64 0, .string ⟨#[]⟩] 110))) := Lib.hid (((Below.refl _ _).alloc (Nat.le_refl _) _).alloc (by simp) _)
  have HLX : Hid (Calls Tryz.prog 123 #[.slice (some ⟨b, o, none⟩) s.size c] ((w.alloc (.cells #[.slice none 0 0, .slice none 0 0, .slice none 0 0] 108)).alloc (.cells #[.int .i64 0, .int .i64 0, .string ⟨#[]⟩] 110)) (LexPost ((w.alloc (.cells #[.slice none 0 0, .slice none 0 0, .slice none 0 0] 108)).alloc (.cells #[.int .i64 0, .int .i64 0, .string ⟨#[]⟩] 110)) s TS)) := Lib.hid (lex_any _ b o c m0 s TS hs hsc (by simp; omega) (fun j hj => keepB HB.out hbl (hby j hj)) hasc hb0 hlx hTS)
  have HTY : Hid (∀ w0 w' R Bb gt ct, RdS w0 w' R Bb gt ct (TS ++ [endTk s]) 0 0 none 0 [] → Calls Tryz.prog 98 #[.pointer (some ⟨R, 0, none⟩)] w' (TysPost w0 w' R Bb gt ct (TS ++ [endTk s]) TS.length 0 none 0 [] ys (.tuple #[]))) := Lib.hid (fun w0 w' R Bb gt ct h => type1_ok w0 R Bb gt ct (TS ++ [endTk s]) (by simp; omega) hT 0 none 0 [] w' rfl h (by simpa using hy) (by omega))
  have HKD : Hid (∀ w0 w' R Bb gt ct op xa xc PT, RdS w0 w' R Bb gt ct (TS ++ [endTk s]) TS.length op xa xc PT → Calls Tryz.prog 126 #[.pointer (some ⟨R, 0, none⟩), .int .i64 0] w' (NextPost w0 w' R Bb gt ct (TS ++ [endTk s]) TS.length op xa xc PT (endTk s))) := Lib.hid (fun w0 w' R Bb gt ct op xa xc PT h => kind_ok w0 w' R Bb gt ct (TS ++ [endTk s]) TS.length op xa xc PT h (endTk s) (by simp) (by simp; omega))
  have HLY := Lib.hid hy
  clear hby hbl hb0 hlx hasc hsc hT hy hs hTS hd
  go_enter_defers Tryz.func97, Tryz.ntmps97
  go_upto_region 1 with (fail)
  generalize ((w.alloc (.cells #[.slice none 0 0, .slice none 0 0, .slice none 0 0] 108)).alloc (.cells #[.int .i64 0, .int .i64 0, .string ⟨#[]⟩] 110)) = w1 at *
  have HL1 : Hid (w.heap.size + 1 < w1.heap.size) := Lib.hid (Array.getElem?_eq_some_iff.1 HY.out).1
  go_upto_region 2 with (first
    | (go_at_call 123; (with_reducible refine HLX.out.mono ?_); rintro e w2 ⟨g, cg, rfl, ho2, hb2⟩; have HO2 := Lib.hid ho2; have HB2 := Lib.hid hb2; have HY2 := Lib.hid ((hb2.block _ HL1.out).trans HY.out); clear ho2 hb2)
    | (refine wpList_store_row rfl 110 _ _ rfl (w.heap.size + 1) _ rfl rfl 110 _ HY2.out (by kernel_rfl) rfl (by simp [Value.oneCell']) ?_))
  have HB3 : Hid (Below w1.heap.size w1 (w2.setRow (w.heap.size + 1) #[.int .i64 0, .int .i64 0, .string ⟨#[]⟩])) := Lib.hid ⟨HB2.out.os, HB2.out.tape, HB2.out.output, by rw [setRow_size]; exact HB2.out.size, fun k hk => by
    by_cases e : k = w.heap.size + 1
    · subst e
      rw [setRow_heap _ _ _ _ _ _ HY2.out]
      exact HY.out.symm
    · rw [setRow_other _ _ _ _ e]
      exact HB2.out.block k hk⟩
  have HO3 : Hid ((w2.setRow (w.heap.size + 1) #[.int .i64 0, .int .i64 0, .string ⟨#[]⟩]).ownsRow w1.heap.size 201 3 (.slice (some ⟨g, 0, none⟩) (TS ++ [endTk s]).length cg) (TS ++ [endTk s]).length ((TS ++ [endTk s]).flatMap tcells)) := Lib.hid (by
    have := ownsRow_mono (w' := w2.setRow (w.heap.size + 1) #[.int .i64 0, .int .i64 0, .string ⟨#[]⟩]) HO2.out (fun k hk => setRow_other _ _ _ _ (by have h1 := (HO2.out.lt k hk).1; have := HL1.out; omega))
    rw [show (TS ++ [endTk s]).length = TS.length + 1 from by simp]
    exact this)
  have HLT : Hid ((Value.slice (some ⟨g, 0, none⟩) (TS.length + 1) cg) = .slice (some ⟨g, 0, none⟩) (TS ++ [endTk s]).length cg) := Lib.hid (by simp)
  generalize (w2.setRow (w.heap.size + 1) #[.int .i64 0, .int .i64 0, .string ⟨#[]⟩]) = w3 at *
  have y0 : w3.cell? ⟨w.heap.size + 1, 0, none⟩ = some (.int .i64 0) := (by rw [cell_of_row _ _ 0 _ 110 _ ((HB3.out.block _ HL1.out).trans HY.out)]; rfl)
  go_upto_region 6 with (go_at_call 125; (with_reducible refine (new_tree _).mono ?_); rintro e w4 ⟨rfl, rfl⟩)
  have HW5 : Hid (((w3.alloc (.cells #[.slice none 0 0, .slice none 0 0, .slice none 0 0] 235)).alloc (.cells #[.slice (some ⟨g, 0, none⟩) (TS.length + 1) cg, .int .i64 0, .int .i64 0, .pointer (some ⟨w3.heap.size, 0, none⟩)] 199)).heap.size = w3.heap.size + 2) := Lib.hid (by simp)
  have HR5 : Hid (RdS w1 ((w3.alloc (.cells #[.slice none 0 0, .slice none 0 0, .slice none 0 0] 235)).alloc (.cells #[.slice (some ⟨g, 0, none⟩) (TS.length + 1) cg, .int .i64 0, .int .i64 0, .pointer (some ⟨w3.heap.size, 0, none⟩)] 199)) (w3.heap.size + 1) w3.heap.size g cg (TS ++ [endTk s]) 0 0 none 0 []) := Lib.hid {
    below := (HB3.out.alloc HB3.out.size _).alloc (by have := HB3.out.size; simp; omega) _
    rbox := by
      have := heap_alloc_new (w3.alloc (.cells #[.slice none 0 0, .slice none 0 0, .slice none 0 0] 235)) (.cells #[.slice (some ⟨g, 0, none⟩) (TS.length + 1) cg, .int .i64 0, .int .i64 0, .pointer (some ⟨w3.heap.size, 0, none⟩)] 199)
      simpa using this
    toks := (HO3.out.alloc _).alloc _
    bbox := by
      rw [Below.heap_alloc _ _ _ (by simp)]
      exact heap_alloc_new w3 _
    typs := World.ownsRow_nil _ _ _ _
    nds := fun x h => by cases h
    sep := fun x h => by cases h
    geR := by have := HB3.out.size; omega
    geB := HB3.out.size }
  generalize ((w3.alloc (.cells #[.slice none 0 0, .slice none 0 0, .slice none 0 0] 235)).alloc (.cells #[.slice (some ⟨g, 0, none⟩) (TS.length + 1) cg, .int .i64 0, .int .i64 0, .pointer (some ⟨w3.heap.size, 0, none⟩)] 199)) = w5 at *
  have HT5 := Lib.hid (HTY.out w1 w5 _ _ g cg HR5.out)
  go_upto_region 7 with (go_at_call 98; (with_reducible refine HT5.out.mono ?_); rintro e w6 ⟨YS, xa6, xc6, rfl, h1, h2, h3, h4⟩; have HYS := Lib.hid h1; have HR6 := Lib.hid h2; clear h1 h2 h3 h4)
  have HK6 := Lib.hid (HKD.out w1 w6 _ _ g cg 0 xa6 xc6 _ HR6.out)
  go_upto_region 8 with (go_at_call 126; (with_reducible refine HK6.out.mono ?_); rintro e w7 ⟨rfl, h2, h3⟩; have HR7 : Hid (RdS w1 w7 (w3.heap.size + 1) w3.heap.size g cg (TS ++ [endTk s]) TS.length 0 xa6 xc6 ([] ++ YS)) := Lib.hid h2; clear h2 h3)
  have r3 : w7.cell? ⟨w3.heap.size + 1, 3, none⟩ = some (.pointer (some ⟨w3.heap.size, 0, none⟩)) := (by rw [cell_of_row _ _ 3 _ 199 _ HR7.out.rbox]; rfl)
  have HYL : Hid (YS.length = ys.length) := Lib.hid (by rw [← HYS.out]; simp)
  have HTR := Lib.hid (tree_any w1 w7 _ _ g cg _ _ 0 xa6 xc6 _ HR7.out (by have := HYL.out; have := HLY.out; simp; omega))
  have HX7 := Lib.hid ((HR7.out.below.block _ (by have := HL1.out; omega)).trans HX.out)
  have HY7 := Lib.hid ((HR7.out.below.block _ HL1.out).trans HY.out)
  go_wp2_with (first
    | (go_at_call 127; (with_reducible refine HTR.out.mono ?_); rintro e w8 ⟨xa8, xc8, YT, rfl, h1, h2, h3, h4, h5⟩; have HM8 := Lib.hid h1; have HT8 := Lib.hid h2; have HG8 := Lib.hid h3; have HH8 := Lib.hid h4; have HB8 := Lib.hid h5; have HX8 := Lib.hid ((h5.block _ (Array.getElem?_eq_some_iff.1 HX7.out).1).trans HX7.out); have HY8 := Lib.hid ((h5.block _ (Array.getElem?_eq_some_iff.1 HY7.out).1).trans HY7.out); clear h1 h2 h3 h4 h5)
    | (refine wpList_store_row rfl 108 _ _ rfl w.heap.size _ rfl rfl 108 _ HX8.out (by kernel_rfl) rfl (by simp [Value.oneCell']) ?_)
    | (refine wpList_store_row rfl 110 _ _ rfl (w.heap.size + 1) _ rfl rfl 110 _ ((setRow_other _ _ _ _ (by omega)).trans HY8.out) (by kernel_rfl) rfl (by simp [Value.oneCell']) ?_))
  refine leaves_cons (f := 124) (args := #[.pointer (some ⟨w.heap.size, 0, none⟩), .pointer (some ⟨w.heap.size + 1, 0, none⟩)]) (by simp) (by simp [go_sem]) ?_
  refine (run1_idle _ _ _).mono ?_
  rintro e u' w9 ⟨rfl, rfl, rfl⟩
  have hS : w.heap.size + 1 < w7.heap.size := Nat.lt_of_lt_of_le HL1.out HR7.out.below.size
  have hX9 : ((w8.setRow w.heap.size #[.slice none 0 0, .slice xa8 YS.length xc8, .slice none 0 0]).setRow (w.heap.size + 1) #[.int .i64 0, .int .i64 0, .string ⟨#[]⟩]).heap[w.heap.size]? = some (.cells #[.slice none 0 0, .slice xa8 YS.length xc8, .slice none 0 0] 108 (0, 0)) := (setRow_other _ _ _ _ (by omega)).trans (setRow_heap _ _ _ _ _ _ HX8.out)
  have hY9 : ((w8.setRow w.heap.size #[.slice none 0 0, .slice xa8 YS.length xc8, .slice none 0 0]).setRow (w.heap.size + 1) #[.int .i64 0, .int .i64 0, .string ⟨#[]⟩]).heap[w.heap.size + 1]? = some (.cells #[.int .i64 0, .int .i64 0, .string ⟨#[]⟩] 110 (0, 0)) := setRow_heap _ _ _ _ _ _ ((setRow_other _ _ _ _ (by omega)).trans HY8.out)
  refine ⟨_, results_two (fn := Tryz.f97) (p := 4) (q := 5) rfl _ _ w.heap.size (w.heap.size + 1) _ _ rfl rfl hX9 hY9 rfl rfl, ?_⟩
  have hbw : Below w.heap.size w w8 := HB.out.trans ((HR7.out.below.trans (HB8.out.mono HR7.out.below.size)).mono HB.out.size)
  have h8 := HT8.out
  have e8 : ([] ++ YS).length = ys.length := by simpa using HYL.out
  rw [e8] at h8
  refine ⟨xa8, xc8, YT, by rw [HYL.out], by rw [HM8.out]; simpa using HYS.out, h8.kept (m := w7.heap.size) HG8.out HH8.out (fun k h1 h2 => (setRow_other _ _ _ _ (by omega)).trans (setRow_other _ _ _ _ (by omega))) (by rw [setRow_size, setRow_size]; exact Nat.le_refl _), fun ad e => Nat.le_trans (by omega) (HG8.out ad e), fun x hx ad e => Nat.le_trans (by omega) (HH8.out x hx ad e), below_rowP (below_rowP hbw (Nat.le_refl _)) (by omega)⟩
/-- the tree of a type's text. -/
theorem parse_type (w : World) (b o c m0 : Nat) (s : ByteArray) (TS : List Tk) (hs : s.size ≤ 10000) (hsc : s.size ≤ c) (hbl : b < w.heap.size) (hby : Lib.Bytes w b o s) (hasc : ∀ i (h : i < s.size), s[i].toNat < 128) (hb0 : Blank s m0) (hlx : LexS s m0 TS) (hTS : TS.length ≤ 1000) {d : Nat} {ys : List Ny} (hT : TypT (TS ++ [endTk s]) 0 TS.length d 0 ys) (hd : d ≤ 256) (hy : ys.length ≤ 1000) :
    Calls Tryz.prog 75 #[.slice (some ⟨b, o, none⟩) s.size c] w (ParsePost w ys) := by
  have HX : Hid (((w.alloc (.cells #[.slice none 0 0, .slice none 0 0, .slice none 0 0] 108)).alloc (.cells #[.int .i64 0, .int .i64 0, .string ⟨#[]⟩] 110)).heap[w.heap.size]? = some (.cells #[.slice none 0 0, .slice none 0 0, .slice none 0 0] 108 (0, 0))) := Lib.hid (by rw [Below.heap_alloc _ _ _ (by simp)]; exact heap_alloc_new w _)
  have HY : Hid (((w.alloc (.cells #[.slice none 0 0, .slice none 0 0, .slice none 0 0] 108)).alloc (.cells #[.int .i64 0, .int .i64 0, .string ⟨#[]⟩] 110)).heap[w.heap.size + 1]? = some (.cells #[.int .i64 0, .int .i64 0, .string ⟨#[]⟩] 110 (0, 0))) := Lib.hid (by
    have := heap_alloc_new (w.alloc (.cells #[.slice none 0 0, .slice none 0 0, .slice none 0 0] 108)) (.cells #[.int .i64 0, .int .i64 0, .string ⟨#[]⟩] 110)
    simpa using this)
  have HB : Hid (Below w.heap.size w ((w.alloc (.cells #[.slice none 0 0, .slice none 0 0, .slice none 0 0] 108)).alloc (.cells #[.int .i64 0, .int .i64 0, .string ⟨#[]⟩] 110))) := Lib.hid (((Below.refl _ _).alloc (Nat.le_refl _) _).alloc (by simp) _)
  have HRU := Lib.hid (run_type ((w.alloc (.cells #[.slice none 0 0, .slice none 0 0, .slice none 0 0] 108)).alloc (.cells #[.int .i64 0, .int .i64 0, .string ⟨#[]⟩] 110)) b o c m0 s TS hs hsc (by simp; omega) (fun j hj => keepB HB.out hbl (hby j hj)) hasc hb0 hlx hTS hT hd hy)
  clear hby hbl hb0 hlx hasc hsc hT hy hs hTS hd
  go_enter Tryz.func75, Tryz.ntmps75
  go_upto_region 1 with (fail)
  generalize ((w.alloc (.cells #[.slice none 0 0, .slice none 0 0, .slice none 0 0] 108)).alloc (.cells #[.int .i64 0, .int .i64 0, .string ⟨#[]⟩] 110)) = w1 at *
  have HL1 : Hid (w.heap.size + 1 < w1.heap.size) := Lib.hid (Array.getElem?_eq_some_iff.1 HY.out).1
  go_wp2_with (first
    | (go_at_call 97; (with_reducible refine HRU.out.mono ?_); rintro e w8 ⟨xa8, xc8, YT, rfl, h1, h2, h3, h4, h5⟩; have HM8 := Lib.hid h1; have HT8 := Lib.hid h2; have HG8 := Lib.hid h3; have HH8 := Lib.hid h4; have HB8 := Lib.hid h5; have HX8 := Lib.hid ((h5.block _ (Array.getElem?_eq_some_iff.1 HX.out).1).trans HX.out); have HY8 := Lib.hid ((h5.block _ (Array.getElem?_eq_some_iff.1 HY.out).1).trans HY.out); clear h1 h2 h3 h4 h5)
    | (refine wpList_store_row rfl 108 _ _ rfl w.heap.size _ rfl rfl 108 _ HX8.out (by kernel_rfl) rfl (by simp [Value.oneCell']) ?_)
    | (refine wpList_store_row rfl 110 _ _ rfl (w.heap.size + 1) _ rfl rfl 110 _ ((setRow_other _ _ _ _ (by omega)).trans HY8.out) (by kernel_rfl) rfl (by simp [Value.oneCell']) ?_))
  (try simp only [Exit.inBlock, Exit.then])
  have hS := HL1.out
  have hX9 : ((w8.setRow w.heap.size #[.slice none 0 0, .slice xa8 ys.length xc8, .slice none 0 0]).setRow (w.heap.size + 1) #[.int .i64 0, .int .i64 0, .string ⟨#[]⟩]).heap[w.heap.size]? = some (.cells #[.slice none 0 0, .slice xa8 ys.length xc8, .slice none 0 0] 108 (0, 0)) := (setRow_other _ _ _ _ (by omega)).trans (setRow_heap _ _ _ _ _ _ HX8.out)
  have hY9 : ((w8.setRow w.heap.size #[.slice none 0 0, .slice xa8 ys.length xc8, .slice none 0 0]).setRow (w.heap.size + 1) #[.int .i64 0, .int .i64 0, .string ⟨#[]⟩]).heap[w.heap.size + 1]? = some (.cells #[.int .i64 0, .int .i64 0, .string ⟨#[]⟩] 110 (0, 0)) := setRow_heap _ _ _ _ _ _ ((setRow_other _ _ _ _ (by omega)).trans HY8.out)
  refine bodyPost_ret (results_two (fn := Tryz.f75) (p := 2) (q := 3) rfl _ _ w.heap.size (w.heap.size + 1) _ _ rfl rfl hX9 hY9 rfl rfl) rfl ?_
  have hbw : Below w.heap.size w w8 := HB.out.trans (HB8.out.mono HB.out.size)
  exact ⟨xa8, xc8, YT, rfl, HM8.out, HT8.out.kept (m := w1.heap.size) HG8.out HH8.out (fun k h1 h2 => (setRow_other _ _ _ _ (by omega)).trans (setRow_other _ _ _ _ (by omega))) (by rw [setRow_size, setRow_size]; exact Nat.le_refl _), fun ad e => Nat.le_trans (by omega) (HG8.out ad e), fun x hx ad e => Nat.le_trans (by omega) (HH8.out x hx ad e), below_rowP (below_rowP hbw (Nat.le_refl _)) (by omega)⟩
end Go.Proofs.YtifilhkkgkihpaaGreatDoor
