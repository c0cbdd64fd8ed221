/- Walks: ref08.Alike. Walks: ref08.Same. Plain: heads of the same fields. Walks: the document's names, tags, words. -/
import Derived.Test.YtoakfninndkgaaaGreatDoorGa18
import Derived.BigQuiet
import Derived.Test.YtoakfninndkgaaaGreatDoorGa01
set_option linter.unusedSimpArgs false
set_option linter.unusedVariables false
set_option linter.unusedVariables false
namespace Go.Proofs.YtoakfninndkgaaaGreatDoor
open Go.RowKit
/-- a row of the matrix grows by one. -/
theorem row_end {w wj w7 w8 : World} {m go co gr cr g5 : Nat} {rows : List BRow} {L : List Bool} {o : Obj} (hM : MatAt w wj m go co rows) (hR : wj.ownsRow w.heap.size 4 1 (.slice (some ⟨gr, 0, none⟩) L.length cr) L.length (L.map Value.bool)) (hN : ∀ r ∈ rows, r.1 ≠ gr) (hb : Below wj.heap.size wj w7) (hg : (w7.alloc o).grownBy w8 (some gr)) (hw : some gr = some g5 ∨ g5 = (w7.alloc o).heap.size) :
    MatAt w w8 m go co rows ∧ ∀ r ∈ rows, r.1 ≠ g5 := by
  have hba := hb.alloc hb.size o
  have h1 := hM.on hba
  refine ⟨h1.far hg (fun g e => ?_), fun r hr e => ?_⟩
  · cases e
    refine ⟨fun e2 => ?_, hN, (hR.lt _ rfl).1⟩
    rcases own_two hR hM.out (by decide) with e3 | e3
    · cases e3
    · exact e3 (by show some gr = some go; rw [e2])
  · rcases hw with e2 | e2
    · cases e2; exact hN r hr e
    · have := ((hM.each r hr).2.lt r.1 rfl).2
      have := hba.size
      omega
structure Str (w wr : World) (XS HS : List Hd) (R : Nat → Nat → Prop) (m xn go co c0 : Nat) (again : Bool) (rs : List BRow) : Prop where
  mat : MatAt w wr m go co rs
  inv : InvM XS HS R rs
  len : rs.length = xn
  cnt : cntR rs ≤ c0 ∧ (again = true → cntR rs < c0)
theorem Str.on {w wr w' : World} {XS HS : List Hd} {R : Nat → Nat → Prop} {m xn go co c0 : Nat} {again : Bool} {rs : List BRow} (h : Str w wr XS HS R m xn go co c0 again rs) (hb : Below wr.heap.size wr w') : Str w w' XS HS R m xn go co c0 again rs := ⟨h.mat.on hb, h.inv, h.len, h.cnt⟩
theorem Str.strike {w wr : World} {XS HS : List Hd} {R : Nat → Nat → Prop} {m xn go co c0 : Nat} {again : Bool} {rs : List BRow} (h : Str w wr XS HS R m xn go co c0 again rs) {i k g c : Nat} {L : List Bool} (hi : rs[i]? = some (g, c, L)) (hk : L[k]? = some true) (hR : ¬ R i k) : Str w (wr.setCell ⟨g, k, none⟩ (.bool false)) XS HS R m xn go co c0 true (rs.set i (g, c, L.set k false)) :=
  ⟨h.mat.strike hi, h.inv.strike hi hR, by rw [List.length_set]; exact h.len, by have := cnt_set rs i k g c L hi hk; have := h.cnt.1; exact ⟨by omega, fun _ => by omega⟩⟩
theorem Tryz.info4 : (Tryz.prog.info? 4).map (fun i => (i.zero, i.size, i.bytes)) = some (some (.bool false), 1, 1) := by kernel_rfl
theorem Tryz.info87 : (Tryz.prog.info? 87).map (fun i => (i.zero, i.size, i.bytes)) = some (some (.slice none 0 0), 1, 24) := by kernel_rfl
def AlikePost (w : World) (XS HS : List Hd) (R : Nat → Nat → Prop) (e : Ending) (w' : World) : Prop := ∃ (go co : Nat) (rows : List BRow), e = .returned (.slice (some ⟨go, 0, none⟩) rows.length co) ∧ rows.length = XS.length ∧ MatAt w w' HS.length go co rows ∧ InvM XS HS R rows
set_option maxRecDepth 20000 in
set_option maxHeartbeats 8000000 in
theorem alike_any (w : World) (xa : Option Addr) (xn xc : Nat) (XS : List Hd) (hX : HeadsIn w xa xn XS) (ya : Option Addr) (yn yc : Nat) (HS : List Hd) (hH : HeadsIn w ya yn HS) (R : Nat → Nat → Prop) (hR : Rel2 XS HS R) (kx : ∀ x ∈ XS, ∀ k ∈ x.KS, 0 ≤ k ∧ k < (XS.length : Int)) (ky : ∀ x ∈ HS, ∀ k ∈ x.KS, 0 ≤ k ∧ k < (HS.length : Int)) (hxn : xn ≤ 100) (hyn : yn ≤ 100) (hx0 : 0 < xn) (hy0 : 0 < yn) :
    Calls Tryz.prog 39 #[.slice xa xn xc, .slice ya yn yc] w (AlikePost w XS HS R) := by
  have HRR := Lib.hid hR
  have HKX := Lib.hid kx
  have HKY := Lib.hid ky
  have HXL := Lib.hid hX.1
  have HYL := Lib.hid hH.1
  obtain ⟨gx, ox, rfl, hgx, hcx⟩ := hX.2.resolve_left (by omega)
  obtain ⟨gy, oy, rfl, hgy, hcy⟩ := hH.2.resolve_left (by omega)
  have HGX := Lib.hid hgx
  have HGY := Lib.hid hgy
  have HCX := Lib.hid hcx
  have HCY := Lib.hid hcy
  have hxn2 : (xn : Int) ≤ 100 := by omega
  have hyn2 : (yn : Int) ≤ 100 := by omega
  have HM0 : Hid (MatAt w (w.alloc (.cells #[] 87)) yn w.heap.size 0 []) := Lib.hid ⟨(Below.refl _ _).alloc (Nat.le_refl _) _, World.ownsRow_made w #[] 0 (Nat.le_refl _) (by decide) rfl, fun r hr => (by cases hr), List.Pairwise.nil⟩
  have HI0 : Hid (InvM XS HS R []) := Lib.hid (fun i r hr => by simp at hr)
  obtain ⟨i4, p4, q41, q42, q43⟩ := info_parts Tryz.info4
  have P4 := Lib.hid p4
  have Q41 := Lib.hid q41
  have Q42 := Lib.hid q42
  have Q43 := Lib.hid q43
  obtain ⟨i87, p87, q871, q872, q873⟩ := info_parts Tryz.info87
  have P87 := Lib.hid p87
  have Q871 := Lib.hid q871
  have Q872 := Lib.hid q872
  have Q873 := Lib.hid q873
  clear p4 q41 q42 q43 p87 q871 q872 q873 hX hH hR kx ky hgx hgy hcx hcy
  go_enter Tryz.func39, Tryz.ntmps39
  go_upto_region 3 with (fail)
  obtain ⟨w1, hw1⟩ : ∃ w1, w.alloc (.cells #[] 87) = w1 := ⟨_, rfl⟩
  rw [hw1] at HM0 ⊢
  clear hw1
  obtain ⟨g0, hg0⟩ : ∃ g0, w.heap.size = g0 := ⟨_, rfl⟩
  have HG0 := Lib.hid hg0
  have HM1 : Hid (MatAt w w1 yn g0 0 []) := Lib.hid (by rw [← hg0]; exact HM0.out)
  rw [hg0]
  clear hg0 HM0
  go_loopw [16, 5] (fun s16 s5 wr => ∃ (rows : List BRow) (go co : Nat), s16 = .int .i64 (rows.length : Int) ∧ s5 = .slice (some ⟨go, 0, none⟩) rows.length co ∧ rows.length ≤ xn ∧ Hid (MatAt w wr yn go co rows) ∧ Hid (InvM XS HS R rows)) (fun s16 _ _ => xn - (intOf s16).toNat)
  case atStart => exact ⟨[], g0, 0, rfl, rfl, Nat.zero_le _, HM1, HI0⟩
  case round =>
    obtain ⟨rows, go, co, rfl, rfl, hrl, HM, HI⟩ := hrel
    obtain ⟨wi, rfl⟩ : ∃ wi : World, wi = wr := ⟨_, rfl⟩
    have hwr : IntKind.i64.wrap ((rows.length : Int) + 1) = (rows.length : Int) + 1 := by rw [IntKind.wrap_i64]; omega
    by_cases hrx : rows.length < xn
    · have hrx2 : (rows.length : Int) < xn := by omega
      obtain ⟨x, hx⟩ : ∃ x, XS[rows.length]? = some x := ⟨_, List.getElem?_eq_getElem (by rw [← HXL.out]; exact hrx)⟩
      have HX := Lib.hid hx
      have HXI := Lib.hid (HCX.out _ _ hx)
      have HB2 : Hid (Below wi.heap.size wi (wi.alloc (.cells #[] 4))) := Lib.hid ((Below.refl _ _).alloc (Nat.le_refl _) _)
      have HR0 : Hid ((wi.alloc (.cells #[] 4)).ownsRow w.heap.size 4 1 (.slice (some ⟨wi.heap.size, 0, none⟩) 0 0) 0 []) := Lib.hid (World.ownsRow_made wi #[] 0 HM.out.below.size (by decide) rfl)
      have HND : Hid (∀ r ∈ rows, r.1 ≠ wi.heap.size) := Lib.hid (fun r hr => by have := ((HM.out.each r hr).2.lt r.1 rfl).2; omega)
      clear hx
      go_upto_region 7 with (fail)
      obtain ⟨w2, hw2⟩ : ∃ w2, wi.alloc (.cells #[] 4) = w2 := ⟨_, rfl⟩
      rw [hw2] at HB2 HR0
      try rw [hw2]
      clear hw2
      obtain ⟨gr0, hgr0⟩ : ∃ gr0, wi.heap.size = gr0 := ⟨_, rfl⟩
      have HM2 := Lib.hid (HM.out.on HB2.out)
      rw [hgr0] at HR0 HND ⊢
      clear hgr0
      go_loopw [22, 7] (fun s22 s7 wr => ∃ (L : List Bool) (gr cr : Nat), s22 = .int .i64 (L.length : Int) ∧ s7 = .slice (some ⟨gr, 0, none⟩) L.length cr ∧ L.length ≤ yn ∧ Hid (MatAt w wr yn go co rows) ∧ Hid (wr.ownsRow w.heap.size 4 1 (.slice (some ⟨gr, 0, none⟩) L.length cr) L.length (L.map Value.bool)) ∧ Hid (∀ r ∈ rows, r.1 ≠ gr) ∧ Hid (InvR HS R rows.length x L)) (fun s22 _ _ => yn - (intOf s22).toNat)
      case atStart => exact ⟨[], gr0, 0, rfl, rfl, Nat.zero_le _, HM2, HR0, HND, Lib.hid (fun k b hk => by simp at hk)⟩
      case round =>
        obtain ⟨L, gr, cr, rfl, rfl, hll, HMJ, HRJ, HNJ, HIJ⟩ := hrel
        obtain ⟨wj, rfl⟩ : ∃ wj : World, wj = wr := ⟨_, rfl⟩
        have hwl : IntKind.i64.wrap ((L.length : Int) + 1) = (L.length : Int) + 1 := by rw [IntKind.wrap_i64]; omega
        by_cases hly : L.length < yn
        · have hly2 : (L.length : Int) < yn := by omega
          obtain ⟨h, hh⟩ : ∃ h, HS[L.length]? = some h := ⟨_, List.getElem?_eq_getElem (by rw [← HYL.out]; exact hly)⟩
          have HH := Lib.hid hh
          have HYI := Lib.hid (HCY.out _ _ hh)
          have HBJ := Lib.hid HMJ.out.below
          have hd : Below wj.heap.size wj wj.drew := (Below.refl _ _).drew
          have HDR := Lib.hid hd
          have a0 : wj.cell? ⟨gx, ox + rows.length * 4, none⟩ = some (.int .i64 x.kd) := keepB HBJ.out HGX.out HXI.out.c0
          have a1 : wj.cell? ⟨gx, ox + rows.length * 4 + 1, none⟩ = some (.slice x.na x.nn x.nc) := keepB HBJ.out HGX.out HXI.out.c1
          have a2 : wj.cell? ⟨gx, ox + rows.length * 4 + 2, none⟩ = some (.slice x.ka x.kn x.kc) := keepB HBJ.out HGX.out HXI.out.c2
          have a3 : wj.cell? ⟨gx, ox + rows.length * 4 + 3, none⟩ = some (.bool x.op) := keepB HBJ.out HGX.out HXI.out.c3
          have b0 : wj.cell? ⟨gy, oy + L.length * 4, none⟩ = some (.int .i64 h.kd) := keepB HBJ.out HGY.out HYI.out.c0
          have b1 : wj.cell? ⟨gy, oy + L.length * 4 + 1, none⟩ = some (.slice h.na h.nn h.nc) := keepB HBJ.out HGY.out HYI.out.c1
          have b2 : wj.cell? ⟨gy, oy + L.length * 4 + 2, none⟩ = some (.slice h.ka h.kn h.kc) := keepB HBJ.out HGY.out HYI.out.c2
          have b3 : wj.cell? ⟨gy, oy + L.length * 4 + 3, none⟩ = some (.bool h.op) := keepB HBJ.out HGY.out HYI.out.c3
          have HPL := Lib.hid (plain_any wj.drew x h (HXI.out.ok.on (HBJ.out.trans (hd.mono HBJ.out.size))) (HYI.out.ok.on (HBJ.out.trans (hd.mono HBJ.out.size))))
          have HRP : Hid (R rows.length L.length → Pl x h) := Lib.hid (fun hr => HRR.out.pl _ _ x h HX.out hh hr)
          clear hh hd
          go_upto_region 9 with (fail)
          go_region_law
            (first
              | (go_simp; go_at_call 44; (with_reducible refine HPL.out.mono ?_); rintro e w7 ⟨b, rfl, hb, hb7⟩; have HB7 := Lib.hid hb; have HBB : Hid (Below wj.heap.size wj w7) := Lib.hid (HDR.out.trans (hb7.mono HDR.out.size)); have HRN : Hid ((w7.alloc (.cells #[.bool b] 4)).ownsRow w.heap.size 4 1 (.slice (some ⟨gr, 0, none⟩) L.length cr) L.length (L.map Value.bool)) := Lib.hid (HRJ.out.kept (grown_below (HBB.out.alloc HBB.out.size _)) (.inr (by simp [Value.ownBlock]))); have HLE : Hid (w.heap.size ≤ (w7.alloc (.cells #[.bool b] 4)).heap.size) := Lib.hid (by have := HBJ.out.size; have := HBB.out.size; simp; omega); clear hb hb7)
              | (refine step_append_lies (w7.alloc (.cells #[.bool b] 4)) rfl _ _ 87 rfl w.heap.size 4 i4 (.bool false) 1 1 Tryz.underlying87 P4.out Q41.out Q42.out Q43.out rfl (by decide) (.slice (some ⟨gr, 0, none⟩) L.length cr) L.length (L.map Value.bool) rfl HRN.out ⟨w7.heap.size, 0, none⟩ 1 1 [.bool b] rfl rfl (news_of (heap_alloc_new w7 _)) (by simp [Value.oneCell']) (by decide) (by unfold maxLen; omega) (by omega) HLE.out _ rfl ?_; intro g5 c5 w8 hown5 hgr5 hw5 hlt5; have HO5 := Lib.hid hown5; have HG5 := Lib.hid hgr5; have HW5 := Lib.hid hw5; clear hown5 hgr5 hw5 hlt5)
              | fail)
          all_goals
            have HE := Lib.hid (row_end HMJ.out HRJ.out HNJ.out HBB.out HG5.out HW5.out)
            have HIN := Lib.hid (HIJ.out.push HH.out HB7.out HRP.out)
            have HO6 : Hid (w8.ownsRow w.heap.size 4 1 (.slice (some ⟨g5, 0, none⟩) (L ++ [b]).length c5) (L ++ [b]).length ((L ++ [b]).map Value.bool)) := Lib.hid (by simpa using HO5.out)
            clear a0 a1 a2 a3 b0 b1 b2 b3
            go_wp2
            go_roundw
            case rel => exact ⟨L ++ [b], g5, c5, by simp, by simp, by simp; omega, Lib.hid HE.out.1, HO6, Lib.hid HE.out.2, HIN⟩
            case measure => simp [intOf]; omega
        · have hly2 : ¬ (L.length : Int) < yn := by omega
          have hL : L.length = yn := by omega
          have HL := Lib.hid hL
          have HBA : Hid (Below wj.heap.size wj (wj.alloc (.cells #[.slice (some ⟨gr, 0, none⟩) L.length cr] 87))) := Lib.hid ((Below.refl _ _).alloc (Nat.le_refl _) _)
          have HMA := Lib.hid (HMJ.out.on HBA.out)
          have HRA : Hid ((wj.alloc (.cells #[.slice (some ⟨gr, 0, none⟩) L.length cr] 87)).ownsRow w.heap.size 4 1 (.slice (some ⟨gr, 0, none⟩) yn cr) yn (L.map Value.bool)) := Lib.hid (by have h8 := HRJ.out; rw [hL] at h8; exact h8.kept (grown_below HBA.out) (.inr (by simp [Value.ownBlock])))
          have HMN := Lib.hid (HI.out.push (r := (gr, cr, L)) HX.out HIJ.out)
          clear hL
          go_wp2_with (at_builtin; refine wpList_append_lies _ rfl _ _ 88 rfl w.heap.size 87 i87 (.slice none 0 0) 1 24 Tryz.underlying88 P87.out Q871.out Q872.out Q873.out rfl (by decide) _ rows.length (rows.map (rowv yn)) rfl HMA.out.out ⟨wj.heap.size, 0, none⟩ 1 1 [.slice (some ⟨gr, 0, none⟩) L.length cr] rfl rfl (World.news_of_block (cs := #[.slice (some ⟨gr, 0, none⟩) L.length cr]) (heap_alloc_new wj _)) (by simp [Value.oneCell']) (by omega) (by unfold maxLen; omega) (by omega) (Nat.le_trans HMJ.out.below.size HBA.out.size) _ rfl ?_; intro g6 c6 w9 hown6 hgr6 hw6 hlt6; have HPU := Lib.hid (HMA.out.push HL.out HRA.out HNJ.out hgr6 (by have h8 := hown6; rw [show (Value.slice (some ⟨gr, 0, none⟩) L.length cr) = .slice (some ⟨gr, 0, none⟩) yn cr from by rw [HL.out]] at h8; exact h8)); clear hown6 hgr6 hw6 hlt6)
          go_roundw
          case rel => exact ⟨rows ++ [(gr, cr, L)], g6, c6, by simp, by simp, by simp; omega, HPU, HMN⟩
          case measure => simp [intOf]; omega
    · have hrx2 : ¬ (rows.length : Int) < xn := by omega
      have hrn : rows.length = xn := by omega
      have HRN := Lib.hid hrn
      go_upto_region 14 with (fail)
      try rw [hrn]
      clear hrx hrx2 hwr hrl hrn
      go_loopg [9] (2 * cntR rows + 1) (fun gk s9 wr => ∃ (again : Bool) (rs : List BRow), s9 = .bool again ∧ Hid (gk = 2 * cntR rs + (if again = true then 1 else 0)) ∧ Hid (MatAt w wr yn go co rs) ∧ Hid (InvM XS HS R rs) ∧ Hid (rs.length = xn))
      case atStart => exact ⟨true, rows, rfl, Lib.hid rfl, HM, HI, HRN⟩
      case round =>
        clear HM HI HRN
        obtain ⟨again, rs, rfl, HGK, HM, HI, HRN⟩ := hrel
        cases again with
        | false =>
          go_wp2
          go_ret
          exact ⟨go, co, rs, by rw [HRN.out]; rfl, by rw [HRN.out]; exact HXL.out, by rw [← HYL.out]; exact HM.out, HI.out⟩
        | true =>
          have HS0 : Hid (Str w wr XS HS R yn xn go co (cntR rs) false rs) := Lib.hid ⟨HM.out, HI.out, HRN.out, Nat.le_refl _, fun e => by cases e⟩
          obtain ⟨c0, hc0⟩ : ∃ c0, cntR rs = c0 := ⟨_, rfl⟩
          rw [hc0] at HS0 HGK
          clear hc0
          go_upto_region 17 with (fail)
          go_loopw [46, 9] (fun s46 s9 wr => ∃ (i : Nat) (again : Bool) (rs : List BRow), s46 = .int .i64 (i : Int) ∧ s9 = .bool again ∧ i ≤ xn ∧ Hid (Str w wr XS HS R yn xn go co c0 again rs)) (fun s46 _ _ => xn - (intOf s46).toNat)
          case atStart => exact ⟨0, false, rs, rfl, rfl, Nat.zero_le _, HS0⟩
          case round =>
            clear HS0 HM HI HRN
            obtain ⟨i, again, rs, rfl, rfl, hi, HS1⟩ := hrel
            obtain ⟨wi, rfl⟩ : ∃ wi : World, wi = wr := ⟨_, rfl⟩
            have hwi : IntKind.i64.wrap ((i : Int) + 1) = (i : Int) + 1 := by rw [IntKind.wrap_i64]; omega
            by_cases hix : i < xn
            · have hix2 : (i : Int) < xn := by omega
              obtain ⟨x, hx⟩ : ∃ x, XS[i]? = some x := ⟨_, List.getElem?_eq_getElem (by rw [← HXL.out]; exact hix)⟩
              have HX := Lib.hid hx
              have HXI := Lib.hid (HCX.out _ _ hx)
              have HXK := Lib.hid (HKX.out x (List.mem_of_getElem? hx))
              have hxk := HXI.out.ok.knb
              have hxk2 : (x.kn : Int) ≤ 1000 := by omega
              have HXKN : Hid (x.kn = x.KS.length) := Lib.hid HXI.out.ok.kids.1
              clear hx
              go_upto_region 20 with (fail)
              go_loopw [51, 9] (fun s51 s9 wr => ∃ (k : Nat) (again : Bool) (rs : List BRow), s51 = .int .i64 (k : Int) ∧ s9 = .bool again ∧ k ≤ yn ∧ Hid (Str w wr XS HS R yn xn go co c0 again rs)) (fun s51 _ _ => yn - (intOf s51).toNat)
              case atStart => exact ⟨0, again, rs, rfl, rfl, Nat.zero_le _, HS1⟩
              case round =>
                clear HS1
                obtain ⟨k, again, rs, rfl, rfl, hk, HS2⟩ := hrel
                obtain ⟨wk, rfl⟩ : ∃ wk : World, wk = wr := ⟨_, rfl⟩
                have hwk : IntKind.i64.wrap ((k : Int) + 1) = (k : Int) + 1 := by rw [IntKind.wrap_i64]; omega
                by_cases hky : k < yn
                · have hky2 : (k : Int) < yn := by omega
                  obtain ⟨h, hh⟩ : ∃ h, HS[k]? = some h := ⟨_, List.getElem?_eq_getElem (by rw [← HYL.out]; exact hky)⟩
                  have HH := Lib.hid hh
                  have HYI := Lib.hid (HCY.out _ _ hh)
                  have HHK := Lib.hid (HKY.out h (List.mem_of_getElem? hh))
                  have HHKN : Hid (h.kn = h.KS.length) := Lib.hid HYI.out.ok.kids.1
                  have x2 : wk.cell? ⟨gx, ox + i * 4 + 2, none⟩ = some (.slice x.ka x.kn x.kc) := keepB HS2.out.mat.below HGX.out HXI.out.c2
                  clear hh
                  go_upto_region 23 with (fail)
                  clear x2
                  go_loopw [60, 9] (fun s60 s9 wr => ∃ (n : Nat) (again : Bool) (rs : List BRow), s60 = .int .i64 (n : Int) ∧ s9 = .bool again ∧ n ≤ x.kn ∧ Hid (Str w wr XS HS R yn xn go co c0 again rs)) (fun s60 _ _ => x.kn - (intOf s60).toNat)
                  case atStart => exact ⟨0, again, rs, rfl, rfl, Nat.zero_le _, HS2⟩
                  case round =>
                    clear HS2
                    obtain ⟨n, again, rs, rfl, rfl, hn, HS3⟩ := hrel
                    obtain ⟨wn, rfl⟩ : ∃ wn : World, wn = wr := ⟨_, rfl⟩
                    have hwn : IntKind.i64.wrap ((n : Int) + 1) = (n : Int) + 1 := by rw [IntKind.wrap_i64]; omega
                    by_cases hnk : n < x.kn
                    · have hnk2 : (n : Int) < x.kn := by omega
                      obtain ⟨⟨g, c, L⟩, hrow⟩ : ∃ r, rs[i]? = some r := ⟨_, List.getElem?_eq_getElem (by rw [HS3.out.len]; exact hix)⟩
                      have hLl := (HS3.out.mat.each _ (List.mem_of_getElem? hrow)).1
                      obtain ⟨b, hb⟩ : ∃ b, L[k]? = some b := ⟨_, List.getElem?_eq_getElem (by simp only at hLl; omega)⟩
                      obtain ⟨m1, m2, m3, m4⟩ := HS3.out.mat.cells hrow hb
                      have HROW := Lib.hid hrow
                      have HLB := Lib.hid hb
                      have HIV := Lib.hid (HS3.out.inv i _ hrow k b hb x h HX.out HH.out)
                      have HDR : Hid (Below wn.heap.size wn wn.drew) := Lib.hid (Below.refl _ _).drew
                      have HS3D := Lib.hid (HS3.out.on HDR.out)
                      clear hrow hLl hb
                      cases b with
                      | false =>
                        go_upto_region 25 with (fail)
                        go_quiet (fail)
                        go_wp2
                        go_roundw
                        case rel => exact ⟨n + 1, again, rs, by go_num, rfl, by omega, Lib.hid (HS3.out.on (below_drewN (Below.refl _ _)))⟩
                        case measure => simp [intOf]; omega
                      | true =>
                        have hpl := HIV.out.1 rfl
                        obtain ⟨p, hp⟩ : ∃ p, x.KS[n]? = some p := ⟨_, List.getElem?_eq_getElem (by rw [← HXKN.out]; exact hnk)⟩
                        obtain ⟨q, hq⟩ : ∃ q, h.KS[n]? = some q := ⟨_, List.getElem?_eq_getElem (by rw [← hpl.2.2.2, ← HXKN.out]; exact hnk)⟩
                        have hpr := HXK.out p (List.mem_of_getElem? hp)
                        have hqr := HHK.out q (List.mem_of_getElem? hq)
                        obtain ⟨p, rfl⟩ : ∃ p' : Nat, p = (p' : Int) := ⟨p.toNat, by omega⟩
                        obtain ⟨q, rfl⟩ : ∃ q' : Nat, q = (q' : Int) := ⟨q.toNat, by omega⟩
                        have hnh : n < h.kn := by rw [HHKN.out, ← hpl.2.2.2, ← HXKN.out]; exact hnk
                        have hnh2 : (n : Int) < h.kn := by omega
                        have hpx : p < xn := by rw [HXL.out]; omega
                        have hqy : q < yn := by rw [HYL.out]; omega
                        have hpx2 : (p : Int) < xn := by omega
                        have hqy2 : (q : Int) < yn := by omega
                        obtain ⟨gi, oi, hka, hgi, hci⟩ := HXI.out.ok.kids.2.resolve_left (by omega)
                        obtain ⟨gj, oj, hkb, hgj, hcj⟩ := HYI.out.ok.kids.2.resolve_left (by omega)
                        have x2 : wn.cell? ⟨gx, ox + i * 4 + 2, none⟩ = some (.slice (some ⟨gi, oi, none⟩) x.kn x.kc) := by rw [← hka]; exact keepB HS3.out.mat.below HGX.out HXI.out.c2
                        have y2 : wn.cell? ⟨gy, oy + k * 4 + 2, none⟩ = some (.slice (some ⟨gj, oj, none⟩) h.kn h.kc) := by rw [← hkb]; exact keepB HS3.out.mat.below HGY.out HYI.out.c2
                        have x3 : wn.cell? ⟨gi, oi + n, none⟩ = some (.int .i64 (p : Int)) := keepB HS3.out.mat.below hgi (hci n _ hp)
                        have y3 : wn.cell? ⟨gj, oj + n, none⟩ = some (.int .i64 (q : Int)) := keepB HS3.out.mat.below hgj (hcj n _ hq)
                        obtain ⟨⟨g2, c2, L2⟩, hrow2⟩ : ∃ r, rs[p]? = some r := ⟨_, List.getElem?_eq_getElem (by rw [HS3.out.len]; exact hpx)⟩
                        have hLl2 := (HS3.out.mat.each _ (List.mem_of_getElem? hrow2)).1
                        obtain ⟨b2, hb2⟩ : ∃ b, L2[q]? = some b := ⟨_, List.getElem?_eq_getElem (by simp only at hLl2; omega)⟩
                        obtain ⟨r1, r2, r3, r4⟩ := HS3.out.mat.cells hrow2 hb2
                        have HNR : Hid (b2 = false → ¬ R i k) := Lib.hid (fun e hr => by
                          have h9 := HRR.out.kid i k x h HX.out HH.out hr n _ _ hp hq
                          simp only [Int.toNat_natCast] at h9
                          obtain ⟨x', hx'⟩ : ∃ x', XS[p]? = some x' := ⟨_, List.getElem?_eq_getElem (by rw [← HXL.out]; exact hpx)⟩
                          obtain ⟨h', hh'⟩ : ∃ h', HS[q]? = some h' := ⟨_, List.getElem?_eq_getElem (by rw [← HYL.out]; exact hqy)⟩
                          have h8 := (HS3.out.inv p _ hrow2 q b2 hb2 x' h' hx' hh').2 h9
                          rw [e] at h8
                          cases h8)
                        clear hpl hp hq hpr hqr hka hkb hgi hgj hci hcj hrow2 hLl2 hb2 r3 r4
                        cases b2 with
                        | true =>
                          go_upto_region 25 with (fail)
                          go_quiet (fail)
                          go_wp2
                          go_roundw
                          case rel => exact ⟨n + 1, again, rs, by go_num, rfl, by omega, Lib.hid (HS3.out.on (below_drewN (Below.refl _ _)))⟩
                          case measure => simp [intOf]; omega
                        | false =>
                          go_upto_region 25 with (fail)
                          go_quiet (fail)
                          clear r1 r2 x2 y2 x3 y3
                          go_wp2
                          go_roundw
                          case rel => exact ⟨n + 1, true, _, by go_num, rfl, by omega, Lib.hid ((HS3.out.on (below_drewN (Below.refl _ _))).strike HROW.out HLB.out (HNR.out rfl))⟩
                          case measure => simp [intOf]; omega
                    · have hnk2 : ¬ (n : Int) < x.kn := by omega
                      go_wp2
                      go_roundw
                      case rel => exact ⟨k + 1, again, rs, by go_num, rfl, by omega, HS3⟩
                      case measure => simp [intOf]; omega
                · have hky2 : ¬ (k : Int) < yn := by omega
                  go_wp2
                  go_roundw
                  case rel => exact ⟨i + 1, again, rs, by go_num, rfl, by omega, HS2⟩
                  case measure => simp [intOf]; omega
            · have hix2 : ¬ (i : Int) < xn := by omega
              go_wp2
              go_roundg (2 * cntR rs + (if again = true then 1 else 0))
              case rel => exact ⟨again, rs, rfl, Lib.hid rfl, Lib.hid HS1.out.mat, Lib.hid HS1.out.inv, Lib.hid HS1.out.len⟩
              case measure => rw [HGK.out]; have h1 := HS1.out.cnt.1; have h2 := HS1.out.cnt.2; cases again <;> simp at * <;> omega
end Go.Proofs.YtoakfninndkgaaaGreatDoor
set_option linter.unusedVariables false
namespace Go.Proofs.YtoakfninndkgaaaGreatDoor
open Go.RowKit
set_option maxRecDepth 20000 in
set_option maxHeartbeats 4000000 in
theorem same_any (w : World) (xa : Option Addr) (xn xc : Nat) (XS : List Hd) (hX : HeadsIn w xa xn XS) (ya : Option Addr) (yn yc : Nat) (HS : List Hd) (hH : HeadsIn w ya yn HS) (R : Nat → Nat → Prop) (hR : Rel2 XS HS R) (kx : ∀ x ∈ XS, ∀ k ∈ x.KS, 0 ≤ k ∧ k < (XS.length : Int)) (ky : ∀ x ∈ HS, ∀ k ∈ x.KS, 0 ≤ k ∧ k < (HS.length : Int)) (hxn : xn ≤ 100) (hyn : yn ≤ 100) (i0 k0 : Nat) (hi0 : i0 < xn) (hk0 : k0 < yn) (hr : R i0 k0) :
    Calls Tryz.prog 16 #[.agg #[.slice xa xn xc, .int .i64 (i0 : Int)], .agg #[.slice ya yn yc, .int .i64 (k0 : Int)]] w (BoolPost w true) := by
  have hb0 : Below w.heap.size w (w.alloc (.cells #[.slice xa xn xc, .int .i64 (i0 : Int)] 24)) := (Below.refl _ _).alloc (Nat.le_refl _) _
  have HB0 : Hid (Below w.heap.size w ((w.alloc (.cells #[.slice xa xn xc, .int .i64 (i0 : Int)] 24)).alloc (.cells #[.slice ya yn yc, .int .i64 (k0 : Int)] 24))) := Lib.hid (hb0.alloc hb0.size _)
  have HX1 : Hid (((w.alloc (.cells #[.slice xa xn xc, .int .i64 (i0 : Int)] 24)).alloc (.cells #[.slice ya yn yc, .int .i64 (k0 : Int)] 24)).heap[w.heap.size]? = some (.cells #[.slice xa xn xc, .int .i64 (i0 : Int)] 24 (0, 0))) := Lib.hid (by rw [Below.heap_alloc _ _ _ (by simp)]; exact heap_alloc_new w _)
  have HX2 : Hid (((w.alloc (.cells #[.slice xa xn xc, .int .i64 (i0 : Int)] 24)).alloc (.cells #[.slice ya yn yc, .int .i64 (k0 : Int)] 24)).heap[w.heap.size + 1]? = some (.cells #[.slice ya yn yc, .int .i64 (k0 : Int)] 24 (0, 0))) := Lib.hid (by
    have := heap_alloc_new (w.alloc (.cells #[.slice xa xn xc, .int .i64 (i0 : Int)] 24)) (.cells #[.slice ya yn yc, .int .i64 (k0 : Int)] 24)
    simpa using this)
  have HAK := Lib.hid (fun (w' : World) (hb : Below w.heap.size w w') => alike_any w' xa xn xc XS (hX.on hb) ya yn yc HS (hH.on hb) R hR kx ky hxn hyn (by omega) (by omega))
  have HXL := Lib.hid hX.1
  have HYL := Lib.hid hH.1
  have HRR := Lib.hid hr
  have hi2 : (i0 : Int) < xn := by omega
  have hk2 : (k0 : Int) < yn := by omega
  clear hb0 hX hH hR kx ky hr
  go_enter Tryz.func16, Tryz.ntmps16
  go_upto_region 1 with (fail)
  generalize ((w.alloc (.cells #[.slice xa xn xc, .int .i64 (i0 : Int)] 24)).alloc (.cells #[.slice ya yn yc, .int .i64 (k0 : Int)] 24)) = w1 at *
  have HL1 : Hid (w.heap.size + 1 < w1.heap.size) := Lib.hid (Array.getElem?_eq_some_iff.1 HX2.out).1
  have a0 : w1.cell? ⟨w.heap.size, 0, none⟩ = some (.slice xa xn xc) := (by rw [cell_of_row _ _ 0 _ 24 _ HX1.out]; rfl)
  have a1 : w1.cell? ⟨w.heap.size, 1, none⟩ = some (.int .i64 (i0 : Int)) := (by rw [cell_of_row _ _ 1 _ 24 _ HX1.out]; rfl)
  have b0 : w1.cell? ⟨w.heap.size + 1, 0, none⟩ = some (.slice ya yn yc) := (by rw [cell_of_row _ _ 0 _ 24 _ HX2.out]; rfl)
  have b1 : w1.cell? ⟨w.heap.size + 1, 1, none⟩ = some (.int .i64 (k0 : Int)) := (by rw [cell_of_row _ _ 1 _ 24 _ HX2.out]; rfl)
  go_region_law
    (first
      | (go_simp; go_at_call 39; (with_reducible refine (HAK.out _ (by exact HB0.out.drew)).mono ?_); rintro e w7 ⟨go, co, rows, rfl, hlen, hmat, hinv⟩; have HBW : Hid (Below w1.heap.size w1 w7) := Lib.hid (show Below w1.heap.size w1 w7 from (Below.refl _ _).drew.trans hmat.below); obtain ⟨⟨g, c, L⟩, hrow⟩ : ∃ r, rows[i0]? = some r := ⟨_, List.getElem?_eq_getElem (by rw [hlen, ← HXL.out]; exact hi0)⟩; have hLl := (hmat.each _ (List.mem_of_getElem? hrow)).1; obtain ⟨b, hb⟩ : ∃ b, L[k0]? = some b := ⟨_, List.getElem?_eq_getElem (by simp only at hLl; rw [hLl, ← HYL.out]; exact hk0)⟩; obtain ⟨x, hx⟩ : ∃ x, XS[i0]? = some x := ⟨_, List.getElem?_eq_getElem (by rw [← HXL.out]; exact hi0)⟩; obtain ⟨h, hh⟩ : ∃ h, HS[k0]? = some h := ⟨_, List.getElem?_eq_getElem (by rw [← HYL.out]; exact hk0)⟩; obtain rfl : b = true := (hinv i0 _ hrow k0 b hb x h hx hh).2 HRR.out; obtain ⟨m1, m2, m3, m4⟩ := hmat.cells hrow hb; rw [← HYL.out] at m1; have hlr : rows.length = xn := hlen.trans HXL.out.symm; have d0 : w7.cell? ⟨w.heap.size, 1, none⟩ = some (.int .i64 (i0 : Int)) := (by rw [cell_of_row _ _ 1 _ 24 _ ((HBW.out.block _ (Nat.lt_of_succ_lt HL1.out)).trans HX1.out)]; rfl); have d1 : w7.cell? ⟨w.heap.size + 1, 1, none⟩ = some (.int .i64 (k0 : Int)) := (by rw [cell_of_row _ _ 1 _ 24 _ ((HBW.out.block _ HL1.out).trans HX2.out)]; rfl); clear hmat hinv hrow hLl hb hx hh hlen m3 m4)
      | fail)
  all_goals
    go_wp2
    go_ret
    exact ⟨rfl, HB0.out.trans (HBW.out.mono HB0.out.size)⟩
end Go.Proofs.YtoakfninndkgaaaGreatDoor
set_option linter.unusedVariables false
namespace Go.Proofs.YtoakfninndkgaaaGreatDoor
open Go.RowKit
/-- two rows of heads of the same fields, wherever they lie. -/
structure Alk (OS XS : List Hd) : Prop where
  len : XS.length = OS.length
  eq : ∀ (i : Nat) x y, OS[i]? = some x → XS[i]? = some y → y.kd = x.kd ∧ y.op = x.op ∧ y.NS = x.NS ∧ y.KS = x.KS
theorem Alk.at {OS XS : List Hd} (h : Alk OS XS) {i : Nat} {y : Hd} (hy : XS[i]? = some y) : ∃ x, OS[i]? = some x ∧ y.kd = x.kd ∧ y.op = x.op ∧ y.NS = x.NS ∧ y.KS = x.KS := by
  have hl := (List.getElem?_eq_some_iff.1 hy).1
  obtain ⟨x, hx⟩ : ∃ x, OS[i]? = some x := ⟨_, List.getElem?_eq_getElem (by rw [← h.len]; exact hl)⟩
  exact ⟨x, hx, h.eq i x y hx hy⟩
theorem Alk.graph {OS XS : List Hd} (h : Alk OS XS) {root : Int} (hg : graphB root OS = true) : graphB root XS = true := by
  unfold graphB at hg ⊢
  simp only [Bool.and_eq_true, decide_eq_true_eq, List.all_eq_true] at hg ⊢
  rw [h.len]
  refine ⟨hg.1, fun y hy => ?_⟩
  obtain ⟨i, hi⟩ := List.getElem?_of_mem hy
  obtain ⟨x, hx, e1, e2, e3, e4⟩ := h.at hi
  rw [e1, e2, e3, e4]
  exact hg.2 x (List.mem_of_getElem? hx)
theorem Alk.rel {OS XS HS : List Hd} (h : Alk OS XS) {R : Nat → Nat → Prop} (hr : Rel2 OS HS R) : Rel2 XS HS R where
  pl i k y z hy hz hR := by
    obtain ⟨x, hx, e1, e2, e3, e4⟩ := h.at hy
    obtain ⟨p1, p2, p3, p4⟩ := hr.pl i k x z hx hz hR
    exact ⟨e1.trans p1, e2.trans p2, e3.trans p3, by rw [e4]; exact p4⟩
  kid i k y z hy hz hR n a b ha hb := by
    obtain ⟨x, hx, e1, e2, e3, e4⟩ := h.at hy
    rw [e4] at ha
    exact hr.kid i k x z hx hz hR n a b ha hb
end Go.Proofs.YtoakfninndkgaaaGreatDoor
set_option linter.unusedVariables false
namespace Go.Proofs.YtoakfninndkgaaaGreatDoor
open Go.RowKit
theorem word_low (s : ByteArray) {k : Nat} (h : ∀ i (hi : i < s.size), i < k → (97 ≤ s[i] && s[i] ≤ 122) = true) (hk : s.size ≤ k) : letters s.data.toList = true := by
  unfold letters
  refine List.all_eq_true.2 (fun c hc => ?_)
  obtain ⟨i, hi, rfl⟩ := List.getElem_of_mem hc
  exact h i (by simpa using hi) (Nat.lt_of_lt_of_le (show i < s.size from by simpa using hi) hk)
theorem not_word (s : ByteArray) (k : Nat) (hk : k < s.size) (h : (s[k].toNat : Int) < 97 ∨ (122 : Int) < (s[k].toNat : Int)) : isWordL s.data.toList = false := by
  cases hw : isWordL s.data.toList with
  | false => rfl
  | true =>
    have h1 := List.all_eq_true.1 (word_letters hw).1 (s[k]) (by
      have : s.data.toList[k]'(by simpa using hk) = s[k] := rfl
      rw [← this]
      exact List.getElem_mem _)
    simp [UInt8.le_iff_toNat_le] at h1
    omega
theorem not_stands (s : ByteArray) (j : Nat) (h : ∀ i, i < j → standsAt i s.data.toList = false) (hj : ¬ j + s.size + 2 ≤ 89) : isWordL s.data.toList = false := by
  cases hw : isWordL s.data.toList with
  | false => rfl
  | true =>
    obtain ⟨i, h1, h2⟩ := word_stands hw
    have : s.data.toList.length = s.size := by simp
    rw [h i (by omega)] at h2
    exact h2.symm
theorem stands_eq (s : ByteArray) (j : Nat) : (((⟨#[32, 102, 117, 110, 32, 108, 101, 116, 32, 114, 101, 99, 32, 105, 110, 32, 105, 102, 32, 116, 104, 101, 110, 32, 101, 108, 115, 101, 32, 99, 97, 115, 101, 32, 111, 102, 32, 101, 110, 100, 32, 116, 114, 117, 101, 32, 102, 97, 108, 115, 101, 32, 105, 110, 116, 32, 98, 111, 111, 108, 32, 115, 116, 114, 32, 102, 108, 111, 97, 116, 32, 100, 121, 110, 32, 97, 110, 121, 32, 110, 111, 110, 101, 32, 116, 121, 112, 101, 32]⟩ : ByteArray).extract j (j + s.size + 2)).toList == ((⟨#[32]⟩ : ByteArray) ++ s ++ (⟨#[32]⟩ : ByteArray)).toList) = standsAt j s.data.toList := by
  rw [Lib.toList_data, Lib.toList_data, Lib.extract_data, ByteArray.data_append, ByteArray.data_append]
  unfold standsAt
  have e : j + s.size + 2 - j = s.data.toList.length + 2 := by simp; omega
  rw [e]
  have e1 : ((⟨#[32, 102, 117, 110, 32, 108, 101, 116, 32, 114, 101, 99, 32, 105, 110, 32, 105, 102, 32, 116, 104, 101, 110, 32, 101, 108, 115, 101, 32, 99, 97, 115, 101, 32, 111, 102, 32, 101, 110, 100, 32, 116, 114, 117, 101, 32, 102, 97, 108, 115, 101, 32, 105, 110, 116, 32, 98, 111, 111, 108, 32, 115, 116, 114, 32, 102, 108, 111, 97, 116, 32, 100, 121, 110, 32, 97, 110, 121, 32, 110, 111, 110, 101, 32, 116, 121, 112, 101, 32]⟩ : ByteArray)).data.toList = textW := rfl
  rw [e1]
  simp
set_option maxRecDepth 20000 in
set_option maxHeartbeats 2000000 in
theorem rword_any (s : ByteArray) (hs : s.size ≤ 100000) (w : World) : Calls Tryz.prog 53 #[.string s] w fun e w' => e = .returned (.bool (isWordL s.data.toList)) ∧ w = w' := by
  cases hl : s.data.toList with
  | nil =>
    have hz : s.toList = [] := by rw [Lib.toList_data]; exact hl
    have hz2 : s.toList.isEmpty = true := by rw [hz]; rfl
    clear hl
    go_enter Tryz.func53, Tryz.ntmps53
    go_wp2
    go_ret
    exact ⟨rfl, rfl⟩
  | cons c l =>
    have hne : s.toList.isEmpty = false := by rw [Lib.toList_data, hl]; rfl
    have hne2 : s.toList ≠ [] := by rw [Lib.toList_data, hl]; simp
    have HLL := Lib.hid hl
    rw [← hl]
    clear hl
    go_enter Tryz.func53, Tryz.ntmps53
    go_wp2
    go_loop [3] (fun s3 => ∃ k : Nat, k ≤ s.size ∧ s3 = .int .i64 (k : Int) ∧ Hid (∀ i (hi : i < s.size), i < k → (97 ≤ s[i] && s[i] ≤ 122) = true)) (fun s3 => s.size - (intOf s3).toNat)
    case atStart => exact ⟨0, Nat.zero_le _, rfl, Lib.hid (fun i _ h => by omega)⟩
    case round =>
      obtain ⟨k, hk, rfl, HP⟩ := hrel
      have hwk : IntKind.i64.wrap ((k : Int) + 1) = (k : Int) + 1 := by rw [IntKind.wrap_i64]; omega
      by_cases hlt : k < s.size
      · have hlt2 : (k : Int) < s.size := by omega
        by_cases hlo : (97 : Int) ≤ (s[k].toNat : Int)
        · have hlo2 : ¬ (s[k].toNat : Int) < 97 := by omega
          by_cases hhi : (s[k].toNat : Int) ≤ 122
          · have hhi2 : ¬ (122 : Int) < (s[k].toNat : Int) := by omega
            go_wp2
            go_round
            case rel => exact ⟨k + 1, by omega, by go_num, Lib.hid (fun i hi h => by
              by_cases he : i = k
              · subst he
                simp [UInt8.le_iff_toNat_le]
                omega
              · exact HP.out i hi (by omega))⟩
            case measure => simp [intOf]; omega
          · have hhi2 : (122 : Int) < (s[k].toNat : Int) := by omega
            have HNW := Lib.hid (not_word s k hlt (Or.inr hhi2))
            go_wp2
            go_ret
            exact ⟨by rw [HNW.out]; rfl, rfl⟩
        · have hlo2 : (s[k].toNat : Int) < 97 := by omega
          have HNW := Lib.hid (not_word s k hlt (Or.inl hlo2))
          go_wp2
          go_ret
          exact ⟨by rw [HNW.out]; rfl, rfl⟩
      · have hlt2 : ¬ (k : Int) < s.size := by omega
        go_wp2
        go_loop [4] (fun s4 => ∃ j : Nat, j ≤ 89 ∧ s4 = .int .i64 (j : Int) ∧ Hid (∀ i, i < j → standsAt i s.data.toList = false)) (fun s4 => 89 - (intOf s4).toNat)
        case atStart => exact ⟨0, Nat.zero_le _, rfl, Lib.hid (fun i h => by omega)⟩
        case round =>
          obtain ⟨j, hj, rfl, HQ⟩ := hrel
          have hwk : IntKind.i64.wrap ((j : Int) + s.size) = (j : Int) + s.size := by rw [IntKind.wrap_i64]; omega
          have hwk2 : IntKind.i64.wrap ((j : Int) + s.size + 2) = (j : Int) + s.size + 2 := by rw [IntKind.wrap_i64]; omega
          have hwk3 : IntKind.i64.wrap ((j : Int) + 1) = (j : Int) + 1 := by rw [IntKind.wrap_i64]; omega
          by_cases hlt : j + s.size + 2 ≤ 89
          · have hlt2 : (j : Int) + s.size + 2 ≤ 89 := by omega
            have hst := stands_eq s j
            cases hb : standsAt j s.data.toList with
            | true =>
              rw [hb] at hst
              have HB := Lib.hid (stands_word (word_low s HP.out (by omega)) (by rw [HLL.out]; simp) j (by simp; omega) hb)
              clear hb
              go_wp2
              go_ret
              exact ⟨by rw [HB.out]; rfl, rfl⟩
            | false =>
              rw [hb] at hst
              have HB := Lib.hid hb
              clear hb
              go_wp2
              go_round
              case rel => exact ⟨j + 1, by omega, by go_num, Lib.hid (fun i h => by
                by_cases he : i = j
                · subst he; exact HB.out
                · exact HQ.out i (by omega))⟩
              case measure => simp [intOf]; omega
          · have hlt2 : ¬ (j : Int) + s.size + 2 ≤ 89 := by omega
            have HNW := Lib.hid (not_stands s j HQ.out hlt)
            go_wp2
            go_ret
            exact ⟨by rw [HNW.out]; rfl, rfl⟩
/-- the first byte is a small letter; all others may be of a name. -/
def tagAt (s : List UInt8) (i : Nat) : Bool := match s[i]? with | none => true | some c => if i = 0 then lowB c else inB c
theorem tag_all (l : List UInt8) (h0 : l ≠ []) (h : ∀ i, i < l.length → tagAt l i = true) : tagL l = true := by
  cases l with
  | nil => exact absurd rfl h0
  | cons c l =>
    have h1 := h 0 (by simp)
    simp [tagAt] at h1
    simp only [tagL, h1, Bool.true_and, List.all_eq_true]
    intro x hx
    obtain ⟨i, hi, rfl⟩ := List.getElem_of_mem hx
    have := h (i + 1) (by simpa using hi)
    simpa [tagAt, hi] using this
theorem tag_bad (l : List UInt8) (i : Nat) (hi : i < l.length) (h : tagAt l i = false) : tagL l = false := by
  cases l with
  | nil => rfl
  | cons c l =>
    cases i with
    | zero => simp [tagAt] at h; simp [tagL, h]
    | succ i =>
      have hi' : i < l.length := by simpa using hi
      simp [tagAt, hi'] at h
      have : l.all inB = false := List.all_eq_false.2 ⟨l[i], List.getElem_mem _, by simp [h]⟩
      simp [tagL, this]
set_option maxRecDepth 20000 in
set_option maxHeartbeats 2000000 in
theorem rtag_any (s : ByteArray) (hs : s.size ≤ 100000) (w : World) : Calls Tryz.prog 34 #[.string s] w fun e w' => e = .returned (.bool (tagL s.data.toList)) ∧ w = w' := by
  cases hl : s.data.toList with
  | nil =>
    have hz : s.toList = [] := by rw [Lib.toList_data]; exact hl
    have hz2 : s.toList.isEmpty = true := by rw [hz]; rfl
    have hsz : s.size = 0 := by have := congrArg List.length hl; simpa using this
    have hsz2 : (s.size : Int) ≤ 0 := by omega
    clear hl hsz
    go_enter Tryz.func34, Tryz.ntmps34
    go_wp2
    go_loop [3] (fun s3 => s3 = .int .i64 0) (fun _ => 0)
    case atStart => rfl
    case round =>
      obtain rfl := hrel
      have hnlt : ¬ (0 : Int) < s.size := by omega
      go_wp2
      go_ret
      exact ⟨rfl, rfl⟩
  | cons c l =>
    have hne : s.toList.isEmpty = false := by rw [Lib.toList_data, hl]; rfl
    have hne2 : s.toList ≠ [] := by rw [Lib.toList_data, hl]; simp
    have HLL := Lib.hid hl
    rw [← hl]
    clear hl
    go_enter Tryz.func34, Tryz.ntmps34
    go_wp2
    go_loop [3] (fun s3 => ∃ k : Nat, k ≤ s.size ∧ s3 = .int .i64 (k : Int) ∧ Hid (∀ i, i < k → tagAt s.data.toList i = true)) (fun s3 => s.size - (intOf s3).toNat)
    case atStart => exact ⟨0, Nat.zero_le _, rfl, Lib.hid (fun i h => by omega)⟩
    case round =>
      obtain ⟨k, hk, rfl, HP⟩ := hrel
      have hwk : IntKind.i64.wrap ((k : Int) + 1) = (k : Int) + 1 := by rw [IntKind.wrap_i64]; omega
      by_cases hlt : k < s.size
      · have hlt2 : (k : Int) < s.size := by omega
        have hta : tagAt s.data.toList k = if k = 0 then lowB s[k] else inB s[k] := by
          unfold tagAt
          rw [List.getElem?_eq_getElem (by simpa using hlt)]
          rfl
        have hv0 : (0 : Int) ≤ (s[k].toNat : Int) := by omega
        have hlow := lowB_eq s[k]
        have hdig := digB_eq s[k]
        have hin : inB s[k] = (lowB s[k] || digB s[k]) := rfl
        rcases (by omega : ((97 : Int) ≤ (s[k].toNat : Int) ∧ (s[k].toNat : Int) ≤ 122) ∨ (s[k].toNat : Int) = 95 ∨ (122 < (s[k].toNat : Int)) ∨ ((s[k].toNat : Int) < 97 ∧ (s[k].toNat : Int) ≠ 95 ∧ k = 0) ∨ ((s[k].toNat : Int) < 48 ∧ k ≠ 0) ∨ ((48 : Int) ≤ (s[k].toNat : Int) ∧ (s[k].toNat : Int) ≤ 57 ∧ k ≠ 0) ∨ ((57 : Int) < (s[k].toNat : Int) ∧ (s[k].toNat : Int) < 97 ∧ (s[k].toNat : Int) ≠ 95 ∧ k ≠ 0)) with ⟨h1, h2⟩ | h1 | h1 | ⟨h1, h2, h3⟩ | ⟨h1, h3⟩ | ⟨h1, h2, h3⟩ | ⟨h1, h2, h4, h3⟩
        · have e95 : ((s[k].toNat : Int) == 95) = false := by simp; omega
          have f97 : (97 : Int) ≤ (s[k].toNat : Int) := by omega
          have f122 : (s[k].toNat : Int) ≤ 122 := by omega
          rw [show lowB s[k] = true from by rw [hlow]; simp; omega] at hta hin
          replace hta : tagAt s.data.toList k = true := by rw [hta, hin]; split <;> rfl
          try clear h1
          try clear h2
          try clear h4
          try clear h3
          clear hlow hdig hin
          have HTA := Lib.hid hta
          clear hta
          go_wp2
          go_round
          case rel => exact ⟨k + 1, by omega, by go_num, Lib.hid (fun i h => by
            by_cases he : i = k
            · subst he; exact HTA.out
            · exact HP.out i (by omega))⟩
          case measure => simp [intOf]; omega
        · have e95 : ((s[k].toNat : Int) == 95) = true := by simp; omega
          have f97 : ¬ (97 : Int) ≤ (s[k].toNat : Int) := by omega
          rw [show lowB s[k] = true from by rw [hlow]; simp; omega] at hta hin
          replace hta : tagAt s.data.toList k = true := by rw [hta, hin]; split <;> rfl
          try clear h1
          try clear h2
          try clear h4
          try clear h3
          clear hlow hdig hin
          have HTA := Lib.hid hta
          clear hta
          go_wp2
          go_round
          case rel => exact ⟨k + 1, by omega, by go_num, Lib.hid (fun i h => by
            by_cases he : i = k
            · subst he; exact HTA.out
            · exact HP.out i (by omega))⟩
          case measure => simp [intOf]; omega
        · have e95 : ((s[k].toNat : Int) == 95) = false := by simp; omega
          have f97 : (97 : Int) ≤ (s[k].toNat : Int) := by omega
          have f122 : ¬ (s[k].toNat : Int) ≤ 122 := by omega
          have f48 : ¬ (s[k].toNat : Int) < 48 := by omega
          have f57 : (57 : Int) < (s[k].toNat : Int) := by omega
          rw [show lowB s[k] = false from by rw [hlow]; simp; omega] at hta hin
          rw [show digB s[k] = false from by rw [hdig]; simp; omega] at hin
          replace hta : tagAt s.data.toList k = false := by rw [hta, hin]; split <;> rfl
          try clear h1
          try clear h2
          try clear h4
          try clear h3
          clear hlow hdig hin
          have HTB := Lib.hid (tag_bad s.data.toList k (by simpa using hlt) hta)
          clear hta
          go_wp2
          all_goals
            go_ret
            exact ⟨by rw [HTB.out]; rfl, rfl⟩
        · have e95 : ((s[k].toNat : Int) == 95) = false := by simp; omega
          have f97 : ¬ (97 : Int) ≤ (s[k].toNat : Int) := by omega
          rw [show lowB s[k] = false from by rw [hlow]; simp; omega] at hta hin
          have ek0 : ((k : Int) == 0) = true := by simp; omega
          rw [if_pos h3] at hta
          try clear h1
          try clear h2
          try clear h4
          try clear h3
          clear hlow hdig hin
          have HTB := Lib.hid (tag_bad s.data.toList k (by simpa using hlt) hta)
          clear hta
          go_wp2
          all_goals
            go_ret
            exact ⟨by rw [HTB.out]; rfl, rfl⟩
        · have e95 : ((s[k].toNat : Int) == 95) = false := by simp; omega
          have f97 : ¬ (97 : Int) ≤ (s[k].toNat : Int) := by omega
          have f48 : (s[k].toNat : Int) < 48 := by omega
          rw [show lowB s[k] = false from by rw [hlow]; simp; omega] at hta hin
          rw [show digB s[k] = false from by rw [hdig]; simp; omega] at hin
          have ek0 : ((k : Int) == 0) = false := by simp; omega
          rw [if_neg h3, hin] at hta
          try clear h1
          try clear h2
          try clear h4
          try clear h3
          clear hlow hdig hin
          have HTB := Lib.hid (tag_bad s.data.toList k (by simpa using hlt) hta)
          clear hta
          go_wp2
          all_goals
            go_ret
            exact ⟨by rw [HTB.out]; rfl, rfl⟩
        · have e95 : ((s[k].toNat : Int) == 95) = false := by simp; omega
          have f97 : ¬ (97 : Int) ≤ (s[k].toNat : Int) := by omega
          have f48 : ¬ (s[k].toNat : Int) < 48 := by omega
          have f57 : ¬ (57 : Int) < (s[k].toNat : Int) := by omega
          rw [show lowB s[k] = false from by rw [hlow]; simp; omega] at hta hin
          rw [show digB s[k] = true from by rw [hdig]; simp; omega] at hin
          have ek0 : ((k : Int) == 0) = false := by simp; omega
          rw [if_neg h3, hin] at hta
          try clear h1
          try clear h2
          try clear h4
          try clear h3
          clear hlow hdig hin
          have HTA := Lib.hid hta
          clear hta
          go_wp2
          go_round
          case rel => exact ⟨k + 1, by omega, by go_num, Lib.hid (fun i h => by
            by_cases he : i = k
            · subst he; exact HTA.out
            · exact HP.out i (by omega))⟩
          case measure => simp [intOf]; omega
        · have e95 : ((s[k].toNat : Int) == 95) = false := by simp; omega
          have f97 : ¬ (97 : Int) ≤ (s[k].toNat : Int) := by omega
          have f48 : ¬ (s[k].toNat : Int) < 48 := by omega
          have f57 : (57 : Int) < (s[k].toNat : Int) := by omega
          rw [show lowB s[k] = false from by rw [hlow]; simp; omega] at hta hin
          rw [show digB s[k] = false from by rw [hdig]; simp; omega] at hin
          have ek0 : ((k : Int) == 0) = false := by simp; omega
          rw [if_neg h3, hin] at hta
          try clear h1
          try clear h2
          try clear h4
          try clear h3
          clear hlow hdig hin
          have HTB := Lib.hid (tag_bad s.data.toList k (by simpa using hlt) hta)
          clear hta
          go_wp2
          all_goals
            go_ret
            exact ⟨by rw [HTB.out]; rfl, rfl⟩
      · have hlt2 : ¬ (k : Int) < s.size := by omega
        have HB := Lib.hid (tag_all s.data.toList (by rw [HLL.out]; simp) (fun i hi => HP.out i (by simp at hi; omega)))
        go_wp2
        go_ret
        exact ⟨by rw [HB.out]; rfl, rfl⟩
theorem rname_any (s : ByteArray) (hs : s.size ≤ 100000) (w : World) : Calls Tryz.prog 33 #[.string s] w fun e w' => e = .returned (.bool (nameL s.data.toList)) ∧ w = w' := by
  unfold nameL
  have HT := Lib.hid (rtag_any s hs w)
  have HW := Lib.hid (rword_any s hs w)
  generalize isWordL s.data.toList = b at *
  generalize tagL s.data.toList = a at *
  cases a
  · go_enter Tryz.func33, Tryz.ntmps33
    go_wp2_with (go_at_call 34; ((with_reducible refine HT.out.mono ?_); rintro e w' ⟨rfl, rfl⟩))
    go_ret
    exact ⟨rfl, rfl⟩
  · cases b
    all_goals
      go_enter Tryz.func33, Tryz.ntmps33
      go_wp2_with (first | (go_at_call 34; ((with_reducible refine HT.out.mono ?_); rintro e w' ⟨rfl, rfl⟩)) | (go_at_call 53; ((with_reducible refine HW.out.mono ?_); rintro e w' ⟨rfl, rfl⟩)))
      go_ret
      exact ⟨rfl, rfl⟩
end Go.Proofs.YtoakfninndkgaaaGreatDoor
