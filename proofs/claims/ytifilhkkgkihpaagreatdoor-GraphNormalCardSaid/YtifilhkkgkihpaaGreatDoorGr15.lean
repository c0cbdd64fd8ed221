/- Walks: ref08.Alike, its whole answer. -/
import Derived.Test.YtifilhkkgkihpaaGreatDoorGr12
import Derived.BigQuiet
set_option linter.unusedSimpArgs false
set_option linter.unusedVariables false
set_option linter.unusedSimpArgs false
set_option linter.unusedVariables false
namespace Go.Proofs.YtifilhkkgkihpaaGreatDoor
open Go.RowKit
/-- the matrix holds true at i, k. -/
def AtM (rows : List BRow) (i k : Nat) : Prop := ∃ r, rows[i]? = some r ∧ r.2.2[k]? = some true
/-- of the places that P names: where the matrix holds true, it does so at the kids. -/
def CloM (XS HS : List Hd) (rows : List BRow) (P : Nat → Nat → Nat → Prop) : Prop := ∀ (i k n : Nat) x h a b, XS[i]? = some x → HS[k]? = some h → P i k n → x.KS[n]? = some a → h.KS[n]? = some b → AtM rows i k → AtM rows a.toNat b.toNat
theorem CloM.none {XS HS : List Hd} {rows : List BRow} {P : Nat → Nat → Nat → Prop} (hP : ∀ i k n, ¬ P i k n) : CloM XS HS rows P := fun i k n _ _ _ _ _ _ hp => absurd hp (hP i k n)
theorem CloM.imp {XS HS : List Hd} {rows : List BRow} {P P' : Nat → Nat → Nat → Prop} (h : CloM XS HS rows P) (hP : ∀ (i k n : Nat) x h a, XS[i]? = some x → HS[k]? = some h → x.KS[n]? = some a → P' i k n → P i k n) : CloM XS HS rows P' :=
  fun i k n x y a b hx hy hp ha hb hm => h i k n x y a b hx hy (hP i k n x y a hx hy ha hp) ha hb hm
theorem CloM.no {XS HS : List Hd} {rows : List BRow} {i k n : Nat} {r : BRow} (h : CloM XS HS rows (fun i' k' n' => i' < i ∨ i' = i ∧ (k' < k ∨ k' = k ∧ n' < n))) (hr : rows[i]? = some r) (hb : r.2.2[k]? = some false) : CloM XS HS rows (fun i' k' n' => i' < i ∨ i' = i ∧ (k' < k ∨ k' = k ∧ n' < n + 1)) := by
  intro i' k' n' x y a b hx hy hp ha hb' hm
  by_cases h0 : i' < i ∨ i' = i ∧ (k' < k ∨ k' = k ∧ n' < n)
  · exact h i' k' n' x y a b hx hy h0 ha hb' hm
  · obtain ⟨rfl, rfl⟩ : i' = i ∧ k' = k := by omega
    obtain ⟨s, hs, hk⟩ := hm
    rw [hr] at hs
    cases hs
    rw [hb] at hk
    cases hk
theorem CloM.yes {XS HS : List Hd} {rows : List BRow} {i k n : Nat} {x y : Hd} {a b : Int} (h : CloM XS HS rows (fun i' k' n' => i' < i ∨ i' = i ∧ (k' < k ∨ k' = k ∧ n' < n))) (hx : XS[i]? = some x) (hy : HS[k]? = some y) (ha : x.KS[n]? = some a) (hb : y.KS[n]? = some b) (hat : AtM rows a.toNat b.toNat) : CloM XS HS rows (fun i' k' n' => i' < i ∨ i' = i ∧ (k' < k ∨ k' = k ∧ n' < n + 1)) := by
  intro i' k' n' x' y' a' b' hx' hy' hp ha' hb' hm
  by_cases h0 : i' < i ∨ i' = i ∧ (k' < k ∨ k' = k ∧ n' < n)
  · exact h i' k' n' x' y' a' b' hx' hy' h0 ha' hb' hm
  · obtain ⟨rfl, rfl, rfl⟩ : i' = i ∧ k' = k ∧ n' = n := by omega
    rw [hx] at hx'
    rw [hy] at hy'
    cases hx'
    cases hy'
    rw [ha] at ha'
    rw [hb] at hb'
    cases ha'
    cases hb'
    exact hat
def AlikePostB (w : World) (XS HS : List Hd) (R : Nat → Nat → Prop) (e : Ending) (w' : World) : Prop := ∃ (go co : Nat) (rows : List BRow), e = .returned (.slice (some ⟨go, 0, none⟩) rows.length co) ∧ rows.length = XS.length ∧ MatAt w w' HS.length go co rows ∧ InvM XS HS R rows ∧ CloM XS HS rows (fun _ _ _ => True)
set_option maxRecDepth 20000 in
set_option maxHeartbeats 8000000 in
theorem alike_clo (w : World) (xa : Option Addr) (xn xc : Nat) (XS : List Hd) (hX : HeadsIn w xa xn XS) (ya : Option Addr) (yn yc : Nat) (HS : List Hd) (hH : HeadsIn w ya yn HS) (R : Nat → Nat → Prop) (hR : Rel2 XS HS R) (kx : ∀ x ∈ XS, ∀ k ∈ x.KS, 0 ≤ k ∧ k < (XS.length : Int)) (ky : ∀ x ∈ HS, ∀ k ∈ x.KS, 0 ≤ k ∧ k < (HS.length : Int)) (hxn : xn ≤ 100) (hyn : yn ≤ 100) (hx0 : 0 < xn) (hy0 : 0 < yn) :
    Calls Tryz.prog 72 #[.slice xa xn xc, .slice ya yn yc] w (AlikePostB w XS HS R) := by
  have HRR := Lib.hid hR
  have HKX := Lib.hid kx
  have HKY := Lib.hid ky
  have HXL := Lib.hid hX.1
  have HYL := Lib.hid hH.1
  obtain ⟨gx, ox, rfl, hgx, hcx⟩ := hX.2.resolve_left (by omega)
  obtain ⟨gy, oy, rfl, hgy, hcy⟩ := hH.2.resolve_left (by omega)
  have HGX := Lib.hid hgx
  have HGY := Lib.hid hgy
  have HCX := Lib.hid hcx
  have HCY := Lib.hid hcy
  have hxn2 : (xn : Int) ≤ 100 := by omega
  have hyn2 : (yn : Int) ≤ 100 := by omega
  have HM0 : Hid (MatAt w (w.alloc (.cells #[] 76)) yn w.heap.size 0 []) := Lib.hid ⟨(Below.refl _ _).alloc (Nat.le_refl _) _, World.ownsRow_made w #[] 0 (Nat.le_refl _) (by decide) rfl, fun r hr => (by cases hr), List.Pairwise.nil⟩
  have HI0 : Hid (InvM XS HS R []) := Lib.hid (fun i r hr => by simp at hr)
  obtain ⟨i4, p4, q41, q42, q43⟩ := info_parts Tryz.info4
  have P4 := Lib.hid p4
  have Q41 := Lib.hid q41
  have Q42 := Lib.hid q42
  have Q43 := Lib.hid q43
  obtain ⟨i87, p87, q871, q872, q873⟩ := info_parts Tryz.info76
  have P87 := Lib.hid p87
  have Q871 := Lib.hid q871
  have Q872 := Lib.hid q872
  have Q873 := Lib.hid q873
  clear p4 q41 q42 q43 p87 q871 q872 q873 hX hH hR kx ky hgx hgy hcx hcy
  go_enter Tryz.func72, Tryz.ntmps72
  go_upto_region 3 with (fail)
  obtain ⟨w1, hw1⟩ : ∃ w1, w.alloc (.cells #[] 76) = w1 := ⟨_, rfl⟩
  rw [hw1] at HM0 ⊢
  clear hw1
  obtain ⟨g0, hg0⟩ : ∃ g0, w.heap.size = g0 := ⟨_, rfl⟩
  have HG0 := Lib.hid hg0
  have HM1 : Hid (MatAt w w1 yn g0 0 []) := Lib.hid (by rw [← hg0]; exact HM0.out)
  rw [hg0]
  clear hg0 HM0
  go_loopw [16, 5] (fun s16 s5 wr => ∃ (rows : List BRow) (go co : Nat), s16 = .int .i64 (rows.length : Int) ∧ s5 = .slice (some ⟨go, 0, none⟩) rows.length co ∧ rows.length ≤ xn ∧ Hid (MatAt w wr yn go co rows) ∧ Hid (InvM XS HS R rows)) (fun s16 _ _ => xn - (intOf s16).toNat)
  case atStart => exact ⟨[], g0, 0, rfl, rfl, Nat.zero_le _, HM1, HI0⟩
  case round =>
    obtain ⟨rows, go, co, rfl, rfl, hrl, HM, HI⟩ := hrel
    obtain ⟨wi, rfl⟩ : ∃ wi : World, wi = wr := ⟨_, rfl⟩
    have hwr : IntKind.i64.wrap ((rows.length : Int) + 1) = (rows.length : Int) + 1 := by rw [IntKind.wrap_i64]; omega
    by_cases hrx : rows.length < xn
    · have hrx2 : (rows.length : Int) < xn := by omega
      obtain ⟨x, hx⟩ : ∃ x, XS[rows.length]? = some x := ⟨_, List.getElem?_eq_getElem (by rw [← HXL.out]; exact hrx)⟩
      have HX := Lib.hid hx
      have HXI := Lib.hid (HCX.out _ _ hx)
      have HB2 : Hid (Below wi.heap.size wi (wi.alloc (.cells #[] 4))) := Lib.hid ((Below.refl _ _).alloc (Nat.le_refl _) _)
      have HR0 : Hid ((wi.alloc (.cells #[] 4)).ownsRow w.heap.size 4 1 (.slice (some ⟨wi.heap.size, 0, none⟩) 0 0) 0 []) := Lib.hid (World.ownsRow_made wi #[] 0 HM.out.below.size (by decide) rfl)
      have HND : Hid (∀ r ∈ rows, r.1 ≠ wi.heap.size) := Lib.hid (fun r hr => by have := ((HM.out.each r hr).2.lt r.1 rfl).2; omega)
      clear hx
      go_upto_region 7 with (fail)
      obtain ⟨w2, hw2⟩ : ∃ w2, wi.alloc (.cells #[] 4) = w2 := ⟨_, rfl⟩
      rw [hw2] at HB2 HR0
      try rw [hw2]
      clear hw2
      obtain ⟨gr0, hgr0⟩ : ∃ gr0, wi.heap.size = gr0 := ⟨_, rfl⟩
      have HM2 := Lib.hid (HM.out.on HB2.out)
      rw [hgr0] at HR0 HND ⊢
      clear hgr0
      go_loopw [22, 7] (fun s22 s7 wr => ∃ (L : List Bool) (gr cr : Nat), s22 = .int .i64 (L.length : Int) ∧ s7 = .slice (some ⟨gr, 0, none⟩) L.length cr ∧ L.length ≤ yn ∧ Hid (MatAt w wr yn go co rows) ∧ Hid (wr.ownsRow w.heap.size 4 1 (.slice (some ⟨gr, 0, none⟩) L.length cr) L.length (L.map Value.bool)) ∧ Hid (∀ r ∈ rows, r.1 ≠ gr) ∧ Hid (InvR HS R rows.length x L)) (fun s22 _ _ => yn - (intOf s22).toNat)
      case atStart => exact ⟨[], gr0, 0, rfl, rfl, Nat.zero_le _, HM2, HR0, HND, Lib.hid (fun k b hk => by simp at hk)⟩
      case round =>
        obtain ⟨L, gr, cr, rfl, rfl, hll, HMJ, HRJ, HNJ, HIJ⟩ := hrel
        obtain ⟨wj, rfl⟩ : ∃ wj : World, wj = wr := ⟨_, rfl⟩
        have hwl : IntKind.i64.wrap ((L.length : Int) + 1) = (L.length : Int) + 1 := by rw [IntKind.wrap_i64]; omega
        by_cases hly : L.length < yn
        · have hly2 : (L.length : Int) < yn := by omega
          obtain ⟨h, hh⟩ : ∃ h, HS[L.length]? = some h := ⟨_, List.getElem?_eq_getElem (by rw [← HYL.out]; exact hly)⟩
          have HH := Lib.hid hh
          have HYI := Lib.hid (HCY.out _ _ hh)
          have HBJ := Lib.hid HMJ.out.below
          have hd : Below wj.heap.size wj wj.drew := (Below.refl _ _).drew
          have HDR := Lib.hid hd
          have a0 : wj.cell? ⟨gx, ox + rows.length * 4, none⟩ = some (.int .i64 x.kd) := keepB HBJ.out HGX.out HXI.out.c0
          have a1 : wj.cell? ⟨gx, ox + rows.length * 4 + 1, none⟩ = some (.slice x.na x.nn x.nc) := keepB HBJ.out HGX.out HXI.out.c1
          have a2 : wj.cell? ⟨gx, ox + rows.length * 4 + 2, none⟩ = some (.slice x.ka x.kn x.kc) := keepB HBJ.out HGX.out HXI.out.c2
          have a3 : wj.cell? ⟨gx, ox + rows.length * 4 + 3, none⟩ = some (.bool x.op) := keepB HBJ.out HGX.out HXI.out.c3
          have b0 : wj.cell? ⟨gy, oy + L.length * 4, none⟩ = some (.int .i64 h.kd) := keepB HBJ.out HGY.out HYI.out.c0
          have b1 : wj.cell? ⟨gy, oy + L.length * 4 + 1, none⟩ = some (.slice h.na h.nn h.nc) := keepB HBJ.out HGY.out HYI.out.c1
          have b2 : wj.cell? ⟨gy, oy + L.length * 4 + 2, none⟩ = some (.slice h.ka h.kn h.kc) := keepB HBJ.out HGY.out HYI.out.c2
          have b3 : wj.cell? ⟨gy, oy + L.length * 4 + 3, none⟩ = some (.bool h.op) := keepB HBJ.out HGY.out HYI.out.c3
          have HPL := Lib.hid (plain_any wj.drew x h (HXI.out.ok.on (HBJ.out.trans (hd.mono HBJ.out.size))) (HYI.out.ok.on (HBJ.out.trans (hd.mono HBJ.out.size))))
          have HRP : Hid (R rows.length L.length → Pl x h) := Lib.hid (fun hr => HRR.out.pl _ _ x h HX.out hh hr)
          clear hh hd
          go_upto_region 9 with (fail)
          go_region_law
            (first
              | (go_simp; go_at_call 64; (with_reducible refine HPL.out.mono ?_); rintro e w7 ⟨b, rfl, hb, hb7⟩; have HB7 := Lib.hid hb; have HBB : Hid (Below wj.heap.size wj w7) := Lib.hid (HDR.out.trans (hb7.mono HDR.out.size)); have HRN : Hid ((w7.alloc (.cells #[.bool b] 4)).ownsRow w.heap.size 4 1 (.slice (some ⟨gr, 0, none⟩) L.length cr) L.length (L.map Value.bool)) := Lib.hid (HRJ.out.kept (grown_below (HBB.out.alloc HBB.out.size _)) (.inr (by simp [Value.ownBlock]))); have HLE : Hid (w.heap.size ≤ (w7.alloc (.cells #[.bool b] 4)).heap.size) := Lib.hid (by have := HBJ.out.size; have := HBB.out.size; simp; omega); clear hb hb7)
              | (refine step_append_lies (w7.alloc (.cells #[.bool b] 4)) rfl _ _ 76 rfl w.heap.size 4 i4 (.bool false) 1 1 Tryz.underlying76 P4.out Q41.out Q42.out Q43.out rfl (by decide) (.slice (some ⟨gr, 0, none⟩) L.length cr) L.length (L.map Value.bool) rfl HRN.out ⟨w7.heap.size, 0, none⟩ 1 1 [.bool b] rfl rfl (news_of (heap_alloc_new w7 _)) (by simp [Value.oneCell']) (by decide) (by unfold maxLen; omega) (by omega) HLE.out _ rfl ?_; intro g5 c5 w8 hown5 hgr5 hw5 hlt5; have HO5 := Lib.hid hown5; have HG5 := Lib.hid hgr5; have HW5 := Lib.hid hw5; clear hown5 hgr5 hw5 hlt5)
              | fail)
          all_goals
            have HE := Lib.hid (row_end HMJ.out HRJ.out HNJ.out HBB.out HG5.out HW5.out)
            have HIN := Lib.hid (HIJ.out.push HH.out HB7.out HRP.out)
            have HO6 : Hid (w8.ownsRow w.heap.size 4 1 (.slice (some ⟨g5, 0, none⟩) (L ++ [b]).length c5) (L ++ [b]).length ((L ++ [b]).map Value.bool)) := Lib.hid (by simpa using HO5.out)
            clear a0 a1 a2 a3 b0 b1 b2 b3
            go_wp2
            go_roundw
            case rel => exact ⟨L ++ [b], g5, c5, by simp, by simp, by simp; omega, Lib.hid HE.out.1, HO6, Lib.hid HE.out.2, HIN⟩
            case measure => simp [intOf]; omega
        · have hly2 : ¬ (L.length : Int) < yn := by omega
          have hL : L.length = yn := by omega
          have HL := Lib.hid hL
          have HBA : Hid (Below wj.heap.size wj (wj.alloc (.cells #[.slice (some ⟨gr, 0, none⟩) L.length cr] 76))) := Lib.hid ((Below.refl _ _).alloc (Nat.le_refl _) _)
          have HMA := Lib.hid (HMJ.out.on HBA.out)
          have HRA : Hid ((wj.alloc (.cells #[.slice (some ⟨gr, 0, none⟩) L.length cr] 76)).ownsRow w.heap.size 4 1 (.slice (some ⟨gr, 0, none⟩) yn cr) yn (L.map Value.bool)) := Lib.hid (by have h8 := HRJ.out; rw [hL] at h8; exact h8.kept (grown_below HBA.out) (.inr (by simp [Value.ownBlock])))
          have HMN := Lib.hid (HI.out.push (r := (gr, cr, L)) HX.out HIJ.out)
          clear hL
          go_wp2_with (at_builtin; refine wpList_append_lies _ rfl _ _ 74 rfl w.heap.size 76 i87 (.slice none 0 0) 1 24 Tryz.underlying74 P87.out Q871.out Q872.out Q873.out rfl (by decide) _ rows.length (rows.map (rowv yn)) rfl HMA.out.out ⟨wj.heap.size, 0, none⟩ 1 1 [.slice (some ⟨gr, 0, none⟩) L.length cr] rfl rfl (World.news_of_block (cs := #[.slice (some ⟨gr, 0, none⟩) L.length cr]) (heap_alloc_new wj _)) (by simp [Value.oneCell']) (by omega) (by unfold maxLen; omega) (by omega) (Nat.le_trans HMJ.out.below.size HBA.out.size) _ rfl ?_; intro g6 c6 w9 hown6 hgr6 hw6 hlt6; have HPU := Lib.hid (HMA.out.push HL.out HRA.out HNJ.out hgr6 (by have h8 := hown6; rw [show (Value.slice (some ⟨gr, 0, none⟩) L.length cr) = .slice (some ⟨gr, 0, none⟩) yn cr from by rw [HL.out]] at h8; exact h8)); clear hown6 hgr6 hw6 hlt6)
          go_roundw
          case rel => exact ⟨rows ++ [(gr, cr, L)], g6, c6, by simp, by simp, by simp; omega, HPU, HMN⟩
          case measure => simp [intOf]; omega
    · have hrx2 : ¬ (rows.length : Int) < xn := by omega
      have hrn : rows.length = xn := by omega
      have HRN := Lib.hid hrn
      go_upto_region 14 with (fail)
      try rw [hrn]
      clear hrx hrx2 hwr hrl hrn
      go_loopg [9] (2 * cntR rows + 1) (fun gk s9 wr => ∃ (again : Bool) (rs : List BRow), s9 = .bool again ∧ Hid (gk = 2 * cntR rs + (if again = true then 1 else 0)) ∧ Hid (MatAt w wr yn go co rs) ∧ Hid (InvM XS HS R rs) ∧ Hid (rs.length = xn) ∧ Hid (again = false → CloM XS HS rs (fun _ _ _ => True)))
      case atStart => exact ⟨true, rows, rfl, Lib.hid rfl, HM, HI, HRN, Lib.hid (fun e => by cases e)⟩
      case round =>
        clear HM HI HRN
        obtain ⟨again, rs, rfl, HGK, HM, HI, HRN, HC0⟩ := hrel
        cases again with
        | false =>
          go_wp2
          go_ret
          exact ⟨go, co, rs, by rw [HRN.out]; rfl, by rw [HRN.out]; exact HXL.out, by rw [← HYL.out]; exact HM.out, HI.out, HC0.out (by first | rfl | trivial)⟩
        | true =>
          have HS0 : Hid (Str w wr XS HS R yn xn go co (cntR rs) false rs) := Lib.hid ⟨HM.out, HI.out, HRN.out, Nat.le_refl _, fun e => by cases e⟩
          obtain ⟨c0, hc0⟩ : ∃ c0, cntR rs = c0 := ⟨_, rfl⟩
          rw [hc0] at HS0 HGK
          clear hc0
          go_upto_region 17 with (fail)
          go_loopw [46, 9] (fun s46 s9 wr => ∃ (i : Nat) (again : Bool) (rs : List BRow), s46 = .int .i64 (i : Int) ∧ s9 = .bool again ∧ i ≤ xn ∧ Hid (Str w wr XS HS R yn xn go co c0 again rs) ∧ Hid (again = false → CloM XS HS rs (fun i' _ _ => i' < i))) (fun s46 _ _ => xn - (intOf s46).toNat)
          case atStart => exact ⟨0, false, rs, rfl, rfl, Nat.zero_le _, HS0, Lib.hid (fun _ => CloM.none (fun i' _ _ h => by omega))⟩
          case round =>
            clear HS0 HM HI HRN HC0
            obtain ⟨i, again, rs, rfl, rfl, hi, HS1, HC1⟩ := hrel
            obtain ⟨wi, rfl⟩ : ∃ wi : World, wi = wr := ⟨_, rfl⟩
            have hwi : IntKind.i64.wrap ((i : Int) + 1) = (i : Int) + 1 := by rw [IntKind.wrap_i64]; omega
            by_cases hix : i < xn
            · have hix2 : (i : Int) < xn := by omega
              obtain ⟨x, hx⟩ : ∃ x, XS[i]? = some x := ⟨_, List.getElem?_eq_getElem (by rw [← HXL.out]; exact hix)⟩
              have HX := Lib.hid hx
              have HXI := Lib.hid (HCX.out _ _ hx)
              have HXK := Lib.hid (HKX.out x (List.mem_of_getElem? hx))
              have hxk := HXI.out.ok.knb
              have hxk2 : (x.kn : Int) ≤ 1000 := by omega
              have HXKN : Hid (x.kn = x.KS.length) := Lib.hid HXI.out.ok.kids.1
              clear hx
              go_upto_region 20 with (fail)
              go_loopw [51, 9] (fun s51 s9 wr => ∃ (k : Nat) (again : Bool) (rs : List BRow), s51 = .int .i64 (k : Int) ∧ s9 = .bool again ∧ k ≤ yn ∧ Hid (Str w wr XS HS R yn xn go co c0 again rs) ∧ Hid (again = false → CloM XS HS rs (fun i' k' _ => i' < i ∨ i' = i ∧ k' < k))) (fun s51 _ _ => yn - (intOf s51).toNat)
              case atStart => exact ⟨0, again, rs, rfl, rfl, Nat.zero_le _, HS1, Lib.hid (fun e => (HC1.out e).imp (fun i' k' n' _ _ _ _ _ _ h => by omega))⟩
              case round =>
                clear HS1 HC1
                obtain ⟨k, again, rs, rfl, rfl, hk, HS2, HC2⟩ := hrel
                obtain ⟨wk, rfl⟩ : ∃ wk : World, wk = wr := ⟨_, rfl⟩
                have hwk : IntKind.i64.wrap ((k : Int) + 1) = (k : Int) + 1 := by rw [IntKind.wrap_i64]; omega
                by_cases hky : k < yn
                · have hky2 : (k : Int) < yn := by omega
                  obtain ⟨h, hh⟩ : ∃ h, HS[k]? = some h := ⟨_, List.getElem?_eq_getElem (by rw [← HYL.out]; exact hky)⟩
                  have HH := Lib.hid hh
                  have HYI := Lib.hid (HCY.out _ _ hh)
                  have HHK := Lib.hid (HKY.out h (List.mem_of_getElem? hh))
                  have HHKN : Hid (h.kn = h.KS.length) := Lib.hid HYI.out.ok.kids.1
                  have x2 : wk.cell? ⟨gx, ox + i * 4 + 2, none⟩ = some (.slice x.ka x.kn x.kc) := keepB HS2.out.mat.below HGX.out HXI.out.c2
                  clear hh
                  go_upto_region 23 with (fail)
                  clear x2
                  go_loopw [60, 9] (fun s60 s9 wr => ∃ (n : Nat) (again : Bool) (rs : List BRow), s60 = .int .i64 (n : Int) ∧ s9 = .bool again ∧ n ≤ x.kn ∧ Hid (Str w wr XS HS R yn xn go co c0 again rs) ∧ Hid (again = false → CloM XS HS rs (fun i' k' n' => i' < i ∨ i' = i ∧ (k' < k ∨ k' = k ∧ n' < n)))) (fun s60 _ _ => x.kn - (intOf s60).toNat)
                  case atStart => exact ⟨0, again, rs, rfl, rfl, Nat.zero_le _, HS2, Lib.hid (fun e => (HC2.out e).imp (fun i' k' n' _ _ _ _ _ _ h => by omega))⟩
                  case round =>
                    clear HS2 HC2
                    obtain ⟨n, again, rs, rfl, rfl, hn, HS3, HC3⟩ := hrel
                    obtain ⟨wn, rfl⟩ : ∃ wn : World, wn = wr := ⟨_, rfl⟩
                    have hwn : IntKind.i64.wrap ((n : Int) + 1) = (n : Int) + 1 := by rw [IntKind.wrap_i64]; omega
                    by_cases hnk : n < x.kn
                    · have hnk2 : (n : Int) < x.kn := by omega
                      obtain ⟨⟨g, c, L⟩, hrow⟩ : ∃ r, rs[i]? = some r := ⟨_, List.getElem?_eq_getElem (by rw [HS3.out.len]; exact hix)⟩
                      have hLl := (HS3.out.mat.each _ (List.mem_of_getElem? hrow)).1
                      obtain ⟨b, hb⟩ : ∃ b, L[k]? = some b := ⟨_, List.getElem?_eq_getElem (by simp only at hLl; omega)⟩
                      obtain ⟨m1, m2, m3, m4⟩ := HS3.out.mat.cells hrow hb
                      have HROW := Lib.hid hrow
                      have HLB := Lib.hid hb
                      have HIV := Lib.hid (HS3.out.inv i _ hrow k b hb x h HX.out HH.out)
                      have HDR : Hid (Below wn.heap.size wn wn.drew) := Lib.hid (Below.refl _ _).drew
                      have HS3D := Lib.hid (HS3.out.on HDR.out)
                      clear hrow hLl hb
                      cases b with
                      | false =>
                        have HCN := Lib.hid (fun (e : again = false) => (HC3.out e).no HROW.out HLB.out)
                        go_upto_region 25 with (fail)
                        go_quiet (fail)
                        go_wp2
                        go_roundw
                        case rel => exact ⟨n + 1, again, rs, by go_num, rfl, by omega, Lib.hid (HS3.out.on (below_drewN (Below.refl _ _))), HCN⟩
                        case measure => simp [intOf]; omega
                      | true =>
                        have hpl := HIV.out.1 rfl
                        obtain ⟨p, hp⟩ : ∃ p, x.KS[n]? = some p := ⟨_, List.getElem?_eq_getElem (by rw [← HXKN.out]; exact hnk)⟩
                        obtain ⟨q, hq⟩ : ∃ q, h.KS[n]? = some q := ⟨_, List.getElem?_eq_getElem (by rw [← hpl.2.2.2, ← HXKN.out]; exact hnk)⟩
                        have hpr := HXK.out p (List.mem_of_getElem? hp)
                        have hqr := HHK.out q (List.mem_of_getElem? hq)
                        obtain ⟨p, rfl⟩ : ∃ p' : Nat, p = (p' : Int) := ⟨p.toNat, by omega⟩
                        obtain ⟨q, rfl⟩ : ∃ q' : Nat, q = (q' : Int) := ⟨q.toNat, by omega⟩
                        have hnh : n < h.kn := by rw [HHKN.out, ← hpl.2.2.2, ← HXKN.out]; exact hnk
                        have hnh2 : (n : Int) < h.kn := by omega
                        have hpx : p < xn := by rw [HXL.out]; omega
                        have hqy : q < yn := by rw [HYL.out]; omega
                        have hpx2 : (p : Int) < xn := by omega
                        have hqy2 : (q : Int) < yn := by omega
                        obtain ⟨gi, oi, hka, hgi, hci⟩ := HXI.out.ok.kids.2.resolve_left (by omega)
                        obtain ⟨gj, oj, hkb, hgj, hcj⟩ := HYI.out.ok.kids.2.resolve_left (by omega)
                        have x2 : wn.cell? ⟨gx, ox + i * 4 + 2, none⟩ = some (.slice (some ⟨gi, oi, none⟩) x.kn x.kc) := by rw [← hka]; exact keepB HS3.out.mat.below HGX.out HXI.out.c2
                        have y2 : wn.cell? ⟨gy, oy + k * 4 + 2, none⟩ = some (.slice (some ⟨gj, oj, none⟩) h.kn h.kc) := by rw [← hkb]; exact keepB HS3.out.mat.below HGY.out HYI.out.c2
                        have x3 : wn.cell? ⟨gi, oi + n, none⟩ = some (.int .i64 (p : Int)) := keepB HS3.out.mat.below hgi (hci n _ hp)
                        have y3 : wn.cell? ⟨gj, oj + n, none⟩ = some (.int .i64 (q : Int)) := keepB HS3.out.mat.below hgj (hcj n _ hq)
                        obtain ⟨⟨g2, c2, L2⟩, hrow2⟩ : ∃ r, rs[p]? = some r := ⟨_, List.getElem?_eq_getElem (by rw [HS3.out.len]; exact hpx)⟩
                        have hLl2 := (HS3.out.mat.each _ (List.mem_of_getElem? hrow2)).1
                        obtain ⟨b2, hb2⟩ : ∃ b, L2[q]? = some b := ⟨_, List.getElem?_eq_getElem (by simp only at hLl2; omega)⟩
                        obtain ⟨r1, r2, r3, r4⟩ := HS3.out.mat.cells hrow2 hb2
                        have HNR : Hid (b2 = false → ¬ R i k) := Lib.hid (fun e hr => by
                          have h9 := HRR.out.kid i k x h HX.out HH.out hr n _ _ hp hq
                          simp only [Int.toNat_natCast] at h9
                          obtain ⟨x', hx'⟩ : ∃ x', XS[p]? = some x' := ⟨_, List.getElem?_eq_getElem (by rw [← HXL.out]; exact hpx)⟩
                          obtain ⟨h', hh'⟩ : ∃ h', HS[q]? = some h' := ⟨_, List.getElem?_eq_getElem (by rw [← HYL.out]; exact hqy)⟩
                          have h8 := (HS3.out.inv p _ hrow2 q b2 hb2 x' h' hx' hh').2 h9
                          rw [e] at h8
                          cases h8)
                        have HCN := Lib.hid (fun (e : again = false) (e2 : b2 = true) => (HC3.out e).yes HX.out HH.out hp hq (show AtM rs (p : Int).toNat (q : Int).toNat by simp only [Int.toNat_natCast]; exact ⟨_, hrow2, by rw [← e2]; exact hb2⟩))
                        clear hpl hp hq hpr hqr hka hkb hgi hgj hci hcj hrow2 hLl2 hb2 r3 r4
                        cases b2 with
                        | true =>
                          have HCN := Lib.hid (fun (e : again = false) => HCN.out e rfl)
                          go_upto_region 25 with (fail)
                          go_quiet (fail)
                          go_wp2
                          go_roundw
                          case rel => exact ⟨n + 1, again, rs, by go_num, rfl, by omega, Lib.hid (HS3.out.on (below_drewN (Below.refl _ _))), HCN⟩
                          case measure => simp [intOf]; omega
                        | false =>
                          go_upto_region 25 with (fail)
                          go_quiet (fail)
                          clear r1 r2 x2 y2 x3 y3
                          go_wp2
                          go_roundw
                          case rel => exact ⟨n + 1, true, _, by go_num, rfl, by omega, Lib.hid ((HS3.out.on (below_drewN (Below.refl _ _))).strike HROW.out HLB.out (HNR.out rfl)), Lib.hid (fun e => by cases e)⟩
                          case measure => simp [intOf]; omega
                    · have hnk2 : ¬ (n : Int) < x.kn := by omega
                      go_wp2
                      go_roundw
                      case rel => exact ⟨k + 1, again, rs, by go_num, rfl, by omega, HS3, Lib.hid (fun e => (HC3.out e).imp (fun i' k' n' x' h' a' hx' hh' ha' h => by
                        rcases h with h | ⟨rfl, h⟩
                        · exact .inl h
                        · refine .inr ⟨rfl, ?_⟩
                          rcases Nat.lt_or_ge k' k with h9 | h9
                          · exact .inl h9
                          · obtain rfl : x' = x := Option.some.inj (hx'.symm.trans HX.out)
                            have h7 := (List.getElem?_eq_some_iff.1 ha').1
                            have h8 := HXKN.out
                            exact .inr ⟨by omega, by omega⟩))⟩
                      case measure => simp [intOf]; omega
                · have hky2 : ¬ (k : Int) < yn := by omega
                  go_wp2
                  go_roundw
                  case rel => exact ⟨i + 1, again, rs, by go_num, rfl, by omega, HS2, Lib.hid (fun e => (HC2.out e).imp (fun i' k' n' x' h' a' hx' hh' ha' h => by
                    have h7 := (List.getElem?_eq_some_iff.1 hh').1
                    have h8 := HYL.out
                    rcases Nat.lt_or_ge i' i with h9 | h9
                    · exact .inl h9
                    · exact .inr ⟨by omega, by omega⟩))⟩
                  case measure => simp [intOf]; omega
            · have hix2 : ¬ (i : Int) < xn := by omega
              go_wp2
              go_roundg (2 * cntR rs + (if again = true then 1 else 0))
              case rel => exact ⟨again, rs, rfl, Lib.hid rfl, Lib.hid HS1.out.mat, Lib.hid HS1.out.inv, Lib.hid HS1.out.len, Lib.hid (fun e => (HC1.out e).imp (fun i' k' n' x' h' a' hx' hh' ha' h => by
                have h7 := (List.getElem?_eq_some_iff.1 hx').1
                have h8 := HXL.out
                omega))⟩
              case measure => rw [HGK.out]; have h1 := HS1.out.cnt.1; have h2 := HS1.out.cnt.2; cases again <;> simp at * <;> omega
/-- alike, by definition: some relation that keeps what heads are, and their kids, ties them. -/
def Bis (XS HS : List Hd) (i k : Nat) : Prop := ∃ R, Rel2 XS HS R ∧ R i k
theorem bis_rel (XS HS : List Hd) : Rel2 XS HS (Bis XS HS) where
  pl i k x h hx hh hr := by
    obtain ⟨R, hR, h1⟩ := hr
    exact hR.pl i k x h hx hh h1
  kid i k x h hx hh hr n a b ha hb := by
    obtain ⟨R, hR, h1⟩ := hr
    exact ⟨R, hR, hR.kid i k x h hx hh h1 n a b ha hb⟩
theorem mat_bis {w w' : World} {XS HS : List Hd} {go co : Nat} {rows : List BRow} (hl : rows.length = XS.length) (hm : MatAt w w' HS.length go co rows) (hi : InvM XS HS (Bis XS HS) rows) (hc : CloM XS HS rows (fun _ _ _ => True)) {i k : Nat} (hi1 : i < XS.length) (hk1 : k < HS.length) : AtM rows i k ↔ Bis XS HS i k := by
  have hrel : Rel2 XS HS (AtM rows) := {
    pl := fun i k x h hx hh hr => by
      obtain ⟨r, hr1, hr2⟩ := hr
      exact (hi i r hr1 k true hr2 x h hx hh).1 rfl
    kid := fun i k x h hx hh hr n a b ha hb => hc i k n x h a b hx hh trivial ha hb hr }
  refine ⟨fun h => ⟨_, hrel, h⟩, fun h => ?_⟩
  obtain ⟨r, hr⟩ : ∃ r, rows[i]? = some r := ⟨_, List.getElem?_eq_getElem (by rw [hl]; exact hi1)⟩
  have h1 := (hm.each r (List.mem_of_getElem? hr)).1
  obtain ⟨b, hb⟩ : ∃ b, r.2.2[k]? = some b := ⟨_, List.getElem?_eq_getElem (by rw [h1]; exact hk1)⟩
  obtain ⟨x, hx⟩ : ∃ x, XS[i]? = some x := ⟨_, List.getElem?_eq_getElem hi1⟩
  obtain ⟨y, hy⟩ : ∃ y, HS[k]? = some y := ⟨_, List.getElem?_eq_getElem hk1⟩
  have := (hi i r hr k b hb x y hx hy).2 h
  exact ⟨r, hr, by rw [hb, this]⟩
def AlikePostC (w : World) (XS HS : List Hd) (e : Ending) (w' : World) : Prop := ∃ (go co : Nat) (rows : List BRow), e = .returned (.slice (some ⟨go, 0, none⟩) rows.length co) ∧ rows.length = XS.length ∧ MatAt w w' HS.length go co rows ∧ ∀ i k, i < XS.length → k < HS.length → (AtM rows i k ↔ Bis XS HS i k)
theorem alike_bis (w : World) (xa : Option Addr) (xn xc : Nat) (XS : List Hd) (hX : HeadsIn w xa xn XS) (ya : Option Addr) (yn yc : Nat) (HS : List Hd) (hH : HeadsIn w ya yn HS) (kx : ∀ x ∈ XS, ∀ k ∈ x.KS, 0 ≤ k ∧ k < (XS.length : Int)) (ky : ∀ x ∈ HS, ∀ k ∈ x.KS, 0 ≤ k ∧ k < (HS.length : Int)) (hxn : xn ≤ 100) (hyn : yn ≤ 100) (hx0 : 0 < xn) (hy0 : 0 < yn) :
    Calls Tryz.prog 72 #[.slice xa xn xc, .slice ya yn yc] w (AlikePostC w XS HS) := by
  refine (alike_clo w xa xn xc XS hX ya yn yc HS hH (Bis XS HS) (bis_rel XS HS) kx ky hxn hyn hx0 hy0).mono ?_
  rintro e w' ⟨go, co, rows, rfl, h1, h2, h3, h4⟩
  exact ⟨go, co, rows, rfl, h1, h2, fun i k hi hk => mat_bis h1 h2 h3 h4 hi hk⟩
end Go.Proofs.YtifilhkkgkihpaaGreatDoor
