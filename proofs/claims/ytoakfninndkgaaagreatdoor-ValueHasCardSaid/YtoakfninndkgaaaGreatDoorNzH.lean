/- Walks: ref09.New, ref09.Below. -/
import Derived.Test.YtoakfninndkgaaaGreatDoorNzF
import Derived.Test.YtoakfninndkgaaaGreatDoorNzG
set_option linter.unusedVariables false
namespace Go.Proofs.YtoakfninndkgaaaGreatDoor
open Go.RowKit
theorem mayAt_eq {A B : List Hd} {U D : Nat → Nat → Bool} {i j : Nat} {h k : Hd} (hi : A[i]? = some h) (hj : B[j]? = some k) : mayAt A B U D i j = mayH h k B U D := by
  unfold mayAt
  rw [hi, hj]
theorem mayAt_any (w : World) (la lb : Option Addr) (ln lc lm ld : Nat) (A B : List Hd) (hA : HeadsIn w la ln A) (hB : HeadsIn w lb lm B) (hln : (ln : Int) ≤ 100000) (hlm : (lm : Int) ≤ 100000) (Gu cu Gd cd : Nat) (Ru Cu Rd Cd : Nat → Nat) (U D : Nat → Nat → Bool) (hU : TabR w Gu ln lm Ru Cu U) (hD : TabR w Gd lm ln Rd Cd D) (i j : Nat) (okA : OkHeads A) (okB : OkHeads B) (hi : i < A.length) (hj : j < B.length) :
    Calls Tryz.prog 63 #[.slice la ln lc, .slice lb lm ld, .slice (some ⟨Gu, 0, none⟩) ln cu, .slice (some ⟨Gd, 0, none⟩) lm cd, .int .i64 (i : Int), .int .i64 (j : Int)] w (BoolPost w (mayAt A B U D i j)) := by
  rw [mayAt_eq (List.getElem?_eq_getElem hi) (List.getElem?_eq_getElem hj)]
  exact may_any w la lb ln lc lm ld A B hA hB hln hlm Gu cu Gd cd Ru Cu Rd Cd U D hU hD i j okA okB _ _ (List.getElem?_eq_getElem hi) (List.getElem?_eq_getElem hj)
def NewPost (w : World) (la : Option Addr) (ln lc : Nat) (lb : Option Addr) (lm ld : Nat) (A B : List Hd) (e : Ending) (w' : World) : Prop :=
  ∃ (t : TT) (U D : Nat → Nat → Bool), e = .returned (.pointer (some ⟨t.T, 0, none⟩)) ∧ NInv w la ln lc lb lm ld t w' U D ∧ ∀ a b, a < A.length → b < B.length → Chk A B U D a b
set_option maxRecDepth 20000 in
set_option maxHeartbeats 16000000 in
theorem new_any (w : World) (la lb : Option Addr) (ln lc lm ld : Nat) (A B : List Hd) (hA : HeadsIn w la ln A) (hB : HeadsIn w lb lm B) (hln : (ln : Int) ≤ 100000) (hlm : (lm : Int) ≤ 100000) (okA : OkHeads A) (okB : OkHeads B) :
    Calls Tryz.prog 52 #[.slice la ln lc, .slice lb lm ld] w (NewPost w la ln lc lb lm ld A B) := by
  have HAA := Lib.hid hA
  have HBB := Lib.hid hB
  have HOA := Lib.hid okA
  have HOB := Lib.hid okB
  have HLA := Lib.hid hA.1
  have HLB := Lib.hid hB.1
  have hn1 : ln ≤ 100000 := by omega
  have hm1 : lm ≤ 100000 := by omega
  clear hA hB okA okB
  go_enter Tryz.func52, Tryz.ntmps52
  go_upto_region 2 with (first
    | (go_at_call 62; (with_reducible refine (full_any _ ln lm hn1 hm1).mono ?_); rintro e w1 ⟨Gu, cu, Ru, Cu, rfl, hT1, hb1⟩; have HT1 := Lib.hid hT1; have HB1 := Lib.hid hb1; clear hT1 hb1)
    | (go_at_call 62; (with_reducible refine (full_any _ lm ln hm1 hn1).mono ?_); rintro e w2 ⟨Gd, cd, Rd, Cd, rfl, hT2, hb2⟩; have HT2 := Lib.hid hT2; have HB2 := Lib.hid hb2; clear hT2 hb2))
  obtain ⟨t0, ht0⟩ : ∃ t : TT, t = ⟨Gu, cu, Gd, cd, w2.heap.size, w.heap.size, w1.heap.size, w2.heap.size, Ru, Cu, Rd, Cd⟩ := ⟨_, rfl⟩
  have HI0 : Hid (NInv w la ln lc lb lm ld t0 (w2.alloc (.cells #[.slice la ln lc, .slice lb lm ld, .slice (some ⟨Gu, 0, none⟩) ln cu, .slice (some ⟨Gd, 0, none⟩) lm cd] 114)) (fun _ _ => true) (fun _ _ => true)) := Lib.hid (by
    subst ht0
    have h12 := HB1.out.size
    have h22 := HB2.out.size
    refine ⟨heap_alloc_new w2 _, HT1.out.keep (fun k _ hk => ?_), HT2.out.keep (fun k _ hk => ?_), Nat.le_refl _, h22, by simp, Nat.le_refl _, h12, ?_⟩
    · rw [Below.heap_alloc _ _ _ (by (try simp only at hk); omega)]
      exact HB2.out.block k hk
    · exact Below.heap_alloc _ _ _ hk
    · exact (HB1.out.trans (HB2.out.mono h12)).alloc (by omega) _)
  have eT : w2.heap.size = t0.T := by rw [ht0]
  have eGu : Gu = t0.Gu := by rw [ht0]
  have ecu : cu = t0.cu := by rw [ht0]
  have eGd : Gd = t0.Gd := by rw [ht0]
  have ecd : cd = t0.cd := by rw [ht0]
  clear ht0
  generalize (w2.alloc (.cells #[.slice la ln lc, .slice lb lm ld, .slice (some ⟨Gu, 0, none⟩) ln cu, .slice (some ⟨Gd, 0, none⟩) lm cd] 114)) = w3 at *
  rw [eT]
  subst eGu ecu eGd ecd
  clear eT
  go_wp2
  go_loopg [6] (2 * (cntT A.length B.length (fun _ _ => true) + cntT B.length A.length (fun _ _ => true)) + 1) (fun k s6 wr => ∃ (again : Bool) (U D : Nat → Nat → Bool), s6 = .bool again ∧ Hid (k = 2 * (cntT A.length B.length U + cntT B.length A.length D) + again.toNat) ∧ Hid (NInv w la ln lc lb lm ld t0 wr U D) ∧ Hid (again = false → ∀ a b, a < A.length → b < B.length → Chk A B U D a b))
  case atStart => exact ⟨true, _, _, rfl, Lib.hid rfl, HI0, Lib.hid (fun h => by cases h)⟩
  case round =>
    obtain ⟨again0, U0, D0, rfl, HK, HI, HP⟩ := hrel
    cases again0 with
    | false =>
      go_wp2
      go_ret
      exact ⟨t0, U0, D0, rfl, HI.out, HP.out (by first | rfl | trivial)⟩
    | true =>
      obtain ⟨wo, rfl⟩ : ∃ wo : World, wo = wr := ⟨_, rfl⟩
      clear HP
      go_wp2
      go_loopw [26, 6] (fun s26 s6 wr => ∃ (i : Nat) (again : Bool) (U D : Nat → Nat → Bool), s26 = .int .i64 (i : Int) ∧ s6 = .bool again ∧ i ≤ ln ∧ Hid (NInv w la ln lc lb lm ld t0 wr U D) ∧ Hid (StN A B U0 D0 again U D (fun a _ => a < i))) (fun s26 _ _ => ln - (intOf s26).toNat)
      case atStart => exact ⟨0, false, U0, D0, rfl, rfl, Nat.zero_le _, HI, Lib.hid (Or.inl ⟨rfl, rfl, rfl, fun a b _ _ h => by omega⟩)⟩
      case round =>
        obtain ⟨i, again1, U1, D1, rfl, rfl, hi, HI1, HS1⟩ := hrel
        obtain ⟨wi, rfl⟩ : ∃ wi : World, wi = wr := ⟨_, rfl⟩
        have hwi : IntKind.i64.wrap ((i : Int) + 1) = (i : Int) + 1 := by rw [IntKind.wrap_i64]; omega
        by_cases hil : i < ln
        · have hil2 : (i : Int) < ln := by omega
          have HIA : Hid (i < A.length) := Lib.hid (by rw [← HLA.out]; exact hil)
          go_wp2
          go_loopw [31, 6] (fun s31 s6 wr => ∃ (j : Nat) (again : Bool) (U D : Nat → Nat → Bool), s31 = .int .i64 (j : Int) ∧ s6 = .bool again ∧ j ≤ lm ∧ Hid (NInv w la ln lc lb lm ld t0 wr U D) ∧ Hid (StN A B U0 D0 again U D (fun a b => a < i ∨ (a = i ∧ b < j)))) (fun s31 _ _ => lm - (intOf s31).toNat)
          case atStart => exact ⟨0, again1, U1, D1, rfl, rfl, Nat.zero_le _, HI1, Lib.hid (HS1.out.mono (fun a b _ _ h => by omega))⟩
          case round =>
            obtain ⟨j, again, U, D, rfl, rfl, hj, HJ, HS⟩ := hrel
            have hwj : IntKind.i64.wrap ((j : Int) + 1) = (j : Int) + 1 := by rw [IntKind.wrap_i64]; omega
            by_cases hjl : j < lm
            · have hjl2 : (j : Int) < lm := by omega
              have HJB : Hid (j < B.length) := Lib.hid (by rw [← HLB.out]; exact hjl)
              obtain ⟨wa, rfl⟩ : ∃ wa : World, wa = wr := ⟨_, rfl⟩
              go_upto_region 11 with (fail)
              have ab2 : wa.cell? ⟨t0.T, 2, none⟩ = some (.slice (some ⟨t0.Gu, 0, none⟩) ln t0.cu) := HJ.out.b2
              have ab3 : wa.cell? ⟨t0.T, 3, none⟩ = some (.slice (some ⟨t0.Gd, 0, none⟩) lm t0.cd) := HJ.out.b3
              have ar1 : wa.cell? ⟨t0.Gu, i, none⟩ = some (.slice (some ⟨t0.Ru i, 0, none⟩) lm (t0.Cu i)) := HJ.out.up.read.row i hil
              have ar2 : wa.cell? ⟨t0.Ru i, j, none⟩ = some (.bool (U i j)) := HJ.out.up.read.cell i j hil hjl
              have aHM : Hid (∀ W', Below wa.heap.size wa W' → Calls Tryz.prog 63 #[.slice la ln lc, .slice lb lm ld, .slice (some ⟨t0.Gu, 0, none⟩) ln t0.cu, .slice (some ⟨t0.Gd, 0, none⟩) lm t0.cd, .int .i64 (i : Int), .int .i64 (j : Int)] W' (BoolPost W' (mayAt A B U D i j))) := Lib.hid (fun W' hb => by
                have iv := HJ.out.on hb
                exact mayAt_any W' la lb ln lc lm ld A B (HAA.out.on (iv.below)) (HBB.out.on (iv.below)) hln hlm t0.Gu t0.cu t0.Gd t0.cd t0.Ru t0.Cu t0.Rd t0.Cd U D iv.up.read iv.down.read i j HOA.out HOB.out HIA.out HJB.out)
              have aHE : Hid (∃ b : Bool, U i j = b) := Lib.hid ⟨_, rfl⟩
              obtain ⟨ab, ahb⟩ := aHE.out
              have aHB := Lib.hid ahb
              rw [ahb] at ar2
              clear ahb
              cases ab with
              | false =>
                have aOK : Hid (U i j = true → mayAt A B U D i j = true) := Lib.hid (fun h => by rw [aHB.out] at h; cases h)
                go_region
                have aI2 := Lib.hid HJ.out.drew
                clear ab2 ab3 ar1 ar2
                generalize wa.drew = aw at *
                go_upto_region 14 with (fail)
                have bb2 : aw.cell? ⟨t0.T, 2, none⟩ = some (.slice (some ⟨t0.Gu, 0, none⟩) ln t0.cu) := aI2.out.b2
                have bb3 : aw.cell? ⟨t0.T, 3, none⟩ = some (.slice (some ⟨t0.Gd, 0, none⟩) lm t0.cd) := aI2.out.b3
                have br1 : aw.cell? ⟨t0.Gd, j, none⟩ = some (.slice (some ⟨t0.Rd j, 0, none⟩) ln (t0.Cd j)) := aI2.out.down.read.row j hjl
                have br2 : aw.cell? ⟨t0.Rd j, i, none⟩ = some (.bool (D j i)) := aI2.out.down.read.cell j i hjl hil
                have bHM : Hid (∀ W', Below aw.heap.size aw W' → Calls Tryz.prog 63 #[.slice lb lm ld, .slice la ln lc, .slice (some ⟨t0.Gd, 0, none⟩) lm t0.cd, .slice (some ⟨t0.Gu, 0, none⟩) ln t0.cu, .int .i64 (j : Int), .int .i64 (i : Int)] W' (BoolPost W' (mayAt B A D U j i))) := Lib.hid (fun W' hb => by
                  have iv := aI2.out.on hb
                  exact mayAt_any W' lb la lm ld ln lc B A (HBB.out.on (iv.below)) (HAA.out.on (iv.below)) hlm hln t0.Gd t0.cd t0.Gu t0.cu t0.Rd t0.Cd t0.Ru t0.Cu D U iv.down.read iv.up.read j i HOB.out HOA.out HJB.out HIA.out)
                have bHE : Hid (∃ b : Bool, D j i = b) := Lib.hid ⟨_, rfl⟩
                obtain ⟨bb, bhb⟩ := bHE.out
                have bHB := Lib.hid bhb
                rw [bhb] at br2
                clear bhb
                cases bb with
                | false =>
                  have bOK : Hid (D j i = true → mayAt B A D U j i = true) := Lib.hid (fun h => by rw [bHB.out] at h; cases h)
                  go_region
                  have bI2 := Lib.hid aI2.out.drew
                  clear bb2 bb3 br1 br2
                  generalize aw.drew = bw at *
                  go_wp2
                  go_roundw
                  case rel => exact ⟨j + 1, again, U, D, by go_num, rfl, by omega, bI2, Lib.hid (HS.out.next ⟨aOK.out, bOK.out⟩ (fun a b h => by omega))⟩
                  case measure => simp [intOf]; omega
                | true =>
                  have bHC : Hid (∃ b : Bool, mayAt B A D U j i = b) := Lib.hid ⟨_, rfl⟩
                  obtain ⟨bc, bhc⟩ := bHC.out
                  have bHD := Lib.hid bhc
                  rw [bhc] at bHM
                  clear bhc
                  have bTL : Hid (t0.T < aw.heap.size) := Lib.hid aI2.out.tl
                  have bGL : Hid (t0.Gu < aw.heap.size ∧ t0.Gd < aw.heap.size ∧ t0.Ru i < aw.heap.size ∧ t0.Rd j < aw.heap.size) := Lib.hid ⟨aI2.out.up.read.gl, aI2.out.down.read.gl, aI2.out.up.read.rl i hil, aI2.out.down.read.rl j hjl⟩
                  go_region_held3 (fun w' => w'.cell? ⟨t0.T, 2, none⟩ = some (.slice (some ⟨t0.Gu, 0, none⟩) ln t0.cu) ∧ w'.cell? ⟨t0.T, 3, none⟩ = some (.slice (some ⟨t0.Gd, 0, none⟩) lm t0.cd) ∧ w'.cell? ⟨t0.Gd, j, none⟩ = some (.slice (some ⟨t0.Rd j, 0, none⟩) ln (t0.Cd j)) ∧ w'.cell? ⟨t0.Rd j, i, none⟩ = some (.bool true)) (first | exact ⟨bb2, bb3, br1, br2⟩ | exact ⟨keepB bC5.out bTL.out bb2, keepB bC5.out bTL.out bb3, keepB bC5.out bGL.out.2.1 br1, keepB bC5.out bGL.out.2.2.2 br2⟩)
                    ((go_at_call 63; (with_reducible refine (bHM.out _ (by exact (Below.refl _ _).drew)).mono ?_); rintro e bw ⟨rfl, hb7⟩; have bC5 := Lib.hid (show Below aw.heap.size aw bw from (Below.refl _ _).drew.trans hb7); clear hb7))
                  have bI2 := Lib.hid (aI2.out.on bC5.out)
                  clear bb2 bb3 br1 br2
                  cases bc with
                  | true =>
                    have bOK : Hid (D j i = true → mayAt B A D U j i = true) := Lib.hid (fun _ => bHD.out)
                    go_wp2
                    go_roundw
                    case rel => exact ⟨j + 1, again, U, D, by go_num, rfl, by omega, bI2, Lib.hid (HS.out.next ⟨aOK.out, bOK.out⟩ (fun a b h => by omega))⟩
                    case measure => simp [intOf]; omega
                  | false =>
                    have bxb2 : bw.cell? ⟨t0.T, 2, none⟩ = some (.slice (some ⟨t0.Gu, 0, none⟩) ln t0.cu) := bI2.out.b2
                    have bxb3 : bw.cell? ⟨t0.T, 3, none⟩ = some (.slice (some ⟨t0.Gd, 0, none⟩) lm t0.cd) := bI2.out.b3
                    have bxr1 : bw.cell? ⟨t0.Gd, j, none⟩ = some (.slice (some ⟨t0.Rd j, 0, none⟩) ln (t0.Cd j)) := bI2.out.down.read.row j hjl
                    have bxr2 : bw.cell? ⟨t0.Rd j, i, none⟩ = some (.bool (D j i)) := bI2.out.down.read.cell j i hjl hil
                    rw [bHB.out] at bxr2
                    have bxf : bw.frozen? ⟨t0.Rd j, i, none⟩ = false := bI2.out.free2 hjl
                    have bxl : t0.Rd j < bw.heap.size := Nat.lt_of_lt_of_le bGL.out.2.2.2 bC5.out.size
                    have bI3 := Lib.hid (bI2.out.set2 hjl hil)
                    go_wp2
                    go_roundw
                    case rel => exact ⟨j + 1, true, U, (upd D j i), by go_num, rfl, by omega, bI3, Lib.hid (HS.out.strike2 HIA.out HJB.out bHB.out)⟩
                    case measure => simp [intOf]; omega
              | true =>
                have aHC : Hid (∃ b : Bool, mayAt A B U D i j = b) := Lib.hid ⟨_, rfl⟩
                obtain ⟨ac, ahc⟩ := aHC.out
                have aHD := Lib.hid ahc
                rw [ahc] at aHM
                clear ahc
                have aTL : Hid (t0.T < wa.heap.size) := Lib.hid HJ.out.tl
                have aGL : Hid (t0.Gu < wa.heap.size ∧ t0.Gd < wa.heap.size ∧ t0.Ru i < wa.heap.size ∧ t0.Rd j < wa.heap.size) := Lib.hid ⟨HJ.out.up.read.gl, HJ.out.down.read.gl, HJ.out.up.read.rl i hil, HJ.out.down.read.rl j hjl⟩
                go_region_held3 (fun w' => w'.cell? ⟨t0.T, 2, none⟩ = some (.slice (some ⟨t0.Gu, 0, none⟩) ln t0.cu) ∧ w'.cell? ⟨t0.T, 3, none⟩ = some (.slice (some ⟨t0.Gd, 0, none⟩) lm t0.cd) ∧ w'.cell? ⟨t0.Gu, i, none⟩ = some (.slice (some ⟨t0.Ru i, 0, none⟩) lm (t0.Cu i)) ∧ w'.cell? ⟨t0.Ru i, j, none⟩ = some (.bool true)) (first | exact ⟨ab2, ab3, ar1, ar2⟩ | exact ⟨keepB aC5.out aTL.out ab2, keepB aC5.out aTL.out ab3, keepB aC5.out aGL.out.1 ar1, keepB aC5.out aGL.out.2.2.1 ar2⟩)
                  ((go_at_call 63; (with_reducible refine (aHM.out _ (by exact (Below.refl _ _).drew)).mono ?_); rintro e aw ⟨rfl, hb7⟩; have aC5 := Lib.hid (show Below wa.heap.size wa aw from (Below.refl _ _).drew.trans hb7); clear hb7))
                have aI2 := Lib.hid (HJ.out.on aC5.out)
                clear ab2 ab3 ar1 ar2
                cases ac with
                | true =>
                  have aOK : Hid (U i j = true → mayAt A B U D i j = true) := Lib.hid (fun _ => aHD.out)
                  go_upto_region 14 with (fail)
                  have bb2 : aw.cell? ⟨t0.T, 2, none⟩ = some (.slice (some ⟨t0.Gu, 0, none⟩) ln t0.cu) := aI2.out.b2
                  have bb3 : aw.cell? ⟨t0.T, 3, none⟩ = some (.slice (some ⟨t0.Gd, 0, none⟩) lm t0.cd) := aI2.out.b3
                  have br1 : aw.cell? ⟨t0.Gd, j, none⟩ = some (.slice (some ⟨t0.Rd j, 0, none⟩) ln (t0.Cd j)) := aI2.out.down.read.row j hjl
                  have br2 : aw.cell? ⟨t0.Rd j, i, none⟩ = some (.bool (D j i)) := aI2.out.down.read.cell j i hjl hil
                  have bHM : Hid (∀ W', Below aw.heap.size aw W' → Calls Tryz.prog 63 #[.slice lb lm ld, .slice la ln lc, .slice (some ⟨t0.Gd, 0, none⟩) lm t0.cd, .slice (some ⟨t0.Gu, 0, none⟩) ln t0.cu, .int .i64 (j : Int), .int .i64 (i : Int)] W' (BoolPost W' (mayAt B A D U j i))) := Lib.hid (fun W' hb => by
                    have iv := aI2.out.on hb
                    exact mayAt_any W' lb la lm ld ln lc B A (HBB.out.on (iv.below)) (HAA.out.on (iv.below)) hlm hln t0.Gd t0.cd t0.Gu t0.cu t0.Rd t0.Cd t0.Ru t0.Cu D U iv.down.read iv.up.read j i HOB.out HOA.out HJB.out HIA.out)
                  have bHE : Hid (∃ b : Bool, D j i = b) := Lib.hid ⟨_, rfl⟩
                  obtain ⟨bb, bhb⟩ := bHE.out
                  have bHB := Lib.hid bhb
                  rw [bhb] at br2
                  clear bhb
                  cases bb with
                  | false =>
                    have bOK : Hid (D j i = true → mayAt B A D U j i = true) := Lib.hid (fun h => by rw [bHB.out] at h; cases h)
                    go_region
                    have bI2 := Lib.hid aI2.out.drew
                    clear bb2 bb3 br1 br2
                    generalize aw.drew = bw at *
                    go_wp2
                    go_roundw
                    case rel => exact ⟨j + 1, again, U, D, by go_num, rfl, by omega, bI2, Lib.hid (HS.out.next ⟨aOK.out, bOK.out⟩ (fun a b h => by omega))⟩
                    case measure => simp [intOf]; omega
                  | true =>
                    have bHC : Hid (∃ b : Bool, mayAt B A D U j i = b) := Lib.hid ⟨_, rfl⟩
                    obtain ⟨bc, bhc⟩ := bHC.out
                    have bHD := Lib.hid bhc
                    rw [bhc] at bHM
                    clear bhc
                    have bTL : Hid (t0.T < aw.heap.size) := Lib.hid aI2.out.tl
                    have bGL : Hid (t0.Gu < aw.heap.size ∧ t0.Gd < aw.heap.size ∧ t0.Ru i < aw.heap.size ∧ t0.Rd j < aw.heap.size) := Lib.hid ⟨aI2.out.up.read.gl, aI2.out.down.read.gl, aI2.out.up.read.rl i hil, aI2.out.down.read.rl j hjl⟩
                    go_region_held3 (fun w' => w'.cell? ⟨t0.T, 2, none⟩ = some (.slice (some ⟨t0.Gu, 0, none⟩) ln t0.cu) ∧ w'.cell? ⟨t0.T, 3, none⟩ = some (.slice (some ⟨t0.Gd, 0, none⟩) lm t0.cd) ∧ w'.cell? ⟨t0.Gd, j, none⟩ = some (.slice (some ⟨t0.Rd j, 0, none⟩) ln (t0.Cd j)) ∧ w'.cell? ⟨t0.Rd j, i, none⟩ = some (.bool true)) (first | exact ⟨bb2, bb3, br1, br2⟩ | exact ⟨keepB bC5.out bTL.out bb2, keepB bC5.out bTL.out bb3, keepB bC5.out bGL.out.2.1 br1, keepB bC5.out bGL.out.2.2.2 br2⟩)
                      ((go_at_call 63; (with_reducible refine (bHM.out _ (by exact (Below.refl _ _).drew)).mono ?_); rintro e bw ⟨rfl, hb7⟩; have bC5 := Lib.hid (show Below aw.heap.size aw bw from (Below.refl _ _).drew.trans hb7); clear hb7))
                    have bI2 := Lib.hid (aI2.out.on bC5.out)
                    clear bb2 bb3 br1 br2
                    cases bc with
                    | true =>
                      have bOK : Hid (D j i = true → mayAt B A D U j i = true) := Lib.hid (fun _ => bHD.out)
                      go_wp2
                      go_roundw
                      case rel => exact ⟨j + 1, again, U, D, by go_num, rfl, by omega, bI2, Lib.hid (HS.out.next ⟨aOK.out, bOK.out⟩ (fun a b h => by omega))⟩
                      case measure => simp [intOf]; omega
                    | false =>
                      have bxb2 : bw.cell? ⟨t0.T, 2, none⟩ = some (.slice (some ⟨t0.Gu, 0, none⟩) ln t0.cu) := bI2.out.b2
                      have bxb3 : bw.cell? ⟨t0.T, 3, none⟩ = some (.slice (some ⟨t0.Gd, 0, none⟩) lm t0.cd) := bI2.out.b3
                      have bxr1 : bw.cell? ⟨t0.Gd, j, none⟩ = some (.slice (some ⟨t0.Rd j, 0, none⟩) ln (t0.Cd j)) := bI2.out.down.read.row j hjl
                      have bxr2 : bw.cell? ⟨t0.Rd j, i, none⟩ = some (.bool (D j i)) := bI2.out.down.read.cell j i hjl hil
                      rw [bHB.out] at bxr2
                      have bxf : bw.frozen? ⟨t0.Rd j, i, none⟩ = false := bI2.out.free2 hjl
                      have bxl : t0.Rd j < bw.heap.size := Nat.lt_of_lt_of_le bGL.out.2.2.2 bC5.out.size
                      have bI3 := Lib.hid (bI2.out.set2 hjl hil)
                      go_wp2
                      go_roundw
                      case rel => exact ⟨j + 1, true, U, (upd D j i), by go_num, rfl, by omega, bI3, Lib.hid (HS.out.strike2 HIA.out HJB.out bHB.out)⟩
                      case measure => simp [intOf]; omega
                | false =>
                  have axb2 : aw.cell? ⟨t0.T, 2, none⟩ = some (.slice (some ⟨t0.Gu, 0, none⟩) ln t0.cu) := aI2.out.b2
                  have axb3 : aw.cell? ⟨t0.T, 3, none⟩ = some (.slice (some ⟨t0.Gd, 0, none⟩) lm t0.cd) := aI2.out.b3
                  have axr1 : aw.cell? ⟨t0.Gu, i, none⟩ = some (.slice (some ⟨t0.Ru i, 0, none⟩) lm (t0.Cu i)) := aI2.out.up.read.row i hil
                  have axr2 : aw.cell? ⟨t0.Ru i, j, none⟩ = some (.bool (U i j)) := aI2.out.up.read.cell i j hil hjl
                  rw [aHB.out] at axr2
                  have axf : aw.frozen? ⟨t0.Ru i, j, none⟩ = false := aI2.out.free1 hil
                  have axl : t0.Ru i < aw.heap.size := Nat.lt_of_lt_of_le aGL.out.2.2.1 aC5.out.size
                  have aI3 := Lib.hid (aI2.out.set1 hil hjl)
                  go_upto_region 14 with (fail)
                  clear axb2 axb3 axr1 axr2 axf axl
                  generalize aw.setCell ⟨t0.Ru i, j, none⟩ (.bool false) = as1 at *
                  have aST : Hid (∀ d', StN A B U0 D0 true (upd U i j) D d') := Lib.hid (fun d' => HS.out.strike1 HIA.out HJB.out aHB.out)
                  obtain ⟨U2, hU2⟩ : ∃ V, V = upd U i j := ⟨_, rfl⟩
                  rw [← hU2] at aI3 aST
                  clear hU2
                  have bb2 : as1.cell? ⟨t0.T, 2, none⟩ = some (.slice (some ⟨t0.Gu, 0, none⟩) ln t0.cu) := aI3.out.b2
                  have bb3 : as1.cell? ⟨t0.T, 3, none⟩ = some (.slice (some ⟨t0.Gd, 0, none⟩) lm t0.cd) := aI3.out.b3
                  have br1 : as1.cell? ⟨t0.Gd, j, none⟩ = some (.slice (some ⟨t0.Rd j, 0, none⟩) ln (t0.Cd j)) := aI3.out.down.read.row j hjl
                  have br2 : as1.cell? ⟨t0.Rd j, i, none⟩ = some (.bool (D j i)) := aI3.out.down.read.cell j i hjl hil
                  have bHM : Hid (∀ W', Below as1.heap.size as1 W' → Calls Tryz.prog 63 #[.slice lb lm ld, .slice la ln lc, .slice (some ⟨t0.Gd, 0, none⟩) lm t0.cd, .slice (some ⟨t0.Gu, 0, none⟩) ln t0.cu, .int .i64 (j : Int), .int .i64 (i : Int)] W' (BoolPost W' (mayAt B A D U2 j i))) := Lib.hid (fun W' hb => by
                    have iv := aI3.out.on hb
                    exact mayAt_any W' lb la lm ld ln lc B A (HBB.out.on (iv.below)) (HAA.out.on (iv.below)) hlm hln t0.Gd t0.cd t0.Gu t0.cu t0.Rd t0.Cd t0.Ru t0.Cu D U2 iv.down.read iv.up.read j i HOB.out HOA.out HJB.out HIA.out)
                  have bHE : Hid (∃ b : Bool, D j i = b) := Lib.hid ⟨_, rfl⟩
                  obtain ⟨bb, bhb⟩ := bHE.out
                  have bHB := Lib.hid bhb
                  rw [bhb] at br2
                  clear bhb
                  cases bb with
                  | false =>
                    have bOK : Hid (D j i = true → mayAt B A D U2 j i = true) := Lib.hid (fun h => by rw [bHB.out] at h; cases h)
                    go_region
                    have bI2 := Lib.hid aI3.out.drew
                    clear bb2 bb3 br1 br2
                    generalize as1.drew = bw at *
                    go_wp2
                    go_roundw
                    case rel => exact ⟨j + 1, true, U2, D, by go_num, rfl, by omega, bI2, Lib.hid (aST.out _)⟩
                    case measure => simp [intOf]; omega
                  | true =>
                    have bHC : Hid (∃ b : Bool, mayAt B A D U2 j i = b) := Lib.hid ⟨_, rfl⟩
                    obtain ⟨bc, bhc⟩ := bHC.out
                    have bHD := Lib.hid bhc
                    rw [bhc] at bHM
                    clear bhc
                    have bTL : Hid (t0.T < as1.heap.size) := Lib.hid aI3.out.tl
                    have bGL : Hid (t0.Gu < as1.heap.size ∧ t0.Gd < as1.heap.size ∧ t0.Ru i < as1.heap.size ∧ t0.Rd j < as1.heap.size) := Lib.hid ⟨aI3.out.up.read.gl, aI3.out.down.read.gl, aI3.out.up.read.rl i hil, aI3.out.down.read.rl j hjl⟩
                    go_region_held3 (fun w' => w'.cell? ⟨t0.T, 2, none⟩ = some (.slice (some ⟨t0.Gu, 0, none⟩) ln t0.cu) ∧ w'.cell? ⟨t0.T, 3, none⟩ = some (.slice (some ⟨t0.Gd, 0, none⟩) lm t0.cd) ∧ w'.cell? ⟨t0.Gd, j, none⟩ = some (.slice (some ⟨t0.Rd j, 0, none⟩) ln (t0.Cd j)) ∧ w'.cell? ⟨t0.Rd j, i, none⟩ = some (.bool true)) (first | exact ⟨bb2, bb3, br1, br2⟩ | exact ⟨keepB bC5.out bTL.out bb2, keepB bC5.out bTL.out bb3, keepB bC5.out bGL.out.2.1 br1, keepB bC5.out bGL.out.2.2.2 br2⟩)
                      ((go_at_call 63; (with_reducible refine (bHM.out _ (by exact (Below.refl _ _).drew)).mono ?_); rintro e bw ⟨rfl, hb7⟩; have bC5 := Lib.hid (show Below as1.heap.size as1 bw from (Below.refl _ _).drew.trans hb7); clear hb7))
                    have bI2 := Lib.hid (aI3.out.on bC5.out)
                    clear bb2 bb3 br1 br2
                    cases bc with
                    | true =>
                      have bOK : Hid (D j i = true → mayAt B A D U2 j i = true) := Lib.hid (fun _ => bHD.out)
                      go_wp2
                      go_roundw
                      case rel => exact ⟨j + 1, true, U2, D, by go_num, rfl, by omega, bI2, Lib.hid (aST.out _)⟩
                      case measure => simp [intOf]; omega
                    | false =>
                      have bxb2 : bw.cell? ⟨t0.T, 2, none⟩ = some (.slice (some ⟨t0.Gu, 0, none⟩) ln t0.cu) := bI2.out.b2
                      have bxb3 : bw.cell? ⟨t0.T, 3, none⟩ = some (.slice (some ⟨t0.Gd, 0, none⟩) lm t0.cd) := bI2.out.b3
                      have bxr1 : bw.cell? ⟨t0.Gd, j, none⟩ = some (.slice (some ⟨t0.Rd j, 0, none⟩) ln (t0.Cd j)) := bI2.out.down.read.row j hjl
                      have bxr2 : bw.cell? ⟨t0.Rd j, i, none⟩ = some (.bool (D j i)) := bI2.out.down.read.cell j i hjl hil
                      rw [bHB.out] at bxr2
                      have bxf : bw.frozen? ⟨t0.Rd j, i, none⟩ = false := bI2.out.free2 hjl
                      have bxl : t0.Rd j < bw.heap.size := Nat.lt_of_lt_of_le bGL.out.2.2.2 bC5.out.size
                      have bI3 := Lib.hid (bI2.out.set2 hjl hil)
                      go_wp2
                      go_roundw
                      case rel => exact ⟨j + 1, true, U2, (upd D j i), by go_num, rfl, by omega, bI3, Lib.hid ((aST.out (fun _ _ => True)).strike2 HIA.out HJB.out bHB.out)⟩
                      case measure => simp [intOf]; omega
            · have hjl2 : ¬ (j : Int) < lm := by omega
              obtain rfl : j = lm := by omega
              go_wp2
              go_roundw
              case rel => exact ⟨i + 1, again, U, D, by go_num, rfl, by omega, HJ, Lib.hid (HS.out.mono (fun a b _ hb h => by rw [← HLB.out] at hb; omega))⟩
              case measure => simp [intOf]; omega
        · have hil2 : ¬ (i : Int) < ln := by omega
          obtain rfl : i = ln := by omega
          cases again1 with
          | true =>
            have hlt : cntT A.length B.length U1 + cntT B.length A.length D1 < cntT A.length B.length U0 + cntT B.length A.length D0 := by
              rcases HS1.out with ⟨h, _⟩ | ⟨_, h⟩
              · cases h
              · exact h
            have HLT := Lib.hid hlt
            clear hlt
            go_wp2
            go_roundg (2 * (cntT A.length B.length U1 + cntT B.length A.length D1) + 1)
            case rel => exact ⟨true, U1, D1, rfl, Lib.hid rfl, HI1, Lib.hid (fun h => by cases h)⟩
            case measure => rw [HK.out]; have := HLT.out; simp only [Bool.toNat_true]; omega
          | false =>
            have HEQ : Hid (U1 = U0 ∧ D1 = D0 ∧ ∀ a b, a < A.length → b < B.length → Chk A B U0 D0 a b) := Lib.hid (by
              rcases HS1.out with ⟨_, h2, h3, h4⟩ | ⟨h, _⟩
              · exact ⟨h2, h3, fun a b ha hb => h4 a b ha hb (by rw [HLA.out]; exact ha)⟩
              · cases h)
            go_wp2
            go_roundg (2 * (cntT A.length B.length U1 + cntT B.length A.length D1))
            case rel => exact ⟨false, U1, D1, rfl, Lib.hid rfl, HI1, Lib.hid (fun _ => by rw [HEQ.out.1, HEQ.out.2.1]; exact HEQ.out.2.2)⟩
            case measure => rw [HK.out, HEQ.out.1, HEQ.out.2.1]; simp only [Bool.toNat_true]; omega
end Go.Proofs.YtoakfninndkgaaaGreatDoor
