/- KeepPlays: whatever the most, the hash and the acts, the law returns true; no condition. -/
import Derived.Test.YtebldhppnacdjabPd
import Derived.Test.YtebldhppnacdjabKzz
import Derived.Test.YtebldhppnacdjabLw
set_option linter.unusedVariables false
namespace Go.Proofs.Ytebldhppnacdjab.keepPlays
open Go.ChangeShapes Go.WideShapes Go.ChangeAt Go.RowKit
theorem put_some {mo : Int} {P : List (List Int × Int)} {l : List Int} {x y : Int} (h : aFind P l = some y) : aPut mo P l x = aDel P l ++ [(l, x)] := by
  unfold aPut; rw [h]
theorem put_room {mo : Int} {P : List (List Int × Int)} {l : List Int} {x : Int} (h : aFind P l = none) (hr : ¬ mo ≤ P.length) : aPut mo P l x = P ++ [(l, x)] := by
  unfold aPut; rw [h]; simp only; rw [if_neg hr]
theorem put_full {mo : Int} {P : List (List Int × Int)} {l : List Int} {x : Int} (h : aFind P l = none) (hr : mo ≤ P.length) : aPut mo P l x = P.tail ++ [(l, x)] := by
  unfold aPut; rw [h]; simp only; rw [if_pos hr]
set_option maxRecDepth 20000 in
set_option maxHeartbeats 8000000 in
theorem walk_acts (N : Nat) (H : List Int → Int) (PUT : Hid (PutC N H)) (GETS : Hid (GetS N H)) (GETN : Hid (GetN N H)) (w : World) (mo r8 : Int) (rn : Nat) (fv : Value) (hr8 : r8.tmod 3 = (rn : Int)) (hrn : rn < 3)
    (hfv : ∀ w1 : World, (w1.alloc (.cells #[.nilFunc, .func (.func 9) #[] #[], .func (.func 14) #[] #[]] 39)).cell? ⟨w1.heap.size, rn, none⟩ = some fv)
    (NEW : Hid (∀ w1 : World, Calls Try.prog 8 #[.int .i64 mo, fv] w1 fun e w' => e = .returned (.tuple #[.pointer (some ⟨w1.heap.size + 1, 0, none⟩), .int .i64 0]) ∧ Laid w1 w' mo N))
    (b off n c : Nat) (A : List ActI) (hmo : 1 ≤ mo ∧ mo ≤ 65536) (hn : n ≤ 80) (hA : A.length = n) (hb : b < w.heap.size) (hacts : Hid (∀ i t, A[i]? = some t → ActIn w b off i t)) :
    Calls Try.prog 5 #[.int .i64 mo, .int .u8 r8, .slice (some ⟨b, off, none⟩) n c] w fun e w' => e = .returned (.bool true) ∧ Below w.heap.size w w' := by
  have hm1 : ¬ mo < 1 := by omega
  have hm2 : ¬ 65536 < mo := by omega
  have HA := Lib.hid hA
  have hne : ¬ (80 : Int) < n := by omega
  have hrw : IntKind.u8.wrap (rn : Int) = (rn : Int) := by rw [IntKind.wrap_u8]; omega
  have hr3 : (rn : Int) < 3 := by omega
  clear hA
  go_enter Try.func5, Try.ntmps5
  go_wp2_with (first
    | (go_at_call 7; ((with_reducible refine (lives_any _).mono ?_); rintro e w1 ⟨rfl, hb1⟩))
    | (go_at_call 8; ((with_reducible refine (NEW.out _).mono ?_); rintro e w3 ⟨rfl, hl⟩)))
  have hb2 : Below w.heap.size w (w1.alloc (.cells #[.nilFunc, .func (.func 9) #[] #[], .func (.func 14) #[] #[]] 39)) := hb1.alloc hb1.size _
  have HT := Lib.hid (play_start H hl hb2)
  rw [World.size_alloc] at HT
  generalize w3.alloc (.cells #[.slice none 0 0] 41) = w4 at *
  generalize w3.heap.size = Mb at *
  generalize w1.heap.size + 1 + 1 = K at *
  clear hl hb1 hb2 hr8 hfv hrw hr3 hrn NEW
  go_loopw [11, 12, 61] (fun s11 s12 i wr => ∃ (k s : Nat) (P : List (List Int × Int)) (v : Value) (f m : Int), k ≤ n ∧ s11 = .int .i64 f ∧ s12 = .int .i64 m ∧ i = .int .i64 (k : Int) ∧ s ≤ 3 * k ∧ P.length ≤ 2 * k ∧ (0 ≤ f ∧ f ≤ k) ∧ (0 ≤ m ∧ m ≤ k) ∧ Hid (Play w wr K mo N H s f m P P Mb v [])) (fun _ _ i _ => n - (intOf i).toNat)
  case atStart => exact ⟨0, 0, [], _, 0, 0, by omega, rfl, rfl, rfl, by omega, by simp, by omega, by omega, HT⟩
  case round =>
    clear HT
    obtain ⟨k, s, P, v, f, m, hk, rfl, rfl, rfl, hs, hP, hf, hm, HT⟩ := hrel
    by_cases hlt : k < n
    · obtain ⟨t, ht⟩ : ∃ t, A[k]? = some t := ⟨A[k]'(by rw [HA.out]; exact hlt), List.getElem?_eq_getElem _⟩
      obtain ⟨c0, c1, c2, hrow⟩ := hacts.out k t ht
      clear ht
      obtain ⟨kd, nn, ka, kl, kc, kb⟩ := t
      simp only at c0 c1 c2 hrow
      have hbe := HT.out.be
      have d0 : wr.cell? ⟨b, off + k * 3, none⟩ = some (.int .i64 kd) := by rw [← c0]; exact hbe.cell (p := ⟨b, off + k * 3, none⟩) hb
      have d1 : wr.cell? ⟨b, off + k * 3 + 1, none⟩ = some (.int .i64 nn) := by rw [← c1]; exact hbe.cell (p := ⟨b, off + k * 3 + 1, none⟩) hb
      have d2 : wr.cell? ⟨b, off + k * 3 + 2, none⟩ = some (.slice ka kl kc) := by rw [← c2]; exact hbe.cell (p := ⟨b, off + k * 3 + 2, none⟩) hb
      clear c0 c1 c2
      by_cases hkl : kl ≤ 50
      · obtain ⟨hr, hbyt, hlen⟩ := hrow hkl
        obtain ⟨ao, vc, rfl, hpc⟩ := HT.out.form
        have HR := Lib.hid hr
        have HB := Lib.hid hbyt
        have hkl2 : ¬ (50 : Int) < kl := by omega
        have hs9 : s ≤ 9000 := by omega
        have hP9 : P.length ≤ 9000 := by omega
        have HP := Lib.hid hP
        have HS := Lib.hid hs
        have HT0 := Lib.hid (HT.out.alloc (.cells #[.int .i64 kd, .int .i64 nn, .slice ka kl kc] 31))
        have hcv := conv_any (HR.out.below (HT0.out.be))
        have HRF := Lib.hid (fun (w' : World) (hb' : Below w.heap.size w w') => HR.out.below hb')
        obtain ⟨X, hX⟩ : ∃ X, X = wr.heap.size := ⟨_, rfl⟩
        rw [← hX] at HT0
        go_upto_region 15 with (fail)
        generalize wr.alloc (.cells #[.int .i64 kd, .int .i64 nn, .slice ka kl kc] 31) = w5 at *
        obtain ⟨m0, mf⟩ := HT0.out.m0
        have hxc := (HT0.out.gd (List.mem_cons_self ..))
        have x0 : w5.cell? ⟨X, 0, none⟩ = some (.int .i64 kd) := by rw [cell_of_row w5 X 0 _ 31 _ hxc]; rfl
        have x1 : w5.cell? ⟨X, 1, none⟩ = some (.int .i64 nn) := by rw [cell_of_row w5 X 1 _ 31 _ hxc]; rfl
        have x2 : w5.cell? ⟨X, 2, none⟩ = some (.slice ka kl kc) := by rw [cell_of_row w5 X 2 _ 31 _ hxc]; rfl
        rw [← hX]
        obtain ⟨st, hst⟩ : ∃ st, st = strOfNums kb := ⟨_, rfl⟩
        have HST := Lib.hid hst
        rw [← hst] at hcv
        clear hrow hr hbyt hs hP HT hX d0 d1 d2 hbe hkl2 hxc hst
        by_cases hput : kd = 0 ∨ kd = 1
        · rcases hput with h0 | h0
          · have e0 : (kd == 0) = true := by simp [h0]
            clear h0
            cases hx : aFind P kb with
            | some y =>
              have HX := Lib.hid hx
              clear hx
              obtain ⟨PN, hPN0⟩ : ∃ PN, PN = aDel P kb ++ [(kb, nn)] := ⟨_, rfl⟩
              have hPN := Lib.hid hPN0
              have hpe : Hid (aPut mo P kb nn = PN) := Lib.hid (by rw [hPN.out]; exact put_some HX.out)
              have hdl := aDel_len P kb
              have hpl : Hid (PN.length ≤ P.length + 1) := Lib.hid (by rw [hPN.out, List.length_append, List.length_singleton]; omega)
              clear hPN0
              have HTK : Hid (Calls Try.prog 15 #[.string st, .pointer (some ⟨Mb, 0, none⟩)] w5 fun e w' => e = .returned (.tuple #[.int .i64 y, .bool true]) ∧ ∃ g n c, Play w w' K mo N H s f m P (aDel P kb) Mb (.slice (some g) n c) [(X, .cells #[.int .i64 kd, .int .i64 nn, .slice ka kl kc] 31)]) := Lib.hid (by rw [HST.out]; exact play_takeS HT0.out kb y HB.out (by omega) HX.out)
              go_upto_region 24 with (go_at_call 15; ((with_reducible refine HTK.out.mono ?_); rintro e w6 ⟨rfl, ga, gn, gc, hT6⟩; have HT6 := Lib.hid hT6; clear hT6))
              clear m0 mf x0 x1 x2 hcv
              obtain ⟨m6, f6⟩ := HT6.out.m0
              have y1 : w6.cell? ⟨X, 1, none⟩ = some (.int .i64 nn) := by rw [cell_of_row w6 X 1 _ 31 _ (HT6.out.gd (List.mem_cons_self ..))]; rfl
              have HT6a : Hid (Play w (w6.alloc (.cells #[.string st, .int .i64 nn] 43)) K mo N H s f m P (aDel P kb) Mb (.slice (some ga) gn gc) ((w6.heap.size, .cells #[.string (strOfNums (kb, nn).1), .int .i64 (kb, nn).2] 43) :: [(X, .cells #[.int .i64 kd, .int .i64 nn, .slice ka kl kc] 31)])) := Lib.hid (by rw [HST.out]; exact HT6.out.alloc _)
              have hPM : Hid ((aDel P kb).length ≤ 100000) := Lib.hid (by omega)
              go_upto_region 25 with (at_builtin; refine wpList_play_more rfl _ _ rfl HT6a.out hPM.out rfl rfl ?_; intro a7 n7 c7 w7 m7 f7 HT8)
              rw [← hPN.out] at HT8
              have hc7 := HT8.out.count
              subst hc7
              generalize w7.setCell ⟨Mb, 0, none⟩ (.slice (some a7) PN.length c7) = w8 at *
              clear m7 f7 HT6a
              have hcv2 := Lib.run_convert_string_bytes (P := Try.prog) w8 9 29 5 st Try.underlying9 Try.underlying29 Try.underlying5
              have HTb := Lib.hid (HT8.out.bytes st)
              have hstl : st.size = kb.length := by rw [HST.out, strOfNums_size]
              rw [hstl] at hcv2
              have HRO : Hid (∀ cc, kb.length ≤ cc → Row (Lib.bytesWorld w8 5 st) (.slice (some ⟨w8.heap.size, 0, none⟩) kb.length cc) kb) := Lib.hid fun cc hcc => by rw [HST.out]; exact bytes_row w8 kb HB.out (by omega) cc hcc
              have HCB : Hid (∀ j, j < kb.length → ∃ z, (Lib.bytesCells w8 5 st)[j]? = some (.int .u8 z)) := Lib.hid fun j hj => bytes_at w8 st j (by rw [hstl]; exact hj)
              have hgc := grownCap_ge w8 kb.length 0 5
              generalize grownCap w8 kb.length 0 5 = cc at *
              go_upto_region 26 with (fail)
              have HRC := Lib.hid (HRO.out cc hgc)
              generalize Lib.bytesWorld w8 5 st = w9 at *
              generalize Lib.bytesCells w8 5 st = cs at *
              have hBX : w8.heap.size ≠ X := by have := (Array.getElem?_eq_some_iff.1 (HT8.out.gd (List.mem_cons_self ..))).1; exact fun e => by rw [e] at this; exact Nat.lt_irrefl _ this
              generalize w8.heap.size = B at *
              obtain ⟨csz, hcsz⟩ : ∃ csz, csz = cs.size := ⟨_, rfl⟩
              rw [← hcsz] at HTb
              have HCZ := Lib.hid hcsz
              have z1 : w9.cell? ⟨X, 1, none⟩ = some (.int .i64 nn) := by
                have hx := HTb.out.gd (List.mem_cons_of_mem _ (List.mem_cons_self ..))
                rw [cell_of_row w9 X 1 _ 31 _ hx]; rfl
              have HKB : Hid (∀ g, kblk (.slice (some ⟨B, 0, none⟩) kb.length cc) kb = some g → g < w.heap.size ∨ ∃ o, (g, o) ∈ [(B, Obj.cells cs 5 (csz, csz + 1)), (X, .cells #[.int .i64 kd, .int .i64 nn, .slice ka kl kc] 31)]) := Lib.hid (fun g hg => Or.inr ⟨_, by have e : some B = some g := kblk_own hg; cases e; exact List.mem_cons_self ..⟩)
              clear hcv2 HRO hcsz hstl y1 m6 f6
              go_wp2_with (go_at_call 10; ((with_reducible refine (play_put PUT.out HTb.out _ kb nn HRC.out HB.out (by omega) HKB.out (by omega) hmo.1 (by omega)).mono ?_); rintro e w10 ⟨rfl, hT10⟩; rw [hpe.out] at hT10; have HT10 := Lib.hid hT10; clear hT10))
              clear z1
              go_loopw [112] (fun i wz => ∃ (j : Nat) (cz : Array Value), j ≤ kb.length ∧ i = .int .i64 (j : Int) ∧ Hid (cz.size = csz) ∧ Hid (∀ j, j < kb.length → ∃ z, cz[j]? = some (.int .u8 z)) ∧ Hid (Play w wz K mo N H (s + 1) f m PN PN Mb (.slice (some a7) PN.length c7) [(B, .cells cz 5 (csz, csz + 1)), (X, .cells #[.int .i64 kd, .int .i64 nn, .slice ka kl kc] 31)])) (fun i _ => kb.length - (intOf i).toNat)
              case atStart => exact ⟨0, cs, by omega, rfl, Lib.hid HCZ.out.symm, HCB, HT10⟩
              case round =>
                clear HT10 HCB HCZ
                obtain ⟨j, cz, hj, rfl, HCZ, HCB, HT10⟩ := hrel
                by_cases hjl : j < kb.length
                · obtain ⟨z, hz⟩ := HCB.out j hjl
                  have hbz := HT10.out.gd (List.mem_cons_self ..)
                  have b0 : wr.cell? ⟨B, j, none⟩ = some (.int .u8 z) := (cell_of_row_fr hbz).trans hz
                  have bf : wr.frozen? ⟨B, j, none⟩ = false := frozen_of_row_fr hbz (by rw [← HCZ.out]; exact (Array.getElem?_eq_some_iff.1 hz).1)
                  have hjl2 : (j : Int) < kb.length := by omega
                  have HST2 := fun u => Lib.hid (HT10.out.store (fun p hp => by simp only [List.mem_cons, List.not_mem_nil, or_false] at hp; rw [hp]; exact hBX.symm) j u)
                  have HZ := Lib.hid hz
                  clear hbz hz
                  go_wp2
                  go_roundw
                  case rel =>
                    exact ⟨j + 1, _, by omega, by go_num, Lib.hid (by rw [Array.size_setIfInBounds]; exact HCZ.out), Lib.hid (fun i hi => by
                      by_cases he : j = i
                      · subst he
                        have hlt := (Array.getElem?_eq_some_iff.1 HZ.out).1
                        exact ⟨_, by rw [Array.getElem?_setIfInBounds_self_of_lt hlt]⟩
                      · obtain ⟨z', hz'⟩ := HCB.out i hi
                        exact ⟨z', by rw [Array.getElem?_setIfInBounds_ne he]; exact hz'⟩), HST2 _⟩
                  case measure => simp [intOf]; omega
                · have hjl2 : ¬ (j : Int) < kb.length := by omega
                  go_upto_region 44 with (go_at_call 17; ((with_reducible refine (play_hits HT10.out).mono ?_); rintro e w11 ⟨rfl, hT11⟩; have HT11 := Lib.hid hT11; clear hT11))
                  obtain ⟨n0, nf⟩ := HT11.out.m0
                  have HT12 := Lib.hid (HT11.out.same (w' := w11.drew) rfl (Below.refl _ _).drew)
                  clear hjl2 hjl
                  go_region_held3 (fun w' => w'.cell? ⟨Mb, 0, none⟩ = some (.slice (some a7) PN.length c7)) (first | exact n0)
                    (first
                      | (go_at_call 12; (with_reducible refine (play_len HT12.out).mono ?_); rintro e w13 ⟨rfl, rfl⟩)
                      | fail)
                  all_goals
                    go_wp2
                    exact ⟨⟨k + 1, s + 1, PN, _, f, m, by omega, rfl, rfl, by go_num, by have := HS.out; omega, by have := HP.out; have := hpl.out; omega, by omega, by omega, Lib.hid (HT12.out.less (Nat.le_refl _) (fun p hp => by simp at hp))⟩, by simp [intOf]; omega⟩
            | none =>
              have HX := Lib.hid hx
              clear hx
              obtain ⟨pl, hpl0⟩ : ∃ pl, pl = P.length := ⟨_, rfl⟩
              have HPL := Lib.hid hpl0
              have hP10 := hP9
              rw [← hpl0] at hpc m0 hP9 HT0
              by_cases hroom : mo ≤ (pl : Int)
              · obtain ⟨PN, hPN0⟩ : ∃ PN, PN = P.tail ++ [(kb, nn)] := ⟨_, rfl⟩
                have hPN := Lib.hid hPN0
                have hpe : Hid (aPut mo P kb nn = PN) := Lib.hid (by rw [hPN.out]; exact put_full HX.out (by rw [← HPL.out]; exact hroom))
                have hpl : Hid (PN.length ≤ P.length + 1) := Lib.hid (by rw [hPN.out, List.length_append, List.length_singleton, List.length_tail]; omega)
                have hPt : P.tail.length ≤ 100000 := by rw [List.length_tail, ← HPL.out]; omega
                clear hPN0 hpl0
                have HTK : Hid (Calls Try.prog 15 #[.string st, .pointer (some ⟨Mb, 0, none⟩)] w5 fun e w' => e = .returned (.tuple #[.int .i64 0, .bool false]) ∧ Play w w' K mo N H s f m P P Mb (.slice ao pl vc) [(X, .cells #[.int .i64 kd, .int .i64 nn, .slice ka kl kc] 31)]) := Lib.hid (by rw [HST.out]; exact play_takeN HT0.out kb HB.out (by rw [← HPL.out]; omega) HX.out)
                go_upto_region 22 with (go_at_call 15; ((with_reducible refine HTK.out.mono ?_); rintro e w6a ⟨rfl, hT6⟩; have HT6b := Lib.hid hT6; clear hT6))
                clear m0 mf x0 x1 x2 hcv HT0
                obtain ⟨m5, f5⟩ := HT6b.out.m0
                have hp1 : (1 : Int) ≤ pl := by omega
                cases ao with
                | none =>
                  exfalso
                  have := HT6b.out.nil_len
                  omega
                | some g0 =>
                  obtain ⟨gb, goff, rfl, -, hpc2, hT6⟩ := HT6b.out.tail (by omega)
                  have HT6 := Lib.hid hT6
                  clear hT6 HT6b
                  have hpc3 : (pl : Int) ≤ vc := by omega
                  have hpc4 : (1 : Int) ≤ vc := by omega
                  by_cases hvc : vc = 1
                  · obtain rfl : pl = 1 := by omega
                    subst hvc
                    rw [if_pos rfl] at HT6
                    go_upto_region 24 with (fail)
                    generalize w6a.setCell ⟨Mb, 0, none⟩ (.slice (some ⟨gb, goff, none⟩) (1 - 1) (1 - 1)) = w6 at *
                    clear m5 f5
                    obtain ⟨m6, f6⟩ := HT6.out.m0
                    have y1 : w6.cell? ⟨X, 1, none⟩ = some (.int .i64 nn) := by rw [cell_of_row w6 X 1 _ 31 _ (HT6.out.gd (List.mem_cons_self ..))]; rfl
                    have HT6a : Hid (Play w (w6.alloc (.cells #[.string st, .int .i64 nn] 43)) K mo N H s f m P (P.tail) Mb (.slice (some ⟨gb, goff, none⟩) (1 - 1) (1 - 1)) ((w6.heap.size, .cells #[.string (strOfNums (kb, nn).1), .int .i64 (kb, nn).2] 43) :: [(X, .cells #[.int .i64 kd, .int .i64 nn, .slice ka kl kc] 31)])) := Lib.hid (by rw [HST.out]; exact HT6.out.alloc _)
                    have hPM : Hid ((P.tail).length ≤ 100000) := Lib.hid (by omega)
                    go_upto_region 25 with (at_builtin; refine wpList_play_more rfl _ _ rfl HT6a.out hPM.out rfl rfl ?_; intro a7 n7 c7 w7 m7 f7 HT8)
                    rw [← hPN.out] at HT8
                    have hc7 := HT8.out.count
                    subst hc7
                    generalize w7.setCell ⟨Mb, 0, none⟩ (.slice (some a7) PN.length c7) = w8 at *
                    clear m7 f7 HT6a
                    have hcv2 := Lib.run_convert_string_bytes (P := Try.prog) w8 9 29 5 st Try.underlying9 Try.underlying29 Try.underlying5
                    have HTb := Lib.hid (HT8.out.bytes st)
                    have hstl : st.size = kb.length := by rw [HST.out, strOfNums_size]
                    rw [hstl] at hcv2
                    have HRO : Hid (∀ cc, kb.length ≤ cc → Row (Lib.bytesWorld w8 5 st) (.slice (some ⟨w8.heap.size, 0, none⟩) kb.length cc) kb) := Lib.hid fun cc hcc => by rw [HST.out]; exact bytes_row w8 kb HB.out (by omega) cc hcc
                    have HCB : Hid (∀ j, j < kb.length → ∃ z, (Lib.bytesCells w8 5 st)[j]? = some (.int .u8 z)) := Lib.hid fun j hj => bytes_at w8 st j (by rw [hstl]; exact hj)
                    have hgc := grownCap_ge w8 kb.length 0 5
                    generalize grownCap w8 kb.length 0 5 = cc at *
                    go_upto_region 26 with (fail)
                    have HRC := Lib.hid (HRO.out cc hgc)
                    generalize Lib.bytesWorld w8 5 st = w9 at *
                    generalize Lib.bytesCells w8 5 st = cs at *
                    have hBX : w8.heap.size ≠ X := by have := (Array.getElem?_eq_some_iff.1 (HT8.out.gd (List.mem_cons_self ..))).1; exact fun e => by rw [e] at this; exact Nat.lt_irrefl _ this
                    generalize w8.heap.size = B at *
                    obtain ⟨csz, hcsz⟩ : ∃ csz, csz = cs.size := ⟨_, rfl⟩
                    rw [← hcsz] at HTb
                    have HCZ := Lib.hid hcsz
                    have z1 : w9.cell? ⟨X, 1, none⟩ = some (.int .i64 nn) := by
                      have hx := HTb.out.gd (List.mem_cons_of_mem _ (List.mem_cons_self ..))
                      rw [cell_of_row w9 X 1 _ 31 _ hx]; rfl
                    have HKB : Hid (∀ g, kblk (.slice (some ⟨B, 0, none⟩) kb.length cc) kb = some g → g < w.heap.size ∨ ∃ o, (g, o) ∈ [(B, Obj.cells cs 5 (csz, csz + 1)), (X, .cells #[.int .i64 kd, .int .i64 nn, .slice ka kl kc] 31)]) := Lib.hid (fun g hg => Or.inr ⟨_, by have e : some B = some g := kblk_own hg; cases e; exact List.mem_cons_self ..⟩)
                    clear hcv2 HRO hcsz hstl y1 m6 f6
                    go_wp2_with (go_at_call 10; ((with_reducible refine (play_put PUT.out HTb.out _ kb nn HRC.out HB.out (by omega) HKB.out (by omega) hmo.1 (by omega)).mono ?_); rintro e w10 ⟨rfl, hT10⟩; rw [hpe.out] at hT10; have HT10 := Lib.hid hT10; clear hT10))
                    clear z1
                    go_loopw [112] (fun i wz => ∃ (j : Nat) (cz : Array Value), j ≤ kb.length ∧ i = .int .i64 (j : Int) ∧ Hid (cz.size = csz) ∧ Hid (∀ j, j < kb.length → ∃ z, cz[j]? = some (.int .u8 z)) ∧ Hid (Play w wz K mo N H (s + 1) f m PN PN Mb (.slice (some a7) PN.length c7) [(B, .cells cz 5 (csz, csz + 1)), (X, .cells #[.int .i64 kd, .int .i64 nn, .slice ka kl kc] 31)])) (fun i _ => kb.length - (intOf i).toNat)
                    case atStart => exact ⟨0, cs, by omega, rfl, Lib.hid HCZ.out.symm, HCB, HT10⟩
                    case round =>
                      clear HT10 HCB HCZ
                      obtain ⟨j, cz, hj, rfl, HCZ, HCB, HT10⟩ := hrel
                      by_cases hjl : j < kb.length
                      · obtain ⟨z, hz⟩ := HCB.out j hjl
                        have hbz := HT10.out.gd (List.mem_cons_self ..)
                        have b0 : wr.cell? ⟨B, j, none⟩ = some (.int .u8 z) := (cell_of_row_fr hbz).trans hz
                        have bf : wr.frozen? ⟨B, j, none⟩ = false := frozen_of_row_fr hbz (by rw [← HCZ.out]; exact (Array.getElem?_eq_some_iff.1 hz).1)
                        have hjl2 : (j : Int) < kb.length := by omega
                        have HST2 := fun u => Lib.hid (HT10.out.store (fun p hp => by simp only [List.mem_cons, List.not_mem_nil, or_false] at hp; rw [hp]; exact hBX.symm) j u)
                        have HZ := Lib.hid hz
                        clear hbz hz
                        go_wp2
                        go_roundw
                        case rel =>
                          exact ⟨j + 1, _, by omega, by go_num, Lib.hid (by rw [Array.size_setIfInBounds]; exact HCZ.out), Lib.hid (fun i hi => by
                            by_cases he : j = i
                            · subst he
                              have hlt := (Array.getElem?_eq_some_iff.1 HZ.out).1
                              exact ⟨_, by rw [Array.getElem?_setIfInBounds_self_of_lt hlt]⟩
                            · obtain ⟨z', hz'⟩ := HCB.out i hi
                              exact ⟨z', by rw [Array.getElem?_setIfInBounds_ne he]; exact hz'⟩), HST2 _⟩
                        case measure => simp [intOf]; omega
                      · have hjl2 : ¬ (j : Int) < kb.length := by omega
                        go_upto_region 44 with (go_at_call 17; ((with_reducible refine (play_hits HT10.out).mono ?_); rintro e w11 ⟨rfl, hT11⟩; have HT11 := Lib.hid hT11; clear hT11))
                        obtain ⟨n0, nf⟩ := HT11.out.m0
                        have HT12 := Lib.hid (HT11.out.same (w' := w11.drew) rfl (Below.refl _ _).drew)
                        clear hjl2 hjl
                        go_region_held3 (fun w' => w'.cell? ⟨Mb, 0, none⟩ = some (.slice (some a7) PN.length c7)) (first | exact n0)
                          (first
                            | (go_at_call 12; (with_reducible refine (play_len HT12.out).mono ?_); rintro e w13 ⟨rfl, rfl⟩)
                            | fail)
                        all_goals
                          go_wp2
                          exact ⟨⟨k + 1, s + 1, PN, _, f, m, by omega, rfl, rfl, by go_num, by have := HS.out; omega, by have := HP.out; have := hpl.out; omega, by omega, by omega, Lib.hid (HT12.out.less (Nat.le_refl _) (fun p hp => by simp at hp))⟩, by simp [intOf]; omega⟩
                  · rw [if_neg hvc] at HT6
                    go_upto_region 24 with (fail)
                    generalize w6a.setCell ⟨Mb, 0, none⟩ (.slice (some ⟨gb, goff + 2, none⟩) (pl - 1) (vc - 1)) = w6 at *
                    clear m5 f5
                    obtain ⟨m6, f6⟩ := HT6.out.m0
                    have y1 : w6.cell? ⟨X, 1, none⟩ = some (.int .i64 nn) := by rw [cell_of_row w6 X 1 _ 31 _ (HT6.out.gd (List.mem_cons_self ..))]; rfl
                    have HT6a : Hid (Play w (w6.alloc (.cells #[.string st, .int .i64 nn] 43)) K mo N H s f m P (P.tail) Mb (.slice (some ⟨gb, goff + 2, none⟩) (pl - 1) (vc - 1)) ((w6.heap.size, .cells #[.string (strOfNums (kb, nn).1), .int .i64 (kb, nn).2] 43) :: [(X, .cells #[.int .i64 kd, .int .i64 nn, .slice ka kl kc] 31)])) := Lib.hid (by rw [HST.out]; exact HT6.out.alloc _)
                    have hPM : Hid ((P.tail).length ≤ 100000) := Lib.hid (by omega)
                    go_upto_region 25 with (at_builtin; refine wpList_play_more rfl _ _ rfl HT6a.out hPM.out rfl rfl ?_; intro a7 n7 c7 w7 m7 f7 HT8)
                    rw [← hPN.out] at HT8
                    have hc7 := HT8.out.count
                    subst hc7
                    generalize w7.setCell ⟨Mb, 0, none⟩ (.slice (some a7) PN.length c7) = w8 at *
                    clear m7 f7 HT6a
                    have hcv2 := Lib.run_convert_string_bytes (P := Try.prog) w8 9 29 5 st Try.underlying9 Try.underlying29 Try.underlying5
                    have HTb := Lib.hid (HT8.out.bytes st)
                    have hstl : st.size = kb.length := by rw [HST.out, strOfNums_size]
                    rw [hstl] at hcv2
                    have HRO : Hid (∀ cc, kb.length ≤ cc → Row (Lib.bytesWorld w8 5 st) (.slice (some ⟨w8.heap.size, 0, none⟩) kb.length cc) kb) := Lib.hid fun cc hcc => by rw [HST.out]; exact bytes_row w8 kb HB.out (by omega) cc hcc
                    have HCB : Hid (∀ j, j < kb.length → ∃ z, (Lib.bytesCells w8 5 st)[j]? = some (.int .u8 z)) := Lib.hid fun j hj => bytes_at w8 st j (by rw [hstl]; exact hj)
                    have hgc := grownCap_ge w8 kb.length 0 5
                    generalize grownCap w8 kb.length 0 5 = cc at *
                    go_upto_region 26 with (fail)
                    have HRC := Lib.hid (HRO.out cc hgc)
                    generalize Lib.bytesWorld w8 5 st = w9 at *
                    generalize Lib.bytesCells w8 5 st = cs at *
                    have hBX : w8.heap.size ≠ X := by have := (Array.getElem?_eq_some_iff.1 (HT8.out.gd (List.mem_cons_self ..))).1; exact fun e => by rw [e] at this; exact Nat.lt_irrefl _ this
                    generalize w8.heap.size = B at *
                    obtain ⟨csz, hcsz⟩ : ∃ csz, csz = cs.size := ⟨_, rfl⟩
                    rw [← hcsz] at HTb
                    have HCZ := Lib.hid hcsz
                    have z1 : w9.cell? ⟨X, 1, none⟩ = some (.int .i64 nn) := by
                      have hx := HTb.out.gd (List.mem_cons_of_mem _ (List.mem_cons_self ..))
                      rw [cell_of_row w9 X 1 _ 31 _ hx]; rfl
                    have HKB : Hid (∀ g, kblk (.slice (some ⟨B, 0, none⟩) kb.length cc) kb = some g → g < w.heap.size ∨ ∃ o, (g, o) ∈ [(B, Obj.cells cs 5 (csz, csz + 1)), (X, .cells #[.int .i64 kd, .int .i64 nn, .slice ka kl kc] 31)]) := Lib.hid (fun g hg => Or.inr ⟨_, by have e : some B = some g := kblk_own hg; cases e; exact List.mem_cons_self ..⟩)
                    clear hcv2 HRO hcsz hstl y1 m6 f6
                    go_wp2_with (go_at_call 10; ((with_reducible refine (play_put PUT.out HTb.out _ kb nn HRC.out HB.out (by omega) HKB.out (by omega) hmo.1 (by omega)).mono ?_); rintro e w10 ⟨rfl, hT10⟩; rw [hpe.out] at hT10; have HT10 := Lib.hid hT10; clear hT10))
                    clear z1
                    go_loopw [112] (fun i wz => ∃ (j : Nat) (cz : Array Value), j ≤ kb.length ∧ i = .int .i64 (j : Int) ∧ Hid (cz.size = csz) ∧ Hid (∀ j, j < kb.length → ∃ z, cz[j]? = some (.int .u8 z)) ∧ Hid (Play w wz K mo N H (s + 1) f m PN PN Mb (.slice (some a7) PN.length c7) [(B, .cells cz 5 (csz, csz + 1)), (X, .cells #[.int .i64 kd, .int .i64 nn, .slice ka kl kc] 31)])) (fun i _ => kb.length - (intOf i).toNat)
                    case atStart => exact ⟨0, cs, by omega, rfl, Lib.hid HCZ.out.symm, HCB, HT10⟩
                    case round =>
                      clear HT10 HCB HCZ
                      obtain ⟨j, cz, hj, rfl, HCZ, HCB, HT10⟩ := hrel
                      by_cases hjl : j < kb.length
                      · obtain ⟨z, hz⟩ := HCB.out j hjl
                        have hbz := HT10.out.gd (List.mem_cons_self ..)
                        have b0 : wr.cell? ⟨B, j, none⟩ = some (.int .u8 z) := (cell_of_row_fr hbz).trans hz
                        have bf : wr.frozen? ⟨B, j, none⟩ = false := frozen_of_row_fr hbz (by rw [← HCZ.out]; exact (Array.getElem?_eq_some_iff.1 hz).1)
                        have hjl2 : (j : Int) < kb.length := by omega
                        have HST2 := fun u => Lib.hid (HT10.out.store (fun p hp => by simp only [List.mem_cons, List.not_mem_nil, or_false] at hp; rw [hp]; exact hBX.symm) j u)
                        have HZ := Lib.hid hz
                        clear hbz hz
                        go_wp2
                        go_roundw
                        case rel =>
                          exact ⟨j + 1, _, by omega, by go_num, Lib.hid (by rw [Array.size_setIfInBounds]; exact HCZ.out), Lib.hid (fun i hi => by
                            by_cases he : j = i
                            · subst he
                              have hlt := (Array.getElem?_eq_some_iff.1 HZ.out).1
                              exact ⟨_, by rw [Array.getElem?_setIfInBounds_self_of_lt hlt]⟩
                            · obtain ⟨z', hz'⟩ := HCB.out i hi
                              exact ⟨z', by rw [Array.getElem?_setIfInBounds_ne he]; exact hz'⟩), HST2 _⟩
                        case measure => simp [intOf]; omega
                      · have hjl2 : ¬ (j : Int) < kb.length := by omega
                        go_upto_region 44 with (go_at_call 17; ((with_reducible refine (play_hits HT10.out).mono ?_); rintro e w11 ⟨rfl, hT11⟩; have HT11 := Lib.hid hT11; clear hT11))
                        obtain ⟨n0, nf⟩ := HT11.out.m0
                        have HT12 := Lib.hid (HT11.out.same (w' := w11.drew) rfl (Below.refl _ _).drew)
                        clear hjl2 hjl
                        go_region_held3 (fun w' => w'.cell? ⟨Mb, 0, none⟩ = some (.slice (some a7) PN.length c7)) (first | exact n0)
                          (first
                            | (go_at_call 12; (with_reducible refine (play_len HT12.out).mono ?_); rintro e w13 ⟨rfl, rfl⟩)
                            | fail)
                        all_goals
                          go_wp2
                          exact ⟨⟨k + 1, s + 1, PN, _, f, m, by omega, rfl, rfl, by go_num, by have := HS.out; omega, by have := HP.out; have := hpl.out; omega, by omega, by omega, Lib.hid (HT12.out.less (Nat.le_refl _) (fun p hp => by simp at hp))⟩, by simp [intOf]; omega⟩
              · obtain ⟨PN, hPN0⟩ : ∃ PN, PN = P ++ [(kb, nn)] := ⟨_, rfl⟩
                have hPN := Lib.hid hPN0
                have hpe : Hid (aPut mo P kb nn = PN) := Lib.hid (by rw [hPN.out]; exact put_room HX.out (by rw [← HPL.out]; exact hroom))
                have hpl : Hid (PN.length ≤ P.length + 1) := Lib.hid (by rw [hPN.out, List.length_append, List.length_singleton]; omega)
                clear hPN0 hpl0
                have HTK : Hid (Calls Try.prog 15 #[.string st, .pointer (some ⟨Mb, 0, none⟩)] w5 fun e w' => e = .returned (.tuple #[.int .i64 0, .bool false]) ∧ Play w w' K mo N H s f m P P Mb (.slice ao pl vc) [(X, .cells #[.int .i64 kd, .int .i64 nn, .slice ka kl kc] 31)]) := Lib.hid (by rw [HST.out]; exact play_takeN HT0.out kb HB.out (by rw [← HPL.out]; omega) HX.out)
                go_upto_region 22 with (go_at_call 15; ((with_reducible refine HTK.out.mono ?_); rintro e w6 ⟨rfl, hT6⟩; have HT6 := Lib.hid hT6; clear hT6))
                clear m0 mf x0 x1 x2 hcv
                obtain ⟨m5, f5⟩ := HT6.out.m0
                go_upto_region 24 with (fail)
                clear m5 f5
                have hPt : P.length ≤ 100000 := by rw [← HPL.out]; omega
                obtain ⟨m6, f6⟩ := HT6.out.m0
                have y1 : w6.cell? ⟨X, 1, none⟩ = some (.int .i64 nn) := by rw [cell_of_row w6 X 1 _ 31 _ (HT6.out.gd (List.mem_cons_self ..))]; rfl
                have HT6a : Hid (Play w (w6.alloc (.cells #[.string st, .int .i64 nn] 43)) K mo N H s f m P (P) Mb (.slice ao pl vc) ((w6.heap.size, .cells #[.string (strOfNums (kb, nn).1), .int .i64 (kb, nn).2] 43) :: [(X, .cells #[.int .i64 kd, .int .i64 nn, .slice ka kl kc] 31)])) := Lib.hid (by rw [HST.out]; exact HT6.out.alloc _)
                have hPM : Hid ((P).length ≤ 100000) := Lib.hid (by omega)
                go_upto_region 25 with (at_builtin; refine wpList_play_more rfl _ _ rfl HT6a.out hPM.out rfl rfl ?_; intro a7 n7 c7 w7 m7 f7 HT8)
                rw [← hPN.out] at HT8
                have hc7 := HT8.out.count
                subst hc7
                generalize w7.setCell ⟨Mb, 0, none⟩ (.slice (some a7) PN.length c7) = w8 at *
                clear m7 f7 HT6a
                have hcv2 := Lib.run_convert_string_bytes (P := Try.prog) w8 9 29 5 st Try.underlying9 Try.underlying29 Try.underlying5
                have HTb := Lib.hid (HT8.out.bytes st)
                have hstl : st.size = kb.length := by rw [HST.out, strOfNums_size]
                rw [hstl] at hcv2
                have HRO : Hid (∀ cc, kb.length ≤ cc → Row (Lib.bytesWorld w8 5 st) (.slice (some ⟨w8.heap.size, 0, none⟩) kb.length cc) kb) := Lib.hid fun cc hcc => by rw [HST.out]; exact bytes_row w8 kb HB.out (by omega) cc hcc
                have HCB : Hid (∀ j, j < kb.length → ∃ z, (Lib.bytesCells w8 5 st)[j]? = some (.int .u8 z)) := Lib.hid fun j hj => bytes_at w8 st j (by rw [hstl]; exact hj)
                have hgc := grownCap_ge w8 kb.length 0 5
                generalize grownCap w8 kb.length 0 5 = cc at *
                go_upto_region 26 with (fail)
                have HRC := Lib.hid (HRO.out cc hgc)
                generalize Lib.bytesWorld w8 5 st = w9 at *
                generalize Lib.bytesCells w8 5 st = cs at *
                have hBX : w8.heap.size ≠ X := by have := (Array.getElem?_eq_some_iff.1 (HT8.out.gd (List.mem_cons_self ..))).1; exact fun e => by rw [e] at this; exact Nat.lt_irrefl _ this
                generalize w8.heap.size = B at *
                obtain ⟨csz, hcsz⟩ : ∃ csz, csz = cs.size := ⟨_, rfl⟩
                rw [← hcsz] at HTb
                have HCZ := Lib.hid hcsz
                have z1 : w9.cell? ⟨X, 1, none⟩ = some (.int .i64 nn) := by
                  have hx := HTb.out.gd (List.mem_cons_of_mem _ (List.mem_cons_self ..))
                  rw [cell_of_row w9 X 1 _ 31 _ hx]; rfl
                have HKB : Hid (∀ g, kblk (.slice (some ⟨B, 0, none⟩) kb.length cc) kb = some g → g < w.heap.size ∨ ∃ o, (g, o) ∈ [(B, Obj.cells cs 5 (csz, csz + 1)), (X, .cells #[.int .i64 kd, .int .i64 nn, .slice ka kl kc] 31)]) := Lib.hid (fun g hg => Or.inr ⟨_, by have e : some B = some g := kblk_own hg; cases e; exact List.mem_cons_self ..⟩)
                clear hcv2 HRO hcsz hstl y1 m6 f6
                go_wp2_with (go_at_call 10; ((with_reducible refine (play_put PUT.out HTb.out _ kb nn HRC.out HB.out (by omega) HKB.out (by omega) hmo.1 (by omega)).mono ?_); rintro e w10 ⟨rfl, hT10⟩; rw [hpe.out] at hT10; have HT10 := Lib.hid hT10; clear hT10))
                clear z1
                go_loopw [112] (fun i wz => ∃ (j : Nat) (cz : Array Value), j ≤ kb.length ∧ i = .int .i64 (j : Int) ∧ Hid (cz.size = csz) ∧ Hid (∀ j, j < kb.length → ∃ z, cz[j]? = some (.int .u8 z)) ∧ Hid (Play w wz K mo N H (s + 1) f m PN PN Mb (.slice (some a7) PN.length c7) [(B, .cells cz 5 (csz, csz + 1)), (X, .cells #[.int .i64 kd, .int .i64 nn, .slice ka kl kc] 31)])) (fun i _ => kb.length - (intOf i).toNat)
                case atStart => exact ⟨0, cs, by omega, rfl, Lib.hid HCZ.out.symm, HCB, HT10⟩
                case round =>
                  clear HT10 HCB HCZ
                  obtain ⟨j, cz, hj, rfl, HCZ, HCB, HT10⟩ := hrel
                  by_cases hjl : j < kb.length
                  · obtain ⟨z, hz⟩ := HCB.out j hjl
                    have hbz := HT10.out.gd (List.mem_cons_self ..)
                    have b0 : wr.cell? ⟨B, j, none⟩ = some (.int .u8 z) := (cell_of_row_fr hbz).trans hz
                    have bf : wr.frozen? ⟨B, j, none⟩ = false := frozen_of_row_fr hbz (by rw [← HCZ.out]; exact (Array.getElem?_eq_some_iff.1 hz).1)
                    have hjl2 : (j : Int) < kb.length := by omega
                    have HST2 := fun u => Lib.hid (HT10.out.store (fun p hp => by simp only [List.mem_cons, List.not_mem_nil, or_false] at hp; rw [hp]; exact hBX.symm) j u)
                    have HZ := Lib.hid hz
                    clear hbz hz
                    go_wp2
                    go_roundw
                    case rel =>
                      exact ⟨j + 1, _, by omega, by go_num, Lib.hid (by rw [Array.size_setIfInBounds]; exact HCZ.out), Lib.hid (fun i hi => by
                        by_cases he : j = i
                        · subst he
                          have hlt := (Array.getElem?_eq_some_iff.1 HZ.out).1
                          exact ⟨_, by rw [Array.getElem?_setIfInBounds_self_of_lt hlt]⟩
                        · obtain ⟨z', hz'⟩ := HCB.out i hi
                          exact ⟨z', by rw [Array.getElem?_setIfInBounds_ne he]; exact hz'⟩), HST2 _⟩
                    case measure => simp [intOf]; omega
                  · have hjl2 : ¬ (j : Int) < kb.length := by omega
                    go_upto_region 44 with (go_at_call 17; ((with_reducible refine (play_hits HT10.out).mono ?_); rintro e w11 ⟨rfl, hT11⟩; have HT11 := Lib.hid hT11; clear hT11))
                    obtain ⟨n0, nf⟩ := HT11.out.m0
                    have HT12 := Lib.hid (HT11.out.same (w' := w11.drew) rfl (Below.refl _ _).drew)
                    clear hjl2 hjl
                    go_region_held3 (fun w' => w'.cell? ⟨Mb, 0, none⟩ = some (.slice (some a7) PN.length c7)) (first | exact n0)
                      (first
                        | (go_at_call 12; (with_reducible refine (play_len HT12.out).mono ?_); rintro e w13 ⟨rfl, rfl⟩)
                        | fail)
                    all_goals
                      go_wp2
                      exact ⟨⟨k + 1, s + 1, PN, _, f, m, by omega, rfl, rfl, by go_num, by have := HS.out; omega, by have := HP.out; have := hpl.out; omega, by omega, by omega, Lib.hid (HT12.out.less (Nat.le_refl _) (fun p hp => by simp at hp))⟩, by simp [intOf]; omega⟩
          · have e0 : (kd == 0) = false := by simp [h0]
            have e1 : (kd == 1) = true := by simp [h0]
            clear h0
            cases hx : aFind P kb with
            | some y =>
              have HX := Lib.hid hx
              clear hx
              obtain ⟨PN, hPN0⟩ : ∃ PN, PN = aDel P kb ++ [(kb, nn)] := ⟨_, rfl⟩
              have hPN := Lib.hid hPN0
              have hpe : Hid (aPut mo P kb nn = PN) := Lib.hid (by rw [hPN.out]; exact put_some HX.out)
              have hdl := aDel_len P kb
              have hpl : Hid (PN.length ≤ P.length + 1) := Lib.hid (by rw [hPN.out, List.length_append, List.length_singleton]; omega)
              clear hPN0
              have HTK : Hid (Calls Try.prog 15 #[.string st, .pointer (some ⟨Mb, 0, none⟩)] w5 fun e w' => e = .returned (.tuple #[.int .i64 y, .bool true]) ∧ ∃ g n c, Play w w' K mo N H s f m P (aDel P kb) Mb (.slice (some g) n c) [(X, .cells #[.int .i64 kd, .int .i64 nn, .slice ka kl kc] 31)]) := Lib.hid (by rw [HST.out]; exact play_takeS HT0.out kb y HB.out (by omega) HX.out)
              go_upto_region 24 with (go_at_call 15; ((with_reducible refine HTK.out.mono ?_); rintro e w6 ⟨rfl, ga, gn, gc, hT6⟩; have HT6 := Lib.hid hT6; clear hT6))
              clear m0 mf x0 x1 x2 hcv
              obtain ⟨m6, f6⟩ := HT6.out.m0
              have y1 : w6.cell? ⟨X, 1, none⟩ = some (.int .i64 nn) := by rw [cell_of_row w6 X 1 _ 31 _ (HT6.out.gd (List.mem_cons_self ..))]; rfl
              have HT6a : Hid (Play w (w6.alloc (.cells #[.string st, .int .i64 nn] 43)) K mo N H s f m P (aDel P kb) Mb (.slice (some ga) gn gc) ((w6.heap.size, .cells #[.string (strOfNums (kb, nn).1), .int .i64 (kb, nn).2] 43) :: [(X, .cells #[.int .i64 kd, .int .i64 nn, .slice ka kl kc] 31)])) := Lib.hid (by rw [HST.out]; exact HT6.out.alloc _)
              have hPM : Hid ((aDel P kb).length ≤ 100000) := Lib.hid (by omega)
              go_upto_region 25 with (at_builtin; refine wpList_play_more rfl _ _ rfl HT6a.out hPM.out rfl rfl ?_; intro a7 n7 c7 w7 m7 f7 HT8)
              rw [← hPN.out] at HT8
              have hc7 := HT8.out.count
              subst hc7
              generalize w7.setCell ⟨Mb, 0, none⟩ (.slice (some a7) PN.length c7) = w8 at *
              clear m7 f7 HT6a
              have hcv2 := Lib.run_convert_string_bytes (P := Try.prog) w8 9 29 5 st Try.underlying9 Try.underlying29 Try.underlying5
              have HTb := Lib.hid (HT8.out.bytes st)
              have hstl : st.size = kb.length := by rw [HST.out, strOfNums_size]
              rw [hstl] at hcv2
              have HRO : Hid (∀ cc, kb.length ≤ cc → Row (Lib.bytesWorld w8 5 st) (.slice (some ⟨w8.heap.size, 0, none⟩) kb.length cc) kb) := Lib.hid fun cc hcc => by rw [HST.out]; exact bytes_row w8 kb HB.out (by omega) cc hcc
              have HCB : Hid (∀ j, j < kb.length → ∃ z, (Lib.bytesCells w8 5 st)[j]? = some (.int .u8 z)) := Lib.hid fun j hj => bytes_at w8 st j (by rw [hstl]; exact hj)
              have hgc := grownCap_ge w8 kb.length 0 5
              generalize grownCap w8 kb.length 0 5 = cc at *
              go_upto_region 26 with (fail)
              have HRC := Lib.hid (HRO.out cc hgc)
              generalize Lib.bytesWorld w8 5 st = w9 at *
              generalize Lib.bytesCells w8 5 st = cs at *
              have hBX : w8.heap.size ≠ X := by have := (Array.getElem?_eq_some_iff.1 (HT8.out.gd (List.mem_cons_self ..))).1; exact fun e => by rw [e] at this; exact Nat.lt_irrefl _ this
              generalize w8.heap.size = B at *
              obtain ⟨csz, hcsz⟩ : ∃ csz, csz = cs.size := ⟨_, rfl⟩
              rw [← hcsz] at HTb
              have HCZ := Lib.hid hcsz
              have z1 : w9.cell? ⟨X, 1, none⟩ = some (.int .i64 nn) := by
                have hx := HTb.out.gd (List.mem_cons_of_mem _ (List.mem_cons_self ..))
                rw [cell_of_row w9 X 1 _ 31 _ hx]; rfl
              have HKB : Hid (∀ g, kblk (.slice (some ⟨B, 0, none⟩) kb.length cc) kb = some g → g < w.heap.size ∨ ∃ o, (g, o) ∈ [(B, Obj.cells cs 5 (csz, csz + 1)), (X, .cells #[.int .i64 kd, .int .i64 nn, .slice ka kl kc] 31)]) := Lib.hid (fun g hg => Or.inr ⟨_, by have e : some B = some g := kblk_own hg; cases e; exact List.mem_cons_self ..⟩)
              clear hcv2 HRO hcsz hstl y1 m6 f6
              go_wp2_with (go_at_call 10; ((with_reducible refine (play_put PUT.out HTb.out _ kb nn HRC.out HB.out (by omega) HKB.out (by omega) hmo.1 (by omega)).mono ?_); rintro e w10 ⟨rfl, hT10⟩; rw [hpe.out] at hT10; have HT10 := Lib.hid hT10; clear hT10))
              clear z1
              go_loopw [112] (fun i wz => ∃ (j : Nat) (cz : Array Value), j ≤ kb.length ∧ i = .int .i64 (j : Int) ∧ Hid (cz.size = csz) ∧ Hid (∀ j, j < kb.length → ∃ z, cz[j]? = some (.int .u8 z)) ∧ Hid (Play w wz K mo N H (s + 1) f m PN PN Mb (.slice (some a7) PN.length c7) [(B, .cells cz 5 (csz, csz + 1)), (X, .cells #[.int .i64 kd, .int .i64 nn, .slice ka kl kc] 31)])) (fun i _ => kb.length - (intOf i).toNat)
              case atStart => exact ⟨0, cs, by omega, rfl, Lib.hid HCZ.out.symm, HCB, HT10⟩
              case round =>
                clear HT10 HCB HCZ
                obtain ⟨j, cz, hj, rfl, HCZ, HCB, HT10⟩ := hrel
                by_cases hjl : j < kb.length
                · obtain ⟨z, hz⟩ := HCB.out j hjl
                  have hbz := HT10.out.gd (List.mem_cons_self ..)
                  have b0 : wr.cell? ⟨B, j, none⟩ = some (.int .u8 z) := (cell_of_row_fr hbz).trans hz
                  have bf : wr.frozen? ⟨B, j, none⟩ = false := frozen_of_row_fr hbz (by rw [← HCZ.out]; exact (Array.getElem?_eq_some_iff.1 hz).1)
                  have hjl2 : (j : Int) < kb.length := by omega
                  have HST2 := fun u => Lib.hid (HT10.out.store (fun p hp => by simp only [List.mem_cons, List.not_mem_nil, or_false] at hp; rw [hp]; exact hBX.symm) j u)
                  have HZ := Lib.hid hz
                  clear hbz hz
                  go_wp2
                  go_roundw
                  case rel =>
                    exact ⟨j + 1, _, by omega, by go_num, Lib.hid (by rw [Array.size_setIfInBounds]; exact HCZ.out), Lib.hid (fun i hi => by
                      by_cases he : j = i
                      · subst he
                        have hlt := (Array.getElem?_eq_some_iff.1 HZ.out).1
                        exact ⟨_, by rw [Array.getElem?_setIfInBounds_self_of_lt hlt]⟩
                      · obtain ⟨z', hz'⟩ := HCB.out i hi
                        exact ⟨z', by rw [Array.getElem?_setIfInBounds_ne he]; exact hz'⟩), HST2 _⟩
                  case measure => simp [intOf]; omega
                · have hjl2 : ¬ (j : Int) < kb.length := by omega
                  go_upto_region 44 with (go_at_call 17; ((with_reducible refine (play_hits HT10.out).mono ?_); rintro e w11 ⟨rfl, hT11⟩; have HT11 := Lib.hid hT11; clear hT11))
                  obtain ⟨n0, nf⟩ := HT11.out.m0
                  have HT12 := Lib.hid (HT11.out.same (w' := w11.drew) rfl (Below.refl _ _).drew)
                  clear hjl2 hjl
                  go_region_held3 (fun w' => w'.cell? ⟨Mb, 0, none⟩ = some (.slice (some a7) PN.length c7)) (first | exact n0)
                    (first
                      | (go_at_call 12; (with_reducible refine (play_len HT12.out).mono ?_); rintro e w13 ⟨rfl, rfl⟩)
                      | fail)
                  all_goals
                    go_wp2
                    exact ⟨⟨k + 1, s + 1, PN, _, f, m, by omega, rfl, rfl, by go_num, by have := HS.out; omega, by have := HP.out; have := hpl.out; omega, by omega, by omega, Lib.hid (HT12.out.less (Nat.le_refl _) (fun p hp => by simp at hp))⟩, by simp [intOf]; omega⟩
            | none =>
              have HX := Lib.hid hx
              clear hx
              obtain ⟨pl, hpl0⟩ : ∃ pl, pl = P.length := ⟨_, rfl⟩
              have HPL := Lib.hid hpl0
              have hP10 := hP9
              rw [← hpl0] at hpc m0 hP9 HT0
              by_cases hroom : mo ≤ (pl : Int)
              · obtain ⟨PN, hPN0⟩ : ∃ PN, PN = P.tail ++ [(kb, nn)] := ⟨_, rfl⟩
                have hPN := Lib.hid hPN0
                have hpe : Hid (aPut mo P kb nn = PN) := Lib.hid (by rw [hPN.out]; exact put_full HX.out (by rw [← HPL.out]; exact hroom))
                have hpl : Hid (PN.length ≤ P.length + 1) := Lib.hid (by rw [hPN.out, List.length_append, List.length_singleton, List.length_tail]; omega)
                have hPt : P.tail.length ≤ 100000 := by rw [List.length_tail, ← HPL.out]; omega
                clear hPN0 hpl0
                have HTK : Hid (Calls Try.prog 15 #[.string st, .pointer (some ⟨Mb, 0, none⟩)] w5 fun e w' => e = .returned (.tuple #[.int .i64 0, .bool false]) ∧ Play w w' K mo N H s f m P P Mb (.slice ao pl vc) [(X, .cells #[.int .i64 kd, .int .i64 nn, .slice ka kl kc] 31)]) := Lib.hid (by rw [HST.out]; exact play_takeN HT0.out kb HB.out (by rw [← HPL.out]; omega) HX.out)
                go_upto_region 22 with (go_at_call 15; ((with_reducible refine HTK.out.mono ?_); rintro e w6a ⟨rfl, hT6⟩; have HT6b := Lib.hid hT6; clear hT6))
                clear m0 mf x0 x1 x2 hcv HT0
                obtain ⟨m5, f5⟩ := HT6b.out.m0
                have hp1 : (1 : Int) ≤ pl := by omega
                cases ao with
                | none =>
                  exfalso
                  have := HT6b.out.nil_len
                  omega
                | some g0 =>
                  obtain ⟨gb, goff, rfl, -, hpc2, hT6⟩ := HT6b.out.tail (by omega)
                  have HT6 := Lib.hid hT6
                  clear hT6 HT6b
                  have hpc3 : (pl : Int) ≤ vc := by omega
                  have hpc4 : (1 : Int) ≤ vc := by omega
                  by_cases hvc : vc = 1
                  · obtain rfl : pl = 1 := by omega
                    subst hvc
                    rw [if_pos rfl] at HT6
                    go_upto_region 24 with (fail)
                    generalize w6a.setCell ⟨Mb, 0, none⟩ (.slice (some ⟨gb, goff, none⟩) (1 - 1) (1 - 1)) = w6 at *
                    clear m5 f5
                    obtain ⟨m6, f6⟩ := HT6.out.m0
                    have y1 : w6.cell? ⟨X, 1, none⟩ = some (.int .i64 nn) := by rw [cell_of_row w6 X 1 _ 31 _ (HT6.out.gd (List.mem_cons_self ..))]; rfl
                    have HT6a : Hid (Play w (w6.alloc (.cells #[.string st, .int .i64 nn] 43)) K mo N H s f m P (P.tail) Mb (.slice (some ⟨gb, goff, none⟩) (1 - 1) (1 - 1)) ((w6.heap.size, .cells #[.string (strOfNums (kb, nn).1), .int .i64 (kb, nn).2] 43) :: [(X, .cells #[.int .i64 kd, .int .i64 nn, .slice ka kl kc] 31)])) := Lib.hid (by rw [HST.out]; exact HT6.out.alloc _)
                    have hPM : Hid ((P.tail).length ≤ 100000) := Lib.hid (by omega)
                    go_upto_region 25 with (at_builtin; refine wpList_play_more rfl _ _ rfl HT6a.out hPM.out rfl rfl ?_; intro a7 n7 c7 w7 m7 f7 HT8)
                    rw [← hPN.out] at HT8
                    have hc7 := HT8.out.count
                    subst hc7
                    generalize w7.setCell ⟨Mb, 0, none⟩ (.slice (some a7) PN.length c7) = w8 at *
                    clear m7 f7 HT6a
                    have hcv2 := Lib.run_convert_string_bytes (P := Try.prog) w8 9 29 5 st Try.underlying9 Try.underlying29 Try.underlying5
                    have HTb := Lib.hid (HT8.out.bytes st)
                    have hstl : st.size = kb.length := by rw [HST.out, strOfNums_size]
                    rw [hstl] at hcv2
                    have HRO : Hid (∀ cc, kb.length ≤ cc → Row (Lib.bytesWorld w8 5 st) (.slice (some ⟨w8.heap.size, 0, none⟩) kb.length cc) kb) := Lib.hid fun cc hcc => by rw [HST.out]; exact bytes_row w8 kb HB.out (by omega) cc hcc
                    have HCB : Hid (∀ j, j < kb.length → ∃ z, (Lib.bytesCells w8 5 st)[j]? = some (.int .u8 z)) := Lib.hid fun j hj => bytes_at w8 st j (by rw [hstl]; exact hj)
                    have hgc := grownCap_ge w8 kb.length 0 5
                    generalize grownCap w8 kb.length 0 5 = cc at *
                    go_upto_region 26 with (fail)
                    have HRC := Lib.hid (HRO.out cc hgc)
                    generalize Lib.bytesWorld w8 5 st = w9 at *
                    generalize Lib.bytesCells w8 5 st = cs at *
                    have hBX : w8.heap.size ≠ X := by have := (Array.getElem?_eq_some_iff.1 (HT8.out.gd (List.mem_cons_self ..))).1; exact fun e => by rw [e] at this; exact Nat.lt_irrefl _ this
                    generalize w8.heap.size = B at *
                    obtain ⟨csz, hcsz⟩ : ∃ csz, csz = cs.size := ⟨_, rfl⟩
                    rw [← hcsz] at HTb
                    have HCZ := Lib.hid hcsz
                    have z1 : w9.cell? ⟨X, 1, none⟩ = some (.int .i64 nn) := by
                      have hx := HTb.out.gd (List.mem_cons_of_mem _ (List.mem_cons_self ..))
                      rw [cell_of_row w9 X 1 _ 31 _ hx]; rfl
                    have HKB : Hid (∀ g, kblk (.slice (some ⟨B, 0, none⟩) kb.length cc) kb = some g → g < w.heap.size ∨ ∃ o, (g, o) ∈ [(B, Obj.cells cs 5 (csz, csz + 1)), (X, .cells #[.int .i64 kd, .int .i64 nn, .slice ka kl kc] 31)]) := Lib.hid (fun g hg => Or.inr ⟨_, by have e : some B = some g := kblk_own hg; cases e; exact List.mem_cons_self ..⟩)
                    clear hcv2 HRO hcsz hstl y1 m6 f6
                    go_wp2_with (go_at_call 10; ((with_reducible refine (play_put PUT.out HTb.out _ kb nn HRC.out HB.out (by omega) HKB.out (by omega) hmo.1 (by omega)).mono ?_); rintro e w10 ⟨rfl, hT10⟩; rw [hpe.out] at hT10; have HT10 := Lib.hid hT10; clear hT10))
                    clear z1
                    go_loopw [112] (fun i wz => ∃ (j : Nat) (cz : Array Value), j ≤ kb.length ∧ i = .int .i64 (j : Int) ∧ Hid (cz.size = csz) ∧ Hid (∀ j, j < kb.length → ∃ z, cz[j]? = some (.int .u8 z)) ∧ Hid (Play w wz K mo N H (s + 1) f m PN PN Mb (.slice (some a7) PN.length c7) [(B, .cells cz 5 (csz, csz + 1)), (X, .cells #[.int .i64 kd, .int .i64 nn, .slice ka kl kc] 31)])) (fun i _ => kb.length - (intOf i).toNat)
                    case atStart => exact ⟨0, cs, by omega, rfl, Lib.hid HCZ.out.symm, HCB, HT10⟩
                    case round =>
                      clear HT10 HCB HCZ
                      obtain ⟨j, cz, hj, rfl, HCZ, HCB, HT10⟩ := hrel
                      by_cases hjl : j < kb.length
                      · obtain ⟨z, hz⟩ := HCB.out j hjl
                        have hbz := HT10.out.gd (List.mem_cons_self ..)
                        have b0 : wr.cell? ⟨B, j, none⟩ = some (.int .u8 z) := (cell_of_row_fr hbz).trans hz
                        have bf : wr.frozen? ⟨B, j, none⟩ = false := frozen_of_row_fr hbz (by rw [← HCZ.out]; exact (Array.getElem?_eq_some_iff.1 hz).1)
                        have hjl2 : (j : Int) < kb.length := by omega
                        have HST2 := fun u => Lib.hid (HT10.out.store (fun p hp => by simp only [List.mem_cons, List.not_mem_nil, or_false] at hp; rw [hp]; exact hBX.symm) j u)
                        have HZ := Lib.hid hz
                        clear hbz hz
                        go_wp2
                        go_roundw
                        case rel =>
                          exact ⟨j + 1, _, by omega, by go_num, Lib.hid (by rw [Array.size_setIfInBounds]; exact HCZ.out), Lib.hid (fun i hi => by
                            by_cases he : j = i
                            · subst he
                              have hlt := (Array.getElem?_eq_some_iff.1 HZ.out).1
                              exact ⟨_, by rw [Array.getElem?_setIfInBounds_self_of_lt hlt]⟩
                            · obtain ⟨z', hz'⟩ := HCB.out i hi
                              exact ⟨z', by rw [Array.getElem?_setIfInBounds_ne he]; exact hz'⟩), HST2 _⟩
                        case measure => simp [intOf]; omega
                      · have hjl2 : ¬ (j : Int) < kb.length := by omega
                        go_upto_region 44 with (go_at_call 17; ((with_reducible refine (play_hits HT10.out).mono ?_); rintro e w11 ⟨rfl, hT11⟩; have HT11 := Lib.hid hT11; clear hT11))
                        obtain ⟨n0, nf⟩ := HT11.out.m0
                        have HT12 := Lib.hid (HT11.out.same (w' := w11.drew) rfl (Below.refl _ _).drew)
                        clear hjl2 hjl
                        go_region_held3 (fun w' => w'.cell? ⟨Mb, 0, none⟩ = some (.slice (some a7) PN.length c7)) (first | exact n0)
                          (first
                            | (go_at_call 12; (with_reducible refine (play_len HT12.out).mono ?_); rintro e w13 ⟨rfl, rfl⟩)
                            | fail)
                        all_goals
                          go_wp2
                          exact ⟨⟨k + 1, s + 1, PN, _, f, m, by omega, rfl, rfl, by go_num, by have := HS.out; omega, by have := HP.out; have := hpl.out; omega, by omega, by omega, Lib.hid (HT12.out.less (Nat.le_refl _) (fun p hp => by simp at hp))⟩, by simp [intOf]; omega⟩
                  · rw [if_neg hvc] at HT6
                    go_upto_region 24 with (fail)
                    generalize w6a.setCell ⟨Mb, 0, none⟩ (.slice (some ⟨gb, goff + 2, none⟩) (pl - 1) (vc - 1)) = w6 at *
                    clear m5 f5
                    obtain ⟨m6, f6⟩ := HT6.out.m0
                    have y1 : w6.cell? ⟨X, 1, none⟩ = some (.int .i64 nn) := by rw [cell_of_row w6 X 1 _ 31 _ (HT6.out.gd (List.mem_cons_self ..))]; rfl
                    have HT6a : Hid (Play w (w6.alloc (.cells #[.string st, .int .i64 nn] 43)) K mo N H s f m P (P.tail) Mb (.slice (some ⟨gb, goff + 2, none⟩) (pl - 1) (vc - 1)) ((w6.heap.size, .cells #[.string (strOfNums (kb, nn).1), .int .i64 (kb, nn).2] 43) :: [(X, .cells #[.int .i64 kd, .int .i64 nn, .slice ka kl kc] 31)])) := Lib.hid (by rw [HST.out]; exact HT6.out.alloc _)
                    have hPM : Hid ((P.tail).length ≤ 100000) := Lib.hid (by omega)
                    go_upto_region 25 with (at_builtin; refine wpList_play_more rfl _ _ rfl HT6a.out hPM.out rfl rfl ?_; intro a7 n7 c7 w7 m7 f7 HT8)
                    rw [← hPN.out] at HT8
                    have hc7 := HT8.out.count
                    subst hc7
                    generalize w7.setCell ⟨Mb, 0, none⟩ (.slice (some a7) PN.length c7) = w8 at *
                    clear m7 f7 HT6a
                    have hcv2 := Lib.run_convert_string_bytes (P := Try.prog) w8 9 29 5 st Try.underlying9 Try.underlying29 Try.underlying5
                    have HTb := Lib.hid (HT8.out.bytes st)
                    have hstl : st.size = kb.length := by rw [HST.out, strOfNums_size]
                    rw [hstl] at hcv2
                    have HRO : Hid (∀ cc, kb.length ≤ cc → Row (Lib.bytesWorld w8 5 st) (.slice (some ⟨w8.heap.size, 0, none⟩) kb.length cc) kb) := Lib.hid fun cc hcc => by rw [HST.out]; exact bytes_row w8 kb HB.out (by omega) cc hcc
                    have HCB : Hid (∀ j, j < kb.length → ∃ z, (Lib.bytesCells w8 5 st)[j]? = some (.int .u8 z)) := Lib.hid fun j hj => bytes_at w8 st j (by rw [hstl]; exact hj)
                    have hgc := grownCap_ge w8 kb.length 0 5
                    generalize grownCap w8 kb.length 0 5 = cc at *
                    go_upto_region 26 with (fail)
                    have HRC := Lib.hid (HRO.out cc hgc)
                    generalize Lib.bytesWorld w8 5 st = w9 at *
                    generalize Lib.bytesCells w8 5 st = cs at *
                    have hBX : w8.heap.size ≠ X := by have := (Array.getElem?_eq_some_iff.1 (HT8.out.gd (List.mem_cons_self ..))).1; exact fun e => by rw [e] at this; exact Nat.lt_irrefl _ this
                    generalize w8.heap.size = B at *
                    obtain ⟨csz, hcsz⟩ : ∃ csz, csz = cs.size := ⟨_, rfl⟩
                    rw [← hcsz] at HTb
                    have HCZ := Lib.hid hcsz
                    have z1 : w9.cell? ⟨X, 1, none⟩ = some (.int .i64 nn) := by
                      have hx := HTb.out.gd (List.mem_cons_of_mem _ (List.mem_cons_self ..))
                      rw [cell_of_row w9 X 1 _ 31 _ hx]; rfl
                    have HKB : Hid (∀ g, kblk (.slice (some ⟨B, 0, none⟩) kb.length cc) kb = some g → g < w.heap.size ∨ ∃ o, (g, o) ∈ [(B, Obj.cells cs 5 (csz, csz + 1)), (X, .cells #[.int .i64 kd, .int .i64 nn, .slice ka kl kc] 31)]) := Lib.hid (fun g hg => Or.inr ⟨_, by have e : some B = some g := kblk_own hg; cases e; exact List.mem_cons_self ..⟩)
                    clear hcv2 HRO hcsz hstl y1 m6 f6
                    go_wp2_with (go_at_call 10; ((with_reducible refine (play_put PUT.out HTb.out _ kb nn HRC.out HB.out (by omega) HKB.out (by omega) hmo.1 (by omega)).mono ?_); rintro e w10 ⟨rfl, hT10⟩; rw [hpe.out] at hT10; have HT10 := Lib.hid hT10; clear hT10))
                    clear z1
                    go_loopw [112] (fun i wz => ∃ (j : Nat) (cz : Array Value), j ≤ kb.length ∧ i = .int .i64 (j : Int) ∧ Hid (cz.size = csz) ∧ Hid (∀ j, j < kb.length → ∃ z, cz[j]? = some (.int .u8 z)) ∧ Hid (Play w wz K mo N H (s + 1) f m PN PN Mb (.slice (some a7) PN.length c7) [(B, .cells cz 5 (csz, csz + 1)), (X, .cells #[.int .i64 kd, .int .i64 nn, .slice ka kl kc] 31)])) (fun i _ => kb.length - (intOf i).toNat)
                    case atStart => exact ⟨0, cs, by omega, rfl, Lib.hid HCZ.out.symm, HCB, HT10⟩
                    case round =>
                      clear HT10 HCB HCZ
                      obtain ⟨j, cz, hj, rfl, HCZ, HCB, HT10⟩ := hrel
                      by_cases hjl : j < kb.length
                      · obtain ⟨z, hz⟩ := HCB.out j hjl
                        have hbz := HT10.out.gd (List.mem_cons_self ..)
                        have b0 : wr.cell? ⟨B, j, none⟩ = some (.int .u8 z) := (cell_of_row_fr hbz).trans hz
                        have bf : wr.frozen? ⟨B, j, none⟩ = false := frozen_of_row_fr hbz (by rw [← HCZ.out]; exact (Array.getElem?_eq_some_iff.1 hz).1)
                        have hjl2 : (j : Int) < kb.length := by omega
                        have HST2 := fun u => Lib.hid (HT10.out.store (fun p hp => by simp only [List.mem_cons, List.not_mem_nil, or_false] at hp; rw [hp]; exact hBX.symm) j u)
                        have HZ := Lib.hid hz
                        clear hbz hz
                        go_wp2
                        go_roundw
                        case rel =>
                          exact ⟨j + 1, _, by omega, by go_num, Lib.hid (by rw [Array.size_setIfInBounds]; exact HCZ.out), Lib.hid (fun i hi => by
                            by_cases he : j = i
                            · subst he
                              have hlt := (Array.getElem?_eq_some_iff.1 HZ.out).1
                              exact ⟨_, by rw [Array.getElem?_setIfInBounds_self_of_lt hlt]⟩
                            · obtain ⟨z', hz'⟩ := HCB.out i hi
                              exact ⟨z', by rw [Array.getElem?_setIfInBounds_ne he]; exact hz'⟩), HST2 _⟩
                        case measure => simp [intOf]; omega
                      · have hjl2 : ¬ (j : Int) < kb.length := by omega
                        go_upto_region 44 with (go_at_call 17; ((with_reducible refine (play_hits HT10.out).mono ?_); rintro e w11 ⟨rfl, hT11⟩; have HT11 := Lib.hid hT11; clear hT11))
                        obtain ⟨n0, nf⟩ := HT11.out.m0
                        have HT12 := Lib.hid (HT11.out.same (w' := w11.drew) rfl (Below.refl _ _).drew)
                        clear hjl2 hjl
                        go_region_held3 (fun w' => w'.cell? ⟨Mb, 0, none⟩ = some (.slice (some a7) PN.length c7)) (first | exact n0)
                          (first
                            | (go_at_call 12; (with_reducible refine (play_len HT12.out).mono ?_); rintro e w13 ⟨rfl, rfl⟩)
                            | fail)
                        all_goals
                          go_wp2
                          exact ⟨⟨k + 1, s + 1, PN, _, f, m, by omega, rfl, rfl, by go_num, by have := HS.out; omega, by have := HP.out; have := hpl.out; omega, by omega, by omega, Lib.hid (HT12.out.less (Nat.le_refl _) (fun p hp => by simp at hp))⟩, by simp [intOf]; omega⟩
              · obtain ⟨PN, hPN0⟩ : ∃ PN, PN = P ++ [(kb, nn)] := ⟨_, rfl⟩
                have hPN := Lib.hid hPN0
                have hpe : Hid (aPut mo P kb nn = PN) := Lib.hid (by rw [hPN.out]; exact put_room HX.out (by rw [← HPL.out]; exact hroom))
                have hpl : Hid (PN.length ≤ P.length + 1) := Lib.hid (by rw [hPN.out, List.length_append, List.length_singleton]; omega)
                clear hPN0 hpl0
                have HTK : Hid (Calls Try.prog 15 #[.string st, .pointer (some ⟨Mb, 0, none⟩)] w5 fun e w' => e = .returned (.tuple #[.int .i64 0, .bool false]) ∧ Play w w' K mo N H s f m P P Mb (.slice ao pl vc) [(X, .cells #[.int .i64 kd, .int .i64 nn, .slice ka kl kc] 31)]) := Lib.hid (by rw [HST.out]; exact play_takeN HT0.out kb HB.out (by rw [← HPL.out]; omega) HX.out)
                go_upto_region 22 with (go_at_call 15; ((with_reducible refine HTK.out.mono ?_); rintro e w6 ⟨rfl, hT6⟩; have HT6 := Lib.hid hT6; clear hT6))
                clear m0 mf x0 x1 x2 hcv
                obtain ⟨m5, f5⟩ := HT6.out.m0
                go_upto_region 24 with (fail)
                clear m5 f5
                have hPt : P.length ≤ 100000 := by rw [← HPL.out]; omega
                obtain ⟨m6, f6⟩ := HT6.out.m0
                have y1 : w6.cell? ⟨X, 1, none⟩ = some (.int .i64 nn) := by rw [cell_of_row w6 X 1 _ 31 _ (HT6.out.gd (List.mem_cons_self ..))]; rfl
                have HT6a : Hid (Play w (w6.alloc (.cells #[.string st, .int .i64 nn] 43)) K mo N H s f m P (P) Mb (.slice ao pl vc) ((w6.heap.size, .cells #[.string (strOfNums (kb, nn).1), .int .i64 (kb, nn).2] 43) :: [(X, .cells #[.int .i64 kd, .int .i64 nn, .slice ka kl kc] 31)])) := Lib.hid (by rw [HST.out]; exact HT6.out.alloc _)
                have hPM : Hid ((P).length ≤ 100000) := Lib.hid (by omega)
                go_upto_region 25 with (at_builtin; refine wpList_play_more rfl _ _ rfl HT6a.out hPM.out rfl rfl ?_; intro a7 n7 c7 w7 m7 f7 HT8)
                rw [← hPN.out] at HT8
                have hc7 := HT8.out.count
                subst hc7
                generalize w7.setCell ⟨Mb, 0, none⟩ (.slice (some a7) PN.length c7) = w8 at *
                clear m7 f7 HT6a
                have hcv2 := Lib.run_convert_string_bytes (P := Try.prog) w8 9 29 5 st Try.underlying9 Try.underlying29 Try.underlying5
                have HTb := Lib.hid (HT8.out.bytes st)
                have hstl : st.size = kb.length := by rw [HST.out, strOfNums_size]
                rw [hstl] at hcv2
                have HRO : Hid (∀ cc, kb.length ≤ cc → Row (Lib.bytesWorld w8 5 st) (.slice (some ⟨w8.heap.size, 0, none⟩) kb.length cc) kb) := Lib.hid fun cc hcc => by rw [HST.out]; exact bytes_row w8 kb HB.out (by omega) cc hcc
                have HCB : Hid (∀ j, j < kb.length → ∃ z, (Lib.bytesCells w8 5 st)[j]? = some (.int .u8 z)) := Lib.hid fun j hj => bytes_at w8 st j (by rw [hstl]; exact hj)
                have hgc := grownCap_ge w8 kb.length 0 5
                generalize grownCap w8 kb.length 0 5 = cc at *
                go_upto_region 26 with (fail)
                have HRC := Lib.hid (HRO.out cc hgc)
                generalize Lib.bytesWorld w8 5 st = w9 at *
                generalize Lib.bytesCells w8 5 st = cs at *
                have hBX : w8.heap.size ≠ X := by have := (Array.getElem?_eq_some_iff.1 (HT8.out.gd (List.mem_cons_self ..))).1; exact fun e => by rw [e] at this; exact Nat.lt_irrefl _ this
                generalize w8.heap.size = B at *
                obtain ⟨csz, hcsz⟩ : ∃ csz, csz = cs.size := ⟨_, rfl⟩
                rw [← hcsz] at HTb
                have HCZ := Lib.hid hcsz
                have z1 : w9.cell? ⟨X, 1, none⟩ = some (.int .i64 nn) := by
                  have hx := HTb.out.gd (List.mem_cons_of_mem _ (List.mem_cons_self ..))
                  rw [cell_of_row w9 X 1 _ 31 _ hx]; rfl
                have HKB : Hid (∀ g, kblk (.slice (some ⟨B, 0, none⟩) kb.length cc) kb = some g → g < w.heap.size ∨ ∃ o, (g, o) ∈ [(B, Obj.cells cs 5 (csz, csz + 1)), (X, .cells #[.int .i64 kd, .int .i64 nn, .slice ka kl kc] 31)]) := Lib.hid (fun g hg => Or.inr ⟨_, by have e : some B = some g := kblk_own hg; cases e; exact List.mem_cons_self ..⟩)
                clear hcv2 HRO hcsz hstl y1 m6 f6
                go_wp2_with (go_at_call 10; ((with_reducible refine (play_put PUT.out HTb.out _ kb nn HRC.out HB.out (by omega) HKB.out (by omega) hmo.1 (by omega)).mono ?_); rintro e w10 ⟨rfl, hT10⟩; rw [hpe.out] at hT10; have HT10 := Lib.hid hT10; clear hT10))
                clear z1
                go_loopw [112] (fun i wz => ∃ (j : Nat) (cz : Array Value), j ≤ kb.length ∧ i = .int .i64 (j : Int) ∧ Hid (cz.size = csz) ∧ Hid (∀ j, j < kb.length → ∃ z, cz[j]? = some (.int .u8 z)) ∧ Hid (Play w wz K mo N H (s + 1) f m PN PN Mb (.slice (some a7) PN.length c7) [(B, .cells cz 5 (csz, csz + 1)), (X, .cells #[.int .i64 kd, .int .i64 nn, .slice ka kl kc] 31)])) (fun i _ => kb.length - (intOf i).toNat)
                case atStart => exact ⟨0, cs, by omega, rfl, Lib.hid HCZ.out.symm, HCB, HT10⟩
                case round =>
                  clear HT10 HCB HCZ
                  obtain ⟨j, cz, hj, rfl, HCZ, HCB, HT10⟩ := hrel
                  by_cases hjl : j < kb.length
                  · obtain ⟨z, hz⟩ := HCB.out j hjl
                    have hbz := HT10.out.gd (List.mem_cons_self ..)
                    have b0 : wr.cell? ⟨B, j, none⟩ = some (.int .u8 z) := (cell_of_row_fr hbz).trans hz
                    have bf : wr.frozen? ⟨B, j, none⟩ = false := frozen_of_row_fr hbz (by rw [← HCZ.out]; exact (Array.getElem?_eq_some_iff.1 hz).1)
                    have hjl2 : (j : Int) < kb.length := by omega
                    have HST2 := fun u => Lib.hid (HT10.out.store (fun p hp => by simp only [List.mem_cons, List.not_mem_nil, or_false] at hp; rw [hp]; exact hBX.symm) j u)
                    have HZ := Lib.hid hz
                    clear hbz hz
                    go_wp2
                    go_roundw
                    case rel =>
                      exact ⟨j + 1, _, by omega, by go_num, Lib.hid (by rw [Array.size_setIfInBounds]; exact HCZ.out), Lib.hid (fun i hi => by
                        by_cases he : j = i
                        · subst he
                          have hlt := (Array.getElem?_eq_some_iff.1 HZ.out).1
                          exact ⟨_, by rw [Array.getElem?_setIfInBounds_self_of_lt hlt]⟩
                        · obtain ⟨z', hz'⟩ := HCB.out i hi
                          exact ⟨z', by rw [Array.getElem?_setIfInBounds_ne he]; exact hz'⟩), HST2 _⟩
                    case measure => simp [intOf]; omega
                  · have hjl2 : ¬ (j : Int) < kb.length := by omega
                    go_upto_region 44 with (go_at_call 17; ((with_reducible refine (play_hits HT10.out).mono ?_); rintro e w11 ⟨rfl, hT11⟩; have HT11 := Lib.hid hT11; clear hT11))
                    obtain ⟨n0, nf⟩ := HT11.out.m0
                    have HT12 := Lib.hid (HT11.out.same (w' := w11.drew) rfl (Below.refl _ _).drew)
                    clear hjl2 hjl
                    go_region_held3 (fun w' => w'.cell? ⟨Mb, 0, none⟩ = some (.slice (some a7) PN.length c7)) (first | exact n0)
                      (first
                        | (go_at_call 12; (with_reducible refine (play_len HT12.out).mono ?_); rintro e w13 ⟨rfl, rfl⟩)
                        | fail)
                    all_goals
                      go_wp2
                      exact ⟨⟨k + 1, s + 1, PN, _, f, m, by omega, rfl, rfl, by go_num, by have := HS.out; omega, by have := HP.out; have := hpl.out; omega, by omega, by omega, Lib.hid (HT12.out.less (Nat.le_refl _) (fun p hp => by simp at hp))⟩, by simp [intOf]; omega⟩
        · by_cases hget : kd = 2 ∨ kd = 3
          · have e0 : (kd == 0) = false := by simp; omega
            have e1 : (kd == 1) = false := by simp; omega
            rcases hget with h0 | h0
            · have e2 : (kd == 2) = true := by simp [h0]
              clear h0 hput
              cases hx : aFind P kb with
              | some y =>
                have HX := Lib.hid hx
                clear hx
                obtain ⟨PN, hPN0⟩ : ∃ PN, PN = aDel P kb ++ [(kb, y)] := ⟨_, rfl⟩
                have hPN := Lib.hid hPN0
                have hdl := aDel_len P kb
                have hpl : Hid (PN.length ≤ P.length + 1) := Lib.hid (by rw [hPN.out, List.length_append, List.length_singleton]; omega)
                clear hPN0
                have HTK : Hid (Calls Try.prog 15 #[.string st, .pointer (some ⟨Mb, 0, none⟩)] w5 fun e w' => e = .returned (.tuple #[.int .i64 y, .bool true]) ∧ ∃ g n c, Play w w' K mo N H s f m P (aDel P kb) Mb (.slice (some g) n c) [(X, .cells #[.int .i64 kd, .int .i64 nn, .slice ka kl kc] 31)]) := Lib.hid (by rw [HST.out]; exact play_takeS HT0.out kb y HB.out (by omega) HX.out)
                go_upto_region 37 with (go_at_call 15; ((with_reducible refine HTK.out.mono ?_); rintro e w6 ⟨rfl, ga, gn, gc, hT6⟩; have HT6 := Lib.hid hT6; clear hT6))
                clear m0 mf x0 x1 x2 hcv
                obtain ⟨m6, f6⟩ := HT6.out.m0
                have HT6a : Hid (Play w (w6.alloc (.cells #[.string st, .int .i64 y] 43)) K mo N H s f m P (aDel P kb) Mb (.slice (some ga) gn gc) ((w6.heap.size, .cells #[.string (strOfNums (kb, y).1), .int .i64 (kb, y).2] 43) :: [(X, .cells #[.int .i64 kd, .int .i64 nn, .slice ka kl kc] 31)])) := Lib.hid (by rw [HST.out]; exact HT6.out.alloc _)
                have hPM : Hid ((aDel P kb).length ≤ 100000) := Lib.hid (by omega)
                go_upto_region 38 with (at_builtin; refine wpList_play_more rfl _ _ rfl HT6a.out hPM.out rfl rfl ?_; intro a7 n7 c7 w7 m7 f7 HT8)
                rw [← hPN.out] at HT8
                have hc7 := HT8.out.count
                subst hc7
                generalize w7.setCell ⟨Mb, 0, none⟩ (.slice (some a7) PN.length c7) = w8 at *
                clear m7 f7 HT6a m6 f6
                have y2 : w8.cell? ⟨X, 2, none⟩ = some (.slice ka kl kc) := by rw [cell_of_row w8 X 2 _ 31 _ (HT8.out.gd (List.mem_cons_self ..))]; rfl
                have HGT : Hid (Calls Try.prog 11 #[.pointer (some ⟨K, 0, none⟩), .slice ka kl kc] w8 fun e w' => e = .returned (.tuple #[.int .i64 y, .bool true]) ∧ Play w w' K mo N H (s + 1) (f + 1) m PN PN Mb (.slice (some a7) PN.length c7) [(X, .cells #[.int .i64 kd, .int .i64 nn, .slice ka kl kc] 31)]) := Lib.hid (by
                  have := play_getS GETS.out HT8.out _ kb y (HRF.out w8 HT8.out.be) HB.out (by omega) (by omega) (by omega) (by omega) HX.out
                  rw [← hPN.out] at this
                  exact this)
                go_upto_region 44 with (first
                  | (go_at_call 11; ((with_reducible refine HGT.out.mono ?_); rintro e w10 ⟨rfl, hT10⟩; have HT10 := Lib.hid hT10; clear hT10))
                  | (go_at_call 17; ((with_reducible refine (play_hits HT10.out).mono ?_); rintro e w11 ⟨rfl, hT11⟩; have HT11 := Lib.hid hT11; clear hT11)))
                clear y2
                obtain ⟨n0, nf⟩ := HT11.out.m0
                have HT12 := Lib.hid (HT11.out.same (w' := w11.drew) rfl (Below.refl _ _).drew)
                go_region_held3 (fun w' => w'.cell? ⟨Mb, 0, none⟩ = some (.slice (some a7) PN.length c7)) (first | exact n0)
                  (first
                    | (go_at_call 12; (with_reducible refine (play_len HT12.out).mono ?_); rintro e w13 ⟨rfl, rfl⟩)
                    | fail)
                all_goals
                  go_wp2
                  exact ⟨⟨k + 1, s + 1, PN, _, f + 1, m, by omega, by go_num, by go_num, by go_num, by have := HS.out; omega, by have := HP.out; have := hpl.out; omega, by omega, by omega, Lib.hid (HT12.out.less (Nat.le_refl _) (fun p hp => by simp at hp))⟩, by simp [intOf]; omega⟩
              | none =>
                have HX := Lib.hid hx
                clear hx
                have HTK : Hid (Calls Try.prog 15 #[.string st, .pointer (some ⟨Mb, 0, none⟩)] w5 fun e w' => e = .returned (.tuple #[.int .i64 0, .bool false]) ∧ Play w w' K mo N H s f m P P Mb (.slice ao P.length vc) [(X, .cells #[.int .i64 kd, .int .i64 nn, .slice ka kl kc] 31)]) := Lib.hid (by rw [HST.out]; exact play_takeN HT0.out kb HB.out (by omega) HX.out)
                go_upto_region 40 with (go_at_call 15; ((with_reducible refine HTK.out.mono ?_); rintro e w8 ⟨rfl, hT8⟩; have HT8 := Lib.hid hT8; clear hT8))
                clear m0 mf x0 x1 x2 hcv
                have y2 : w8.cell? ⟨X, 2, none⟩ = some (.slice ka kl kc) := by rw [cell_of_row w8 X 2 _ 31 _ (HT8.out.gd (List.mem_cons_self ..))]; rfl
                have HGT := Lib.hid (play_getN GETN.out HT8.out _ kb (HRF.out w8 HT8.out.be) HB.out (by omega) (by omega) (by omega) HX.out)
                go_upto_region 44 with (first
                  | (go_at_call 11; ((with_reducible refine HGT.out.mono ?_); rintro e w10 ⟨rfl, hT10⟩; have HT10 := Lib.hid hT10; clear hT10))
                  | (go_at_call 17; ((with_reducible refine (play_hits HT10.out).mono ?_); rintro e w11 ⟨rfl, hT11⟩; have HT11 := Lib.hid hT11; clear hT11)))
                clear y2
                obtain ⟨n0, nf⟩ := HT11.out.m0
                have HT12 := Lib.hid (HT11.out.same (w' := w11.drew) rfl (Below.refl _ _).drew)
                go_region_held3 (fun w' => w'.cell? ⟨Mb, 0, none⟩ = some (.slice ao P.length vc)) (first | exact n0)
                  (first
                    | (go_at_call 12; (with_reducible refine (play_len HT12.out).mono ?_); rintro e w13 ⟨rfl, rfl⟩)
                    | fail)
                all_goals
                  go_wp2
                  exact ⟨⟨k + 1, s, P, _, f, m + 1, by omega, by go_num, by go_num, by go_num, by have := HS.out; omega, by have := HP.out; omega, by omega, by omega, Lib.hid (HT12.out.less (Nat.le_refl _) (fun p hp => by simp at hp))⟩, by simp [intOf]; omega⟩
            · have e2 : (kd == 2) = false := by simp [h0]
              have e3 : (kd == 3) = true := by simp [h0]
              clear h0 hput
              cases hx : aFind P kb with
              | some y =>
                have HX := Lib.hid hx
                clear hx
                obtain ⟨PN, hPN0⟩ : ∃ PN, PN = aDel P kb ++ [(kb, y)] := ⟨_, rfl⟩
                have hPN := Lib.hid hPN0
                have hdl := aDel_len P kb
                have hpl : Hid (PN.length ≤ P.length + 1) := Lib.hid (by rw [hPN.out, List.length_append, List.length_singleton]; omega)
                clear hPN0
                have HTK : Hid (Calls Try.prog 15 #[.string st, .pointer (some ⟨Mb, 0, none⟩)] w5 fun e w' => e = .returned (.tuple #[.int .i64 y, .bool true]) ∧ ∃ g n c, Play w w' K mo N H s f m P (aDel P kb) Mb (.slice (some g) n c) [(X, .cells #[.int .i64 kd, .int .i64 nn, .slice ka kl kc] 31)]) := Lib.hid (by rw [HST.out]; exact play_takeS HT0.out kb y HB.out (by omega) HX.out)
                go_upto_region 37 with (go_at_call 15; ((with_reducible refine HTK.out.mono ?_); rintro e w6 ⟨rfl, ga, gn, gc, hT6⟩; have HT6 := Lib.hid hT6; clear hT6))
                clear m0 mf x0 x1 x2 hcv
                obtain ⟨m6, f6⟩ := HT6.out.m0
                have HT6a : Hid (Play w (w6.alloc (.cells #[.string st, .int .i64 y] 43)) K mo N H s f m P (aDel P kb) Mb (.slice (some ga) gn gc) ((w6.heap.size, .cells #[.string (strOfNums (kb, y).1), .int .i64 (kb, y).2] 43) :: [(X, .cells #[.int .i64 kd, .int .i64 nn, .slice ka kl kc] 31)])) := Lib.hid (by rw [HST.out]; exact HT6.out.alloc _)
                have hPM : Hid ((aDel P kb).length ≤ 100000) := Lib.hid (by omega)
                go_upto_region 38 with (at_builtin; refine wpList_play_more rfl _ _ rfl HT6a.out hPM.out rfl rfl ?_; intro a7 n7 c7 w7 m7 f7 HT8)
                rw [← hPN.out] at HT8
                have hc7 := HT8.out.count
                subst hc7
                generalize w7.setCell ⟨Mb, 0, none⟩ (.slice (some a7) PN.length c7) = w8 at *
                clear m7 f7 HT6a m6 f6
                have y2 : w8.cell? ⟨X, 2, none⟩ = some (.slice ka kl kc) := by rw [cell_of_row w8 X 2 _ 31 _ (HT8.out.gd (List.mem_cons_self ..))]; rfl
                have HGT : Hid (Calls Try.prog 11 #[.pointer (some ⟨K, 0, none⟩), .slice ka kl kc] w8 fun e w' => e = .returned (.tuple #[.int .i64 y, .bool true]) ∧ Play w w' K mo N H (s + 1) (f + 1) m PN PN Mb (.slice (some a7) PN.length c7) [(X, .cells #[.int .i64 kd, .int .i64 nn, .slice ka kl kc] 31)]) := Lib.hid (by
                  have := play_getS GETS.out HT8.out _ kb y (HRF.out w8 HT8.out.be) HB.out (by omega) (by omega) (by omega) (by omega) HX.out
                  rw [← hPN.out] at this
                  exact this)
                go_upto_region 44 with (first
                  | (go_at_call 11; ((with_reducible refine HGT.out.mono ?_); rintro e w10 ⟨rfl, hT10⟩; have HT10 := Lib.hid hT10; clear hT10))
                  | (go_at_call 17; ((with_reducible refine (play_hits HT10.out).mono ?_); rintro e w11 ⟨rfl, hT11⟩; have HT11 := Lib.hid hT11; clear hT11)))
                clear y2
                obtain ⟨n0, nf⟩ := HT11.out.m0
                have HT12 := Lib.hid (HT11.out.same (w' := w11.drew) rfl (Below.refl _ _).drew)
                go_region_held3 (fun w' => w'.cell? ⟨Mb, 0, none⟩ = some (.slice (some a7) PN.length c7)) (first | exact n0)
                  (first
                    | (go_at_call 12; (with_reducible refine (play_len HT12.out).mono ?_); rintro e w13 ⟨rfl, rfl⟩)
                    | fail)
                all_goals
                  go_wp2
                  exact ⟨⟨k + 1, s + 1, PN, _, f + 1, m, by omega, by go_num, by go_num, by go_num, by have := HS.out; omega, by have := HP.out; have := hpl.out; omega, by omega, by omega, Lib.hid (HT12.out.less (Nat.le_refl _) (fun p hp => by simp at hp))⟩, by simp [intOf]; omega⟩
              | none =>
                have HX := Lib.hid hx
                clear hx
                have HTK : Hid (Calls Try.prog 15 #[.string st, .pointer (some ⟨Mb, 0, none⟩)] w5 fun e w' => e = .returned (.tuple #[.int .i64 0, .bool false]) ∧ Play w w' K mo N H s f m P P Mb (.slice ao P.length vc) [(X, .cells #[.int .i64 kd, .int .i64 nn, .slice ka kl kc] 31)]) := Lib.hid (by rw [HST.out]; exact play_takeN HT0.out kb HB.out (by omega) HX.out)
                go_upto_region 40 with (go_at_call 15; ((with_reducible refine HTK.out.mono ?_); rintro e w8 ⟨rfl, hT8⟩; have HT8 := Lib.hid hT8; clear hT8))
                clear m0 mf x0 x1 x2 hcv
                have y2 : w8.cell? ⟨X, 2, none⟩ = some (.slice ka kl kc) := by rw [cell_of_row w8 X 2 _ 31 _ (HT8.out.gd (List.mem_cons_self ..))]; rfl
                have HGT := Lib.hid (play_getN GETN.out HT8.out _ kb (HRF.out w8 HT8.out.be) HB.out (by omega) (by omega) (by omega) HX.out)
                go_upto_region 44 with (first
                  | (go_at_call 11; ((with_reducible refine HGT.out.mono ?_); rintro e w10 ⟨rfl, hT10⟩; have HT10 := Lib.hid hT10; clear hT10))
                  | (go_at_call 17; ((with_reducible refine (play_hits HT10.out).mono ?_); rintro e w11 ⟨rfl, hT11⟩; have HT11 := Lib.hid hT11; clear hT11)))
                clear y2
                obtain ⟨n0, nf⟩ := HT11.out.m0
                have HT12 := Lib.hid (HT11.out.same (w' := w11.drew) rfl (Below.refl _ _).drew)
                go_region_held3 (fun w' => w'.cell? ⟨Mb, 0, none⟩ = some (.slice ao P.length vc)) (first | exact n0)
                  (first
                    | (go_at_call 12; (with_reducible refine (play_len HT12.out).mono ?_); rintro e w13 ⟨rfl, rfl⟩)
                    | fail)
                all_goals
                  go_wp2
                  exact ⟨⟨k + 1, s, P, _, f, m + 1, by omega, by go_num, by go_num, by go_num, by have := HS.out; omega, by have := HP.out; omega, by omega, by omega, Lib.hid (HT12.out.less (Nat.le_refl _) (fun p hp => by simp at hp))⟩, by simp [intOf]; omega⟩
          · have e0 : (kd == 0) = false := by simp; omega
            have e1 : (kd == 1) = false := by simp; omega
            have e2 : (kd == 2) = false := by simp; omega
            have e3 : (kd == 3) = false := by simp; omega
            clear hput hget
            have HTd := Lib.hid HT0.out.gone
            go_upto_region 18 with (fail)
            generalize w5.setCell ⟨Mb, 0, none⟩ (.slice none 0 0) = w6 at *
            go_upto_region 44 with (first
              | (go_at_call 16; ((with_reducible refine (play_drop HTd.out).mono ?_); rintro e w7 ⟨rfl, hT7⟩; have HT7 := Lib.hid hT7; clear hT7))
              | (go_at_call 17; ((with_reducible refine (play_hits HT7.out).mono ?_); rintro e w8 ⟨rfl, hT8⟩; have HT8 := Lib.hid hT8; clear hT8)))
            obtain ⟨n0, nf⟩ := HT8.out.m0
            have HT9 := Lib.hid (HT8.out.same (w' := w8.drew) rfl (Below.refl _ _).drew)
            clear hcv m0 mf x0 x1 x2 e0 e1 e2 e3
            go_region_held3 (fun w' => w'.cell? ⟨Mb, 0, none⟩ = some (.slice none 0 0)) (first | exact n0)
              (first
                | (go_at_call 12; (with_reducible refine (play_len HT9.out).mono ?_); rintro e w9 ⟨rfl, rfl⟩)
                | fail)
            all_goals
              go_wp2
              exact ⟨⟨k + 1, s, [], _, f, m, by omega, rfl, rfl, by go_num, by have := HS.out; omega, by simp, by omega, by omega, Lib.hid (HT9.out.less (Nat.le_refl _) (fun p hp => by simp at hp))⟩, by simp [intOf]; omega⟩
      · have hkl2 : (50 : Int) < kl := by omega
        go_wp2
        go_ret
        exact ⟨rfl, hbe.alloc hbe.size _⟩
    · go_wp2
      go_ret
      exact ⟨rfl, HT.out.be⟩
set_option maxRecDepth 20000 in
set_option maxHeartbeats 2000000 in
theorem walk_long (w : World) (mo r8 : Int) (a : Option Addr) (n c : Nat) (hn : 80 < n) : Calls Try.prog 5 #[.int .i64 mo, .int .u8 r8, .slice a n c] w fun e w' => e = .returned (.bool true) ∧ Below w.heap.size w w' := by
  have h : (80 : Int) < n := by omega
  go_enter Try.func5, Try.ntmps5
  have hb : Below w.heap.size w w := Below.refl _ _
  go_wp2_with (go_at_call 7; ((with_reducible refine (lives_any _).mono ?_); rintro e w1 ⟨rfl, h1⟩; replace hb := hb.trans (h1.mono hb.size); clear h1))
  go_ret
  exact ⟨rfl, hb⟩
set_option maxRecDepth 20000 in
set_option maxHeartbeats 2000000 in
theorem walk_bad (w : World) (mo r8 : Int) (rn : Nat) (fv : Value) (hr8 : r8.tmod 3 = (rn : Int)) (hrn : rn < 3)
    (hfv : ∀ w1 : World, (w1.alloc (.cells #[.nilFunc, .func (.func 9) #[] #[], .func (.func 14) #[] #[]] 39)).cell? ⟨w1.heap.size, rn, none⟩ = some fv)
    (a : Option Addr) (n c : Nat) (hn : n ≤ 80) (hmo : mo < 1 ∨ 65536 < mo) : Calls Try.prog 5 #[.int .i64 mo, .int .u8 r8, .slice a n c] w fun e w' => e = .returned (.bool true) ∧ Below w.heap.size w w' := by
  have hne : ¬ (80 : Int) < n := by omega
  have hrw : IntKind.u8.wrap (rn : Int) = (rn : Int) := by rw [IntKind.wrap_u8]; omega
  have hr3 : (rn : Int) < 3 := by omega
  have HMO := Lib.hid hmo
  by_cases h1 : mo < 1
  · go_enter Try.func5, Try.ntmps5
    go_wp2_with (first
      | (go_at_call 7; ((with_reducible refine (lives_any _).mono ?_); rintro e w1 ⟨rfl, hb1⟩))
      | (go_at_call 8; ((with_reducible refine (new_no _ _ _ HMO.out).mono ?_); rintro e w3 ⟨rfl, rfl⟩)))
    go_ret
    exact ⟨rfl, hb1.alloc hb1.size _⟩
  · have h2 : 65536 < mo := by omega
    go_enter Try.func5, Try.ntmps5
    go_wp2_with (first
      | (go_at_call 7; ((with_reducible refine (lives_any _).mono ?_); rintro e w1 ⟨rfl, hb1⟩))
      | (go_at_call 8; ((with_reducible refine (new_no _ _ _ HMO.out).mono ?_); rintro e w3 ⟨rfl, rfl⟩)))
    go_ret
    exact ⟨rfl, hb1.alloc hb1.size _⟩
set_option maxRecDepth 20000 in
set_option maxHeartbeats 2000000 in
theorem walk_zero (N : Nat) (w : World) (mo r8 : Int) (rn : Nat) (fv : Value) (hr8 : r8.tmod 3 = (rn : Int)) (hrn : rn < 3)
    (hfv : ∀ w1 : World, (w1.alloc (.cells #[.nilFunc, .func (.func 9) #[] #[], .func (.func 14) #[] #[]] 39)).cell? ⟨w1.heap.size, rn, none⟩ = some fv)
    (NEW : Hid (∀ w1 : World, Calls Try.prog 8 #[.int .i64 mo, fv] w1 fun e w' => e = .returned (.tuple #[.pointer (some ⟨w1.heap.size + 1, 0, none⟩), .int .i64 0]) ∧ Laid w1 w' mo N))
    (a : Option Addr) (c : Nat) (hmo : 1 ≤ mo ∧ mo ≤ 65536) : Calls Try.prog 5 #[.int .i64 mo, .int .u8 r8, .slice a 0 c] w fun e w' => e = .returned (.bool true) ∧ Below w.heap.size w w' := by
  have hm1 : ¬ mo < 1 := by omega
  have hm2 : ¬ 65536 < mo := by omega
  have hrw : IntKind.u8.wrap (rn : Int) = (rn : Int) := by rw [IntKind.wrap_u8]; omega
  have hr3 : (rn : Int) < 3 := by omega
  go_enter Try.func5, Try.ntmps5
  go_wp2_with (first
    | (go_at_call 7; ((with_reducible refine (lives_any _).mono ?_); rintro e w1 ⟨rfl, hb1⟩))
    | (go_at_call 8; ((with_reducible refine (NEW.out _).mono ?_); rintro e w3 ⟨rfl, hl⟩)))
  have hb2 : Below w.heap.size w (w1.alloc (.cells #[.nilFunc, .func (.func 9) #[] #[], .func (.func 14) #[] #[]] 39)) := hb1.alloc hb1.size _
  have hb3 : Below w.heap.size w (w3.alloc (.cells #[.slice none 0 0] 41)) := ((hb2.trans (hl.2.1.mono hb2.size)).alloc (by have := hb2.size; have := hl.2.2; omega) _)
  generalize w3.alloc (.cells #[.slice none 0 0] 41) = w4 at *
  generalize w3.heap.size = Mb at *
  generalize w1.heap.size + 1 + 1 = K at *
  clear hl hb1 hb2 hr8 hfv hrw hr3 hrn NEW
  go_loopw [61] (fun i wr => i = .int .i64 0 ∧ wr = w4) (fun _ _ => 0)
  case atStart => exact ⟨rfl, rfl⟩
  case round =>
    obtain ⟨rfl, rfl⟩ := hrel
    go_wp2
    go_ret
    exact ⟨rfl, hb3⟩
theorem pick (mo r8 : Int) (h8 : 0 ≤ r8) (hmo : 1 ≤ mo ∧ mo ≤ 65536) : ∃ (N : Nat) (H : List Int → Int) (rn : Nat) (fv : Value), PutC N H ∧ GetS N H ∧ GetN N H ∧ r8.tmod 3 = (rn : Int) ∧ rn < 3 ∧
    (∀ w1 : World, (w1.alloc (.cells #[.nilFunc, .func (.func 9) #[] #[], .func (.func 14) #[] #[]] 39)).cell? ⟨w1.heap.size, rn, none⟩ = some fv) ∧
    (∀ w1 : World, Calls Try.prog 8 #[.int .i64 mo, fv] w1 fun e w' => e = .returned (.tuple #[.pointer (some ⟨w1.heap.size + 1, 0, none⟩), .int .i64 0]) ∧ Laid w1 w' mo N) := by
  have hr : r8.tmod 3 = r8 % 3 := Int.tmod_eq_emod_of_nonneg h8
  have h3 : r8 % 3 = 0 ∨ r8 % 3 = 1 ∨ r8 % 3 = 2 := by omega
  rcases h3 with h | h | h
  · exact ⟨13, keepHashes.hashI, 0, .nilFunc, putC13, getS13, getN13, by rw [hr, h]; rfl, by omega, fun w1 => by rw [cell_of_row _ _ 0 _ 39 _ (heap_alloc_new w1 _)]; rfl, fun w1 => new_ok13 w1 mo hmo⟩
  · exact ⟨9, fun _ => 7, 1, _, putC9, getS9, getN9, by rw [hr, h]; rfl, by omega, fun w1 => by rw [cell_of_row _ _ 1 _ 39 _ (heap_alloc_new w1 _)]; rfl, fun w1 => new_ok9 w1 mo hmo⟩
  · exact ⟨14, hash1, 2, _, putC14, getS14, getN14, by rw [hr, h]; rfl, by omega, fun w1 => by rw [cell_of_row _ _ 2 _ 39 _ (heap_alloc_new w1 _)]; rfl, fun w1 => new_ok14 w1 mo hmo⟩
theorem pick_bad (r8 : Int) (h8 : 0 ≤ r8) : ∃ (rn : Nat) (fv : Value), r8.tmod 3 = (rn : Int) ∧ rn < 3 ∧
    (∀ w1 : World, (w1.alloc (.cells #[.nilFunc, .func (.func 9) #[] #[], .func (.func 14) #[] #[]] 39)).cell? ⟨w1.heap.size, rn, none⟩ = some fv) := by
  obtain ⟨N, H, rn, fv, -, -, -, h1, h2, h3, -⟩ := pick 1 r8 h8 (by omega)
  exact ⟨rn, fv, h1, h2, h3⟩
theorem own : ownKnob Try.prog.godebug = none := by kernel_rfl
theorem laidOut : laidOutB Try.prog = true := by kernel_rfl
set_option maxRecDepth 100000 in
theorem lifted (os : Os) (started : os.Started) (H : Type) (enc : TypeId × Value → H) :
    ReturnsInHanded {} Try.checked os 5 .any (Rows.keepPlaysSpec.pre6 enc Try.prog Try.f5 Rows.keepPlaysRow.domain false) (Rows.keepPlaysSpec.post enc Try.prog Try.f5 false true false false) := by
  refine returnsInHanded_of_change (C := Try.checked) own started (by kernel_rfl) Try.func5
    (ChangeSpec.witness6 (enc := enc) (C := Try.checked) false ⟨#[], #[.int .i64 0, .int .u8 0, .slice none 0 0], []⟩ 8 (by kernel_rfl) (by kernel_rfl) (by kernel_rfl) (by kernel_rfl)) ?_
  intro W base args ds gs before hval0 hW hcnd _
  have hval : ∀ (j : Nat) t v, Try.f5.params[j]? = some t → args[j]? = some v → Value.okWide Try.prog W .any base t v := hval0
  have hW' := hW
  obtain ⟨p, q, hA0, hV, rfl, hfz, hnd⟩ := hW
  have hA : DataW.TrodAll enc Try.prog W 0 (fun _ => true) true Try.f5.params.toList args.toList ds p := hA0
  rw [Try.params5] at hA hval
  obtain ⟨v0, vs0, d0, ds0, p0, q0, hargs, rfl, rfl, h0, r0⟩ := trodAll_cons hA
  obtain ⟨v1, vs1, d1, ds1, p1, q1, rfl, rfl, rfl, h1, r1⟩ := trodAll_cons r0
  obtain ⟨v2, vs2, d2, ds2, p2, q2, rfl, rfl, rfl, h2, r2⟩ := trodAll_cons r1
  obtain ⟨rfl, rfl, rfl⟩ := trodAll_nil r2
  obtain rfl : args = #[v0, v1, v2] := by cases args; simp_all
  obtain ⟨rfl, rfl⟩ := trodVars_none hV
  obtain ⟨mo, rfl, rfl, rfl, _⟩ := open_int Try.underlying3 (hval 0 3 v0 rfl rfl) h0
  obtain ⟨r8, rfl, rfl, rfl, w1⟩ := open_int Try.underlying5 (hval 1 5 v1 rfl rfl) h1
  have hb8 := bounds_u8' w1
  obtain ⟨a1, n1, c1, rfl⟩ := okWide_slice Try.underlying22 (hval 2 22 v2 rfl rfl)
  obtain ⟨fuel, hf⟩ := h2
  have hend : Calls Try.prog 5 #[.int .i64 mo, .int .u8 r8, .slice a1 n1 c1] W fun r w' => r = .returned (.bool true) ∧ Below W.heap.size W w' := by
    rcases Nat.lt_or_ge 80 n1 with h80 | h80
    · exact walk_long W mo r8 a1 n1 c1 h80
    · by_cases hmo : 1 ≤ mo ∧ mo ≤ 65536
      · obtain ⟨N, HH, rn, fv, g1, g2, g3, g4, g5, g6, g7⟩ := pick mo r8 hb8.1 hmo
        rcases acts_of hf with rfl | ⟨b, off, A, rfl, hb, hA1, hacts⟩
        · exact walk_zero N W mo r8 rn fv g4 g5 g6 (Lib.hid g7) a1 c1 hmo
        · exact walk_acts N HH (Lib.hid g1) (Lib.hid g2) (Lib.hid g3) W mo r8 rn fv g4 g5 g6 (Lib.hid g7) b off n1 c1 A hmo h80 hA1 hb (Lib.hid hacts)
      · obtain ⟨rn, fv, g4, g5, g6⟩ := pick_bad r8 hb8.1
        exact walk_bad W mo r8 rn fv g4 g5 g6 a1 n1 c1 h80 (by omega)
  refine hend.mono fun e W' ⟨he, hg⟩ => ?_
  subst he
  exact ⟨_, rfl, law_post laidOut (by kernel_rfl) rfl rfl Try.underlying4 rfl hW' hg⟩
theorem proved : Rows.KeepPlaysSaid :=
  OpenClaim.holds_of_wide 5 Try.f5 rfl rfl rfl rfl rfl rfl rfl ⟨rfl, rfl, rfl, rfl, rfl⟩ rfl rfl rfl rfl rfl (by kernel_rfl) Try.func5 (by kernel_rfl)
    (of_decide_eq_true (by kernel_rfl)) (by unfold Func.isWrapper; first | (rw [if_pos (by decide +kernel)]; kernel_rfl) | (rw [if_neg (by decide +kernel)]; exact ⟨rfl, rfl⟩))
    (fun os started H enc _ => lifted os started H enc)
end Go.Proofs.Ytebldhppnacdjab.keepPlays
