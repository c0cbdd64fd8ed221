/- Walks: graph.Bytes of a graph that may be. Walks: bytes.Equal; graph.Normal, Bytes of what may not be; graph.At; graph.Same. Walks: graph.Same. Walks: ref08.Same, whatever the answer. -/
import Derived.Test.YtifilhkkgkihpaaGreatDoorGr13
import Derived.Test.YtifilhkkgkihpaaGreatDoorGr17
import Derived.Test.YtifilhkkgkihpaaGreatDoorGr22
import Derived.Test.YtifilhkkgkihpaaGreatDoorGr15
set_option linter.unusedSimpArgs false
set_option linter.unusedVariables false
set_option linter.unusedSimpArgs false
set_option linter.unusedVariables false
namespace Go.Proofs.YtifilhkkgkihpaaGreatDoor
open Go.RowKit
/-- bytes under way: v's own row, all from before w3 on unchanged, a head's box at Y. -/
structure BSt (w3 wr : World) (Y : Nat) (C : Array Value) (v : Value) (l : List UInt8) : Prop where
  own : BU wr w3.heap.size v l
  below : Below w3.heap.size w3 wr
  box : wr.heap[Y]? = some (.cells C 33 (0, 0))
section
variable {w3 wr w' : World} {Y : Nat} {C : Array Value} {v v' : Value} {l l' : List UInt8}
theorem BSt.apart (h : BSt w3 wr Y C v l) : v.ownBlock ≠ some Y := own_boxP h.own h.box (by decide)
theorem BSt.grow (h : BSt w3 wr Y C v l) (ho : BU w' w3.heap.size v' l') (hg : wr.grownBy w' v.ownBlock) : BSt w3 w' Y C v' l' where
  own := ho
  below := below_grow h.below hg h.below.size (fun g e => (h.own.lt g e).1)
  box := (hg.block Y (Array.getElem?_eq_some_iff.1 h.box).1 (fun e => h.apart e.symm)).trans h.box
theorem BSt.on (h : BSt w3 wr Y C v l) (hb : Below wr.heap.size wr w') : BSt w3 w' Y C v l where
  own := h.own.on hb
  below := h.below.trans (hb.mono h.below.size)
  box := (hb.block Y (Array.getElem?_eq_some_iff.1 h.box).1).trans h.box
theorem BSt.alloc (h : BSt w3 wr Y C v l) (o : Obj) : BSt w3 (wr.alloc o) Y C v l := h.on ((Below.refl _ _).alloc (Nat.le_refl _) o)
end
def BytesPost (w : World) (HS : List Hd) (root : Nat) (e : Ending) (w' : World) : Prop := ∃ (v : Value) (OS : List Hd), e = .returned (.tuple #[v, .int .i64 0]) ∧ BU w' w.heap.size v (bytesL OS) ∧ NormF HS root OS ∧ Below w.heap.size w w'
theorem BU.mono {w : World} {base base' : Nat} {v : Value} {l : List UInt8} (h : BU w base v l) (hb : base' ≤ base) : BU w base' v l := by
  refine ⟨h.1, ?_⟩
  rcases h.2 with r | ⟨g, cap, cur, e1, e2, e3⟩
  · exact .inl r
  · exact .inr ⟨g, cap, cur, e1, by omega, e3⟩
set_option maxRecDepth 20000 in
set_option maxHeartbeats 8000000 in
theorem bytes_ok (w : World) (la : Option Addr) (ln lc root : Nat) (HS : List Hd) (hH : HeadsIn w la ln HS) (hf : HS.all fewH = true) (h1 : root < ln) (h25 : ln ≤ 100) (hg : graphB (root : Int) HS = true) (hnc : ∀ x ∈ HS, x.na = none → x.nc = 0) :
    Calls Tryz.prog 34 #[.agg #[.slice la ln lc, .int .i64 (root : Int)]] w (BytesPost w HS root) := by
  have HOK := Lib.hid (OkHeads.of_graph hg).1
  have HFV := Lib.hid (few_v hH hf)
  have HLH : Hid (HS.length ≤ 100 ∧ root < HS.length) := Lib.hid (by have := hH.1; omega)
  have HX1 : Hid ((w.alloc (.cells #[.slice la ln lc, .int .i64 (root : Int)] 36)).heap[w.heap.size]? = some (.cells #[.slice la ln lc, .int .i64 (root : Int)] 36 (0, 0))) := Lib.hid (heap_alloc_new w _)
  have HB1 : Hid (Below w.heap.size w (w.alloc (.cells #[.slice la ln lc, .int .i64 (root : Int)] 36))) := Lib.hid ((Below.refl _ _).alloc (Nat.le_refl _) _)
  have HNO := Lib.hid (normal_ok (w.alloc (.cells #[.slice la ln lc, .int .i64 (root : Int)] 36)) la ln lc root HS (hH.on HB1.out) hf h1 h25 hg hnc)
  clear hH hf h1 hg hnc h25
  go_enter Tryz.func34, Tryz.ntmps34
  go_upto_region 1 with (fail)
  generalize (w.alloc (.cells #[.slice la ln lc, .int .i64 (root : Int)] 36)) = w1 at *
  have a0 : w1.cell? ⟨w.heap.size, 0, none⟩ = some (.slice la ln lc) := (by rw [cell_of_row _ _ 0 _ 36 _ HX1.out]; rfl)
  have a1 : w1.cell? ⟨w.heap.size, 1, none⟩ = some (.int .i64 (root : Int)) := (by rw [cell_of_row _ _ 1 _ 36 _ HX1.out]; rfl)
  go_upto_region 2 with (go_at_call 40; (with_reducible refine HNO.out.mono ?_); rintro e w2 ⟨g3, c3, OS, cl, ord, rfl, hg3, hH3, hO3, hcl3, hst3, hco3, hnp3, hll3, hb3⟩; have HG3 := Lib.hid hg3; have HH3 := Lib.hid hH3; have HNF : Hid (NormF HS root OS) := Lib.hid ⟨cl, ord, hst3, hco3, hnp3, hll3⟩; have HB2 := Lib.hid hb3; clear hg3 hH3 hO3 hcl3 hst3 hco3 hnp3 hll3 hb3)
  clear a0 a1
  have HX3 : Hid ((w2.alloc (.cells #[.slice (some ⟨g3, 0, none⟩) OS.length c3, .int .i64 0] 36)).heap[w2.heap.size]? = some (.cells #[.slice (some ⟨g3, 0, none⟩) OS.length c3, .int .i64 0] 36 (0, 0))) := Lib.hid (heap_alloc_new w2 _)
  have HB3 : Hid (Below w.heap.size w (w2.alloc (.cells #[.slice (some ⟨g3, 0, none⟩) OS.length c3, .int .i64 0] 36))) := Lib.hid ((HB1.out.trans (HB2.out.mono HB1.out.size)).alloc (Nat.le_trans HB1.out.size HB2.out.size) _)
  have HH4 : Hid (HeadsIn (w2.alloc (.cells #[.slice (some ⟨g3, 0, none⟩) OS.length c3, .int .i64 0] 36)) (some ⟨g3, 0, none⟩) OS.length OS) := Lib.hid (HH3.out.on ((Below.refl _ _).alloc (Nat.le_refl _) _))
  have HONE := Lib.hid (HNF.out.oks HOK.out HLH.out.1 HLH.out.2)
  have HFEW := Lib.hid (HNF.out.few HFV.out)
  have HOL := Lib.hid (HNF.out.le HOK.out HLH.out.1 HLH.out.2)
  obtain ⟨n, hn⟩ : ∃ n, OS.length = n := ⟨_, rfl⟩
  have HN := Lib.hid hn
  rw [hn] at HX3 HB3 HH4
  rw [hn]
  clear hn HH3 HX1 HB1 HNO
  have hn100 : n ≤ 100 := by have h1 := HOL.out; have h2 := HLH.out.1; have h3 := HN.out; omega
  generalize (w2.alloc (.cells #[.slice (some ⟨g3, 0, none⟩) n c3, .int .i64 0] 36)) = w3 at *
  have a0 : w3.cell? ⟨w2.heap.size, 0, none⟩ = some (.slice (some ⟨g3, 0, none⟩) n c3) := (by rw [cell_of_row _ _ 0 _ 36 _ HX3.out]; rfl)
  go_upto_region 6 with (fail)
  clear a0
  go_loopw [23, 6] (fun s23 s6 wr => ∃ (i : Nat) (v : Value), i ≤ n ∧ s23 = .int .i64 (i : Int) ∧ v = s6 ∧ Hid (BU wr w3.heap.size v (bytesL (OS.take i))) ∧ Hid (Below w3.heap.size w3 wr)) (fun s23 _ _ => n - (intOf s23).toNat)
  case atStart => exact ⟨0, .slice none 0 0, Nat.zero_le _, rfl, rfl, Lib.hid (BU.nil _ _), Lib.hid (Below.refl _ _)⟩
  case round =>
    obtain ⟨i, v, hi, rfl, rfl, HBU, HBR⟩ := hrel
    obtain ⟨w4, rfl⟩ : ∃ w4 : World, w4 = wr := ⟨_, rfl⟩
    have hwi : IntKind.i64.wrap ((i : Int) + 1) = (i : Int) + 1 := by rw [IntKind.wrap_i64]; omega
    have HLEN : Hid ((bytesL (OS.take i)).length ≤ i * 1300) := Lib.hid (by
      have := bytesL_len (OS := OS.take i) (fun x hx => HFEW.out x (List.mem_of_mem_take hx))
      have h2 : (OS.take i).length ≤ i := by simp; omega
      exact Nat.le_trans this (Nat.mul_le_mul_right _ h2))
    by_cases hin : i < n
    · have hin2 : (i : Int) < n := by omega
      obtain ⟨x, hx⟩ : ∃ x, OS[i]? = some x := ⟨_, List.getElem?_eq_getElem (by rw [HN.out]; exact hin)⟩
      have HXX := Lib.hid hx
      obtain ⟨g0, o0, he0, _, hc0⟩ := HH4.out.2.resolve_left (by omega)
      have HXO : Hid (HdOk w3 x) := Lib.hid (hc0 i x hx).ok
      obtain ⟨g, o, he, hgl, hc⟩ := (HH4.out.on HBR.out).2.resolve_left (by omega)
      cases he
      obtain ⟨c0, c1, c2, c3', _⟩ := hc i x hx
      have HON := Lib.hid (HONE.out x (List.mem_of_getElem? hx))
      have HFX := Lib.hid (HFEW.out x (List.mem_of_getElem? hx))
      simp only [Nat.zero_add] at c0 c1 c2 c3'
      clear hc hc0 he0 hx hgl
      go_upto_region 8 with (fail)
      clear c0 c1 c2 c3'
      have HS0 : Hid (BSt w3 (w4.alloc (.cells #[.int .i64 x.kd, .slice x.na x.nn x.nc, .slice x.ka x.kn x.kc, .bool x.op] 33)) w4.heap.size #[.int .i64 x.kd, .slice x.na x.nn x.nc, .slice x.ka x.kn x.kc, .bool x.op] v (bytesL (OS.take i))) := Lib.hid ⟨HBU.out.alloc _, HBR.out.alloc HBR.out.size _, heap_alloc_new w4 _⟩
      generalize (w4.alloc (.cells #[.int .i64 x.kd, .slice x.na x.nn x.nc, .slice x.ka x.kn x.kc, .bool x.op] 33)) = w5 at *
      have b0 : w5.cell? ⟨w4.heap.size, 0, none⟩ = some (.int .i64 x.kd) := (by rw [cell_of_row _ _ 0 _ 33 _ HS0.out.box]; rfl)
      have b3 : w5.cell? ⟨w4.heap.size, 3, none⟩ = some (.bool x.op) := (by rw [cell_of_row _ _ 3 _ 33 _ HS0.out.box]; rfl)
      have HSG := Lib.hid (sign_any w5 x.kd none 0 0 [] none 0 0 x.op ⟨rfl, .inl rfl⟩ (by decide) (fun s h => by cases h) (by obtain ⟨n, _, h⟩ := HON.out; exact (head_kind h).1))
      go_upto_region 9 with (go_at_call 70; (with_reducible refine HSG.out.mono ?_); rintro e w6 ⟨rfl, hb6⟩; have HB6 := Lib.hid hb6)
      clear b0 b3
      have HS1 := Lib.hid (HS0.out.on HB6.out)
      have HSZ : Hid ((signB x.kd x.op []).size ≤ 1) := Lib.hid (by show (signHead x.kd x.op).size ≤ 1; unfold signHead; split <;> exact Nat.le_refl 1)
      have HAP : Hid ((bytesL (OS.take i)).length + (signB x.kd x.op []).size ≤ 100000000) := Lib.hid (by have h1 := HLEN.out; have h2 := HSZ.out; omega)
      have HBW1 : Hid (w3.heap.size ≤ w6.heap.size) := Lib.hid HS1.out.below.size
      go_upto_region 10 with (at_builtin; refine wpList_bu_str rfl _ _ rfl w3.heap.size v _ rfl HS1.out.own _ rfl HAP.out HBW1.out ?_; intro v7 w7 ho7 hg7; have HS7 := Lib.hid (HS1.out.grow ho7 hg7); clear ho7 hg7)
      have b2 : w7.cell? ⟨w4.heap.size, 2, none⟩ = some (.slice x.ka x.kn x.kc) := (by rw [cell_of_row _ _ 2 _ 33 _ HS7.out.box]; rfl)
      go_upto_region 11 with (fail)
      clear b2
      obtain ⟨l7, hl7⟩ : ∃ l7, l7 = bytesL (OS.take i) ++ (signB x.kd x.op []).data.toList := ⟨_, rfl⟩
      rw [← hl7] at HS7
      have HL7 : Hid (l7.length ≤ i * 1300 + 1) := Lib.hid (by rw [hl7, List.length_append, bs_size]; have h1 := HLEN.out; have h2 := HSZ.out; omega)
      have HL7E := Lib.hid hl7
      have HKN : Hid (x.kn = x.KS.length ∧ x.nn = x.NS.length) := Lib.hid ⟨HXO.out.kids.1, HXO.out.names.1⟩
      have hkn : x.kn ≤ 20 := by rw [HKN.out.1]; exact HFX.out.2.1
      clear hl7
      go_loopw [39, 6] (fun s39 s6 wr => ∃ (j : Nat) (v : Value), j ≤ x.kn ∧ s39 = .int .i64 (j : Int) ∧ v = s6 ∧ Hid (BSt w3 wr w4.heap.size #[.int .i64 x.kd, .slice x.na x.nn x.nc, .slice x.ka x.kn x.kc, .bool x.op] v (l7 ++ kidsL x.NS 0 (x.KS.take j)))) (fun s39 _ _ => x.kn - (intOf s39).toNat)
      case atStart => exact ⟨0, v7, Nat.zero_le _, rfl, rfl, Lib.hid (by simpa [kidsL] using HS7.out)⟩
      case round =>
        clear HS7
        obtain ⟨j, v8, hj, rfl, rfl, HS8⟩ := hrel
        obtain ⟨w8, rfl⟩ : ∃ w8 : World, w8 = wr := ⟨_, rfl⟩
        have hwj : IntKind.i64.wrap ((j : Int) + 1) = (j : Int) + 1 := by rw [IntKind.wrap_i64]; omega
        have HLJ : Hid ((l7 ++ kidsL x.NS 0 (x.KS.take j)).length ≤ i * 1300 + 1 + j * 64) := Lib.hid (by
          rw [List.length_append]
          have h1 := HL7.out
          have h2 := kidsL_len HFX.out.1 (x.KS.take j) 0
          have h3 : (x.KS.take j).length ≤ j := by simp; omega
          have h4 := Nat.mul_le_mul_right 64 h3
          omega)
        by_cases hjk : j < x.kn
        · have hjk2 : (j : Int) < x.kn := by omega
          obtain ⟨q, hq⟩ : ∃ q, x.KS[j]? = some q := ⟨_, List.getElem?_eq_getElem (by rw [← HKN.out.1]; exact hjk)⟩
          have HQ := Lib.hid hq
          have hqr := HON.out.kids q (List.mem_of_getElem? hq)
          obtain ⟨k, rfl⟩ : ∃ k : Nat, q = (k : Int) := ⟨q.toNat, (Int.toNat_of_nonneg hqr.1).symm⟩
          have HK9 : Hid (k < 100) := Lib.hid (by omega)
          obtain ⟨gk, ok, hke, hgk, hck⟩ := (HXO.out.kids.on HS8.out.below).2.resolve_left (by omega)
          have kc := hck j _ hq
          have b1 : w8.cell? ⟨w4.heap.size, 1, none⟩ = some (.slice x.na x.nn x.nc) := (by rw [cell_of_row _ _ 1 _ 33 _ HS8.out.box]; rfl)
          have HBW8 : Hid (w3.heap.size ≤ w8.heap.size) := Lib.hid HS8.out.below.size
          clear hck hq hqr hgk
          have HNN := Lib.hid HON.out.names
          rcases Nat.eq_zero_or_pos x.nn with h0 | h0
          · have h0' : ¬ (0 : Int) < x.nn := by omega
            have HNE : Hid (x.NS[j]? = none) := Lib.hid (List.getElem?_eq_none (by have := HKN.out.2; omega))
            clear h0
            have HLA : Hid ((l7 ++ kidsL x.NS 0 (x.KS.take j)).length ≤ 1000000) := Lib.hid (by have := HLJ.out; omega)
            have HAI := Lib.hid (appI_any w8 w3.heap.size v8 _ k HK9.out HS8.out.own HLA.out HBW8.out)
            generalize x.ka = ka at *
            subst hke
            go_wp2_with (first
              | (go_at_call 71; (with_reducible refine HAI.out.mono ?_); rintro e w9 ⟨v9, rfl, ho9, hg9⟩; have HS9 := Lib.hid (HS8.out.grow ho9 hg9); clear ho9 hg9)
              | (at_builtin; refine wpList_bu_byte rfl _ _ rfl w3.heap.size v9 _ rfl (HS9.out.alloc (.cells #[.int .u8 44] 5)).own w9.heap.size 1 44 rfl (heap_alloc_new w9 (.cells #[.int .u8 44] 5)) (by have h1 := HLJ.out; have h2 := decL_len k; simp only [List.length_append] at h1 ⊢; omega) (HS9.out.alloc (.cells #[.int .u8 44] 5)).below.size ?_; intro v10 w10 ho10 hg10; have HS10 := Lib.hid ((HS9.out.alloc (.cells #[.int .u8 44] 5)).grow ho10 hg10); clear ho10 hg10))
            go_roundw
            case rel => exact ⟨j + 1, v10, by omega, by go_num, rfl, Lib.hid (by
              have h := HS10.out
              rw [kidsL_step HQ.out]
              unfold kidL
              rw [HNE.out]
              simpa [List.append_assoc] using h)⟩
            case measure => simp [intOf]; omega
          · have h0' : (0 : Int) < x.nn := by omega
            obtain ⟨s, hs⟩ : ∃ s, x.NS[j]? = some s := ⟨_, List.getElem?_eq_getElem (by
              have h1 := HKN.out
              rcases HNN.out with h2 | h2
              · rw [h2] at h1; simp at h1; omega
              · omega)⟩
            have HSS := Lib.hid hs
            have HSL := Lib.hid (HFX.out.1 s (List.mem_of_getElem? hs))
            have hjn : j < x.nn := by rw [HKN.out.2]; exact (List.getElem?_eq_some_iff.1 hs).1
            have hjn2 : (j : Int) < x.nn := by omega
            obtain ⟨gn, on, hne, hgn, hcn⟩ := (HXO.out.names.on HS8.out.below).2.resolve_left (by omega)
            have nc := hcn j s hs
            clear hcn hs hgn
            have HLA : Hid ((l7 ++ kidsL x.NS 0 (x.KS.take j)).length + s.size ≤ 100000000) := Lib.hid (by have h1 := HLJ.out; have h2 := HSL.out; omega)
            generalize x.ka = ka at *
            subst hke
            generalize x.na = na at *
            subst hne
            go_wp2_with (first
              | (at_builtin; refine wpList_bu_str rfl _ _ rfl w3.heap.size v8 _ rfl HS8.out.own s rfl HLA.out HBW8.out ?_; intro va wa hoa hga; have HSA := Lib.hid (HS8.out.grow hoa hga); clear hoa hga)
              | (at_builtin; refine wpList_bu_byte rfl _ _ rfl w3.heap.size va _ rfl (HSA.out.alloc (.cells #[.int .u8 58] 5)).own wa.heap.size 1 58 rfl (heap_alloc_new wa (.cells #[.int .u8 58] 5)) (by have h1 := HLJ.out; have h2 := HSL.out; simp only [List.length_append, bs_size] at h1 ⊢; omega) (HSA.out.alloc (.cells #[.int .u8 58] 5)).below.size ?_; intro vb wb hob hgb; have HSB := Lib.hid ((HSA.out.alloc (.cells #[.int .u8 58] 5)).grow hob hgb); have HAI := Lib.hid (appI_any wb w3.heap.size vb _ k HK9.out HSB.out.own (by have h1 := HLJ.out; have h2 := HSL.out; simp only [List.length_append, bs_size, List.length_cons, List.length_nil] at h1 ⊢; omega) HSB.out.below.size); clear hob hgb)
              | (go_at_call 71; (with_reducible refine HAI.out.mono ?_); rintro e w9 ⟨v9, rfl, ho9, hg9⟩; have HS9 := Lib.hid (HSB.out.grow ho9 hg9); clear ho9 hg9)
              | (at_builtin; refine wpList_bu_byte rfl _ _ rfl w3.heap.size v9 _ rfl (HS9.out.alloc (.cells #[.int .u8 44] 5)).own w9.heap.size 1 44 rfl (heap_alloc_new w9 (.cells #[.int .u8 44] 5)) (by have h1 := HLJ.out; have h2 := decL_len k; have h3 := HSL.out; simp only [List.length_append, bs_size, List.length_cons, List.length_nil] at h1 ⊢; omega) (HS9.out.alloc (.cells #[.int .u8 44] 5)).below.size ?_; intro v10 w10 ho10 hg10; have HS10 := Lib.hid ((HS9.out.alloc (.cells #[.int .u8 44] 5)).grow ho10 hg10); clear ho10 hg10))
            go_roundw
            case rel => exact ⟨j + 1, v10, by omega, by go_num, rfl, Lib.hid (by
              have h := HS10.out
              rw [kidsL_step HQ.out]
              unfold kidL
              rw [HSS.out]
              simpa [List.append_assoc] using h)⟩
            case measure => simp [intOf]; omega
        · have hjk2 : ¬ (j : Int) < x.kn := by omega
          obtain rfl : j = x.kn := by omega
          have HTK : Hid (x.KS.take x.kn = x.KS) := Lib.hid (List.take_of_length_le (by rw [HKN.out.1]; exact Nat.le_refl _))
          rw [HTK.out] at HS8 HLJ
          go_wp2_with (at_builtin; refine wpList_bu_byte rfl _ _ rfl w3.heap.size v8 _ rfl (HS8.out.alloc (.cells #[.int .u8 59] 5)).own w8.heap.size 1 59 rfl (heap_alloc_new w8 (.cells #[.int .u8 59] 5)) (by have h1 := HLJ.out; omega) (HS8.out.alloc (.cells #[.int .u8 59] 5)).below.size ?_; intro v10 w10 ho10 hg10; have HS10 := Lib.hid ((HS8.out.alloc (.cells #[.int .u8 59] 5)).grow ho10 hg10); clear ho10 hg10)
          go_roundw
          case rel => exact ⟨i + 1, v10, by omega, by go_num, rfl, Lib.hid (by
            have h := HS10.out.own
            rw [HL7E.out] at h
            rw [bytesL_step HXX.out]
            unfold rowL
            simpa [signB, List.append_assoc] using h), Lib.hid HS10.out.below⟩
          case measure => simp [intOf]; omega
    · have hin2 : ¬ (i : Int) < n := by omega
      obtain rfl : i = n := by omega
      have HTK : Hid (OS.take i = OS) := Lib.hid (List.take_of_length_le (by rw [HN.out]; exact Nat.le_refl _))
      rw [HTK.out] at HBU
      go_wp2
      go_ret2
      exact ⟨v, OS, rfl, HBU.out.mono HB3.out.size, HNF.out, HB3.out.trans (HBR.out.mono HB3.out.size)⟩
end Go.Proofs.YtifilhkkgkihpaaGreatDoor
set_option linter.unusedSimpArgs false
set_option linter.unusedVariables false
namespace Go.Proofs.YtifilhkkgkihpaaGreatDoor
open Go.RowKit
/-- a text of bytes. -/
def strB (l : List UInt8) : ByteArray := ⟨l.toArray⟩
theorem strB_inj {l m : List UInt8} : strB l = strB m ↔ l = m := by
  constructor
  · intro h
    have := congrArg (fun s : ByteArray => s.data.toList) h
    simpa [strB] using this
  · intro h; rw [h]
theorem strB_nums (l : List UInt8) : strOfNums (l.map fun b => (b.toNat : Int)) = strB l := by
  unfold strOfNums strB
  congr 1
  rw [List.map_map]
  congr 1
  refine (List.map_congr_left fun b _ => ?_).trans (List.map_id l)
  simp
theorem bu_conv {w : World} {base : Nat} {v : Value} {l : List UInt8} (h : BU w base v l) : (convert 56 9 v).run Tryz.prog w = .ok (.string (strB l)) w := by
  rcases h.2 with ⟨rfl, h0⟩ | ⟨g, cap, cur, rfl, e2, e3, e4, e5, e6, e7⟩
  · obtain rfl : l = [] := List.length_eq_zero_iff.1 h0
    exact run_convert_bytes_nil w 56 5 Tryz.underlying56 Tryz.underlying5 0 0 9 Tryz.underlying9
  · rw [← strB_nums]
    refine run_convert_bytes_arg w 56 5 Tryz.underlying56 Tryz.underlying5 g 0 l.length cap _ (by simp) (fun i hi => ?_) 9 Tryz.underlying9
    rw [Nat.zero_add, cell_of_row w g i _ 5 _ e3]
    refine row_at e7 ?_
    unfold bcells
    rw [List.getElem?_map, List.getElem?_eq_getElem hi]
    simp [List.getD, List.getElem?_eq_getElem hi]
def EqPost (w : World) (l m : List UInt8) (e : Ending) (w' : World) : Prop := e = .returned (.bool (decide (l = m))) ∧ w' = w
set_option maxRecDepth 20000 in
theorem equal_any (w : World) (base base' : Nat) (v v' : Value) (l m : List UInt8) (h : BU w base v l) (h' : BU w base' v' m) : Calls Tryz.prog 73 #[v, v'] w (EqPost w l m) := by
  have hc1 := bu_conv h
  have hc2 := bu_conv h'
  have HE : Hid ((strB l = strB m) = (l = m)) := Lib.hid (propext strB_inj)
  clear h h'
  generalize strB l = s at *
  generalize strB m = t at *
  go_enter Tryz.func73, Tryz.ntmps73
  go_wp2
  go_ret
  refine ⟨?_, rfl⟩
  congr 2
  have := HE.out
  by_cases hst : s = t
  · rw [decide_eq_true (this ▸ hst : l = m)]; simp [hst]
  · rw [decide_eq_false (fun e => hst (this ▸ e : s = t))]
    simp
    exact fun e => hst (toList_inj e)
def NBadPost (w : World) (e : Ending) (w' : World) : Prop := e = .returned (.tuple #[.agg #[.slice none 0 0, .int .i64 0], .int .i64 14]) ∧ Below w.heap.size w w'
set_option maxRecDepth 20000 in
set_option maxHeartbeats 4000000 in
theorem normal_bad (w : World) (la : Option Addr) (ln lc : Nat) (root : Int) (HS : List Hd) (hH : HeadsIn w la ln HS) (hln : (ln : Int) ≤ maxLen) (hg : graphB root HS = false) :
    Calls Tryz.prog 40 #[.agg #[.slice la ln lc, .int .i64 root]] w (NBadPost w) := by
  have hb0 : Below w.heap.size w (w.alloc (.cells #[.slice la ln lc, .int .i64 root] 36)) := (Below.refl _ _).alloc (Nat.le_refl _) _
  have HB0 : Hid (Below w.heap.size w ((w.alloc (.cells #[.slice la ln lc, .int .i64 root] 36)).alloc (.cells #[.slice none 0 0, .int .i64 0] 36))) := Lib.hid (hb0.alloc hb0.size _)
  have HX1 : Hid (((w.alloc (.cells #[.slice la ln lc, .int .i64 root] 36)).alloc (.cells #[.slice none 0 0, .int .i64 0] 36)).heap[w.heap.size]? = some (.cells #[.slice la ln lc, .int .i64 root] 36 (0, 0))) := Lib.hid (by rw [Below.heap_alloc _ _ _ (by simp)]; exact heap_alloc_new w _)
  have HX2 : Hid (((w.alloc (.cells #[.slice la ln lc, .int .i64 root] 36)).alloc (.cells #[.slice none 0 0, .int .i64 0] 36)).heap[w.heap.size + 1]? = some (.cells #[.slice none 0 0, .int .i64 0] 36 (0, 0))) := Lib.hid (by
    have := heap_alloc_new (w.alloc (.cells #[.slice la ln lc, .int .i64 root] 36)) (.cells #[.slice none 0 0, .int .i64 0] 36)
    simpa using this)
  have HCK := Lib.hid (check_any _ la ln lc root HS (hH.on HB0.out) hln)
  rw [hg] at HCK
  clear hb0 hH hg
  go_enter Tryz.func40, Tryz.ntmps40
  go_upto_region 1 with (fail)
  generalize ((w.alloc (.cells #[.slice la ln lc, .int .i64 root] 36)).alloc (.cells #[.slice none 0 0, .int .i64 0] 36)) = w1 at *
  have HL1 : Hid (w.heap.size + 1 < w1.heap.size) := Lib.hid (Array.getElem?_eq_some_iff.1 HX2.out).1
  have a0 : w1.cell? ⟨w.heap.size, 0, none⟩ = some (.slice la ln lc) := (by rw [cell_of_row _ _ 0 _ 36 _ HX1.out]; rfl)
  have a1 : w1.cell? ⟨w.heap.size, 1, none⟩ = some (.int .i64 root) := (by rw [cell_of_row _ _ 1 _ 36 _ HX1.out]; rfl)
  go_wp2_with (first
    | (go_at_call 38; (with_reducible refine HCK.out.mono ?_); rintro e w2 ⟨rfl, hb2⟩; have HB2 := Lib.hid hb2; have HX3 := Lib.hid ((hb2.block _ HL1.out).trans HX2.out); clear hb2)
    | (refine wpList_store_row rfl 36 _ _ rfl (w.heap.size + 1) _ rfl rfl 36 _ HX3.out (by kernel_rfl) rfl (by simp [Value.oneCell']) ?_))
  (try simp only [Exit.inBlock, Exit.then])
  exact bodyPost_ret (v := .tuple #[.agg #[.slice none 0 0, .int .i64 0], .int .i64 14]) (results_24 (fn := Tryz.f40) (p := 2) (u := 3) rfl _ _ (w.heap.size + 1) _ rfl (setRow_heap _ _ _ _ _ _ HX3.out) rfl) rfl
    ⟨rfl, below_row (HB0.out.trans (HB2.out.mono HB0.out.size)) (by omega)⟩
def BBadPost (w : World) (e : Ending) (w' : World) : Prop := e = .returned (.tuple #[.slice none 0 0, .int .i64 14]) ∧ Below w.heap.size w w'
set_option maxRecDepth 20000 in
set_option maxHeartbeats 4000000 in
theorem bytes_bad (w : World) (la : Option Addr) (ln lc : Nat) (root : Int) (HS : List Hd) (hH : HeadsIn w la ln HS) (hln : (ln : Int) ≤ maxLen) (hg : graphB root HS = false) :
    Calls Tryz.prog 34 #[.agg #[.slice la ln lc, .int .i64 root]] w (BBadPost w) := by
  have HX1 : Hid ((w.alloc (.cells #[.slice la ln lc, .int .i64 root] 36)).heap[w.heap.size]? = some (.cells #[.slice la ln lc, .int .i64 root] 36 (0, 0))) := Lib.hid (heap_alloc_new w _)
  have HB1 : Hid (Below w.heap.size w (w.alloc (.cells #[.slice la ln lc, .int .i64 root] 36))) := Lib.hid ((Below.refl _ _).alloc (Nat.le_refl _) _)
  have HNO := Lib.hid (normal_bad (w.alloc (.cells #[.slice la ln lc, .int .i64 root] 36)) la ln lc root HS (hH.on HB1.out) hln hg)
  clear hH hg
  go_enter Tryz.func34, Tryz.ntmps34
  go_upto_region 1 with (fail)
  generalize (w.alloc (.cells #[.slice la ln lc, .int .i64 root] 36)) = w1 at *
  have a0 : w1.cell? ⟨w.heap.size, 0, none⟩ = some (.slice la ln lc) := (by rw [cell_of_row _ _ 0 _ 36 _ HX1.out]; rfl)
  have a1 : w1.cell? ⟨w.heap.size, 1, none⟩ = some (.int .i64 root) := (by rw [cell_of_row _ _ 1 _ 36 _ HX1.out]; rfl)
  go_wp2_with (go_at_call 40; (with_reducible refine HNO.out.mono ?_); rintro e w2 ⟨rfl, hb2⟩; have HB2 := Lib.hid hb2; clear hb2)
  go_ret2
  exact ⟨rfl, (HB1.out.trans (HB2.out.mono HB1.out.size)).alloc (Nat.le_trans HB1.out.size HB2.out.size) _⟩
def GAtPost (w : World) (HS : List Hd) (i : Nat) (e : Ending) (w' : World) : Prop := ∃ (OS : List Hd) (g c : Nat), e = .returned (.tuple #[.agg #[.slice (some ⟨g, 0, none⟩) OS.length c, .int .i64 0], .int .i64 0]) ∧ NormF HS i OS ∧ HeadsIn w' (some ⟨g, 0, none⟩) OS.length OS ∧ (∀ x ∈ OS, (x.na = none → x.nc = 0)) ∧ Below w.heap.size w w'
def ANonePost (w : World) (k : Int) (e : Ending) (w' : World) : Prop := e = .returned (.tuple #[.agg #[.slice none 0 0, .int .i64 0], .int .i64 k]) ∧ Below w.heap.size w w'
set_option maxRecDepth 20000 in
set_option maxHeartbeats 4000000 in
theorem gat_ok (w : World) (la : Option Addr) (ln lc : Nat) (root : Int) (i : Nat) (HS : List Hd) (hH : HeadsIn w la ln HS) (hf : HS.all fewH = true) (h1 : i < ln) (h25 : ln ≤ 100) (hg : graphB root HS = true) (hnc : ∀ x ∈ HS, x.na = none → x.nc = 0) :
    Calls Tryz.prog 41 #[.agg #[.slice la ln lc, .int .i64 root], .int .i64 (i : Int)] w (GAtPost w HS i) := by
  have hb0 : Below w.heap.size w (w.alloc (.cells #[.slice la ln lc, .int .i64 root] 36)) := (Below.refl _ _).alloc (Nat.le_refl _) _
  have HB0 : Hid (Below w.heap.size w ((w.alloc (.cells #[.slice la ln lc, .int .i64 root] 36)).alloc (.cells #[.slice none 0 0, .int .i64 0] 36))) := Lib.hid (hb0.alloc hb0.size _)
  have HX1 : Hid (((w.alloc (.cells #[.slice la ln lc, .int .i64 root] 36)).alloc (.cells #[.slice none 0 0, .int .i64 0] 36)).heap[w.heap.size]? = some (.cells #[.slice la ln lc, .int .i64 root] 36 (0, 0))) := Lib.hid (by rw [Below.heap_alloc _ _ _ (by simp)]; exact heap_alloc_new w _)
  have HX2 : Hid (((w.alloc (.cells #[.slice la ln lc, .int .i64 root] 36)).alloc (.cells #[.slice none 0 0, .int .i64 0] 36)).heap[w.heap.size + 1]? = some (.cells #[.slice none 0 0, .int .i64 0] 36 (0, 0))) := Lib.hid (by
    have := heap_alloc_new (w.alloc (.cells #[.slice la ln lc, .int .i64 root] 36)) (.cells #[.slice none 0 0, .int .i64 0] 36)
    simpa using this)
  have HCK := Lib.hid (check_any _ la ln lc root HS (hH.on HB0.out) (by unfold maxLen; omega))
  have HNR : Hid (∀ w', Below w.heap.size w w' → Calls Tryz.prog 77 #[.slice la ln lc, .int .i64 (i : Int)] w' (NormPost w' HS i)) := Lib.hid (fun w' hb => normal_any w' la ln lc i HS (hH.on hb) hf h1 h25 (OkHeads.of_graph hg).1 hnc)
  rw [hg] at HCK
  have hil : (i : Int) < ln := by omega
  have hil2 : ¬ (ln : Int) ≤ i := by omega
  have hi0 : ¬ (i : Int) < 0 := by omega
  clear hb0 hH hf hg hnc
  go_enter Tryz.func41, Tryz.ntmps41
  go_upto_region 1 with (fail)
  generalize ((w.alloc (.cells #[.slice la ln lc, .int .i64 root] 36)).alloc (.cells #[.slice none 0 0, .int .i64 0] 36)) = w1 at *
  have HL1 : Hid (w.heap.size + 1 < w1.heap.size) := Lib.hid (Array.getElem?_eq_some_iff.1 HX2.out).1
  have a0 : w1.cell? ⟨w.heap.size, 0, none⟩ = some (.slice la ln lc) := (by rw [cell_of_row _ _ 0 _ 36 _ HX1.out]; rfl)
  have a1 : w1.cell? ⟨w.heap.size, 1, none⟩ = some (.int .i64 root) := (by rw [cell_of_row _ _ 1 _ 36 _ HX1.out]; rfl)
  go_upto_region 4 with (go_at_call 38; (with_reducible refine HCK.out.mono ?_); rintro e w2 ⟨rfl, hb2⟩; have HB2 := Lib.hid hb2; clear hb2)
  have HX1' := Lib.hid ((HB2.out.block _ (by have := HL1.out; omega)).trans HX1.out)
  have HX2' := Lib.hid ((HB2.out.block _ HL1.out).trans HX2.out)
  have b0 : w2.cell? ⟨w.heap.size, 0, none⟩ = some (.slice la ln lc) := (by rw [cell_of_row _ _ 0 _ 36 _ HX1'.out]; rfl)
  have HBB : Hid (Below w.heap.size w w2) := Lib.hid (HB0.out.trans (HB2.out.mono HB0.out.size))
  have HN2 := Lib.hid (HNR.out w2 HBB.out)
  clear a0 a1
  go_wp2_with (first
    | (go_at_call 77; (with_reducible refine HN2.out.mono ?_); rintro e w3 ⟨g3, c3, OS, cl, ord, rfl, hg3, hH3, hO3, hcl3, hst3, hco3, hnp3, hll3, hb3⟩; have HG3 := Lib.hid hg3; have HH3 := Lib.hid hH3; have HO3 := Lib.hid hO3; have HNF : Hid (NormF HS i OS) := Lib.hid ⟨cl, ord, hst3, hco3, hnp3, hll3⟩; have HB3 := Lib.hid hb3; have HX3 := Lib.hid ((hb3.block _ (Nat.lt_of_lt_of_le HL1.out HB2.out.size)).trans HX2'.out); clear hg3 hH3 hO3 hcl3 hst3 hco3 hnp3 hll3 hb3)
    | (refine wpList_store_row rfl 36 _ _ rfl (w.heap.size + 1) _ rfl rfl 36 _ HX3.out (by kernel_rfl) rfl (by simp [Value.oneCell']) ?_))
  (try simp only [Exit.inBlock, Exit.then])
  have HSZ : Hid (w.heap.size + 1 < w2.heap.size) := Lib.hid (Nat.lt_of_lt_of_le HL1.out HB2.out.size)
  exact bodyPost_ret (v := .tuple #[.agg #[.slice (some ⟨g3, 0, none⟩) OS.length c3, .int .i64 0], .int .i64 0]) (results_24 (fn := Tryz.f41) (p := 4) (u := 5) rfl _ _ (w.heap.size + 1) _ rfl (setRow_heap _ _ _ _ _ _ HX3.out) rfl) rfl
    ⟨OS, g3, c3, rfl, HNF.out, HH3.out.row (w.heap.size + 1) _ (by have := HG3.out; have := HSZ.out; omega) (fun x hx ad e => by have := (HO3.out x hx).2.2 ad e; have := HSZ.out; omega), fun x hx => (HO3.out x hx).1, below_row (HBB.out.trans (HB3.out.mono HBB.out.size)) (by omega)⟩
set_option maxRecDepth 20000 in
set_option maxHeartbeats 4000000 in
theorem gat_none (w : World) (la : Option Addr) (ln lc : Nat) (root : Int) (i : Int) (HS : List Hd) (hH : HeadsIn w la ln HS) (hln : (ln : Int) ≤ maxLen) (hi : i < 0 ∨ (ln : Int) ≤ i) (hg : graphB root HS = true) :
    Calls Tryz.prog 41 #[.agg #[.slice la ln lc, .int .i64 root], .int .i64 i] w (ANonePost w 13) := by
  have hb0 : Below w.heap.size w (w.alloc (.cells #[.slice la ln lc, .int .i64 root] 36)) := (Below.refl _ _).alloc (Nat.le_refl _) _
  have HB0 : Hid (Below w.heap.size w ((w.alloc (.cells #[.slice la ln lc, .int .i64 root] 36)).alloc (.cells #[.slice none 0 0, .int .i64 0] 36))) := Lib.hid (hb0.alloc hb0.size _)
  have HX1 : Hid (((w.alloc (.cells #[.slice la ln lc, .int .i64 root] 36)).alloc (.cells #[.slice none 0 0, .int .i64 0] 36)).heap[w.heap.size]? = some (.cells #[.slice la ln lc, .int .i64 root] 36 (0, 0))) := Lib.hid (by rw [Below.heap_alloc _ _ _ (by simp)]; exact heap_alloc_new w _)
  have HX2 : Hid (((w.alloc (.cells #[.slice la ln lc, .int .i64 root] 36)).alloc (.cells #[.slice none 0 0, .int .i64 0] 36)).heap[w.heap.size + 1]? = some (.cells #[.slice none 0 0, .int .i64 0] 36 (0, 0))) := Lib.hid (by
    have := heap_alloc_new (w.alloc (.cells #[.slice la ln lc, .int .i64 root] 36)) (.cells #[.slice none 0 0, .int .i64 0] 36)
    simpa using this)
  have HCK := Lib.hid (check_any _ la ln lc root HS (hH.on HB0.out) hln)
  rw [hg] at HCK
  clear hb0 hH hg
  rcases hi with hi | hi
  all_goals
    go_enter Tryz.func41, Tryz.ntmps41
    go_upto_region 1 with (fail)
    generalize ((w.alloc (.cells #[.slice la ln lc, .int .i64 root] 36)).alloc (.cells #[.slice none 0 0, .int .i64 0] 36)) = w1 at *
    have HL1 : Hid (w.heap.size + 1 < w1.heap.size) := Lib.hid (Array.getElem?_eq_some_iff.1 HX2.out).1
    have a0 : w1.cell? ⟨w.heap.size, 0, none⟩ = some (.slice la ln lc) := (by rw [cell_of_row _ _ 0 _ 36 _ HX1.out]; rfl)
    have a1 : w1.cell? ⟨w.heap.size, 1, none⟩ = some (.int .i64 root) := (by rw [cell_of_row _ _ 1 _ 36 _ HX1.out]; rfl)
    have hi2 : ¬ i < 0 ∨ i < 0 := by omega
    go_wp2_with (first
      | (go_at_call 38; (with_reducible refine HCK.out.mono ?_); rintro e w2 ⟨rfl, hb2⟩; have HB2 := Lib.hid hb2; have HX3 := Lib.hid ((hb2.block _ HL1.out).trans HX2.out); have b0 : w2.cell? ⟨w.heap.size, 0, none⟩ = some (.slice la ln lc) := keepB hb2 (Nat.lt_of_succ_lt HL1.out) a0; clear hb2)
      | (refine wpList_store_row rfl 36 _ _ rfl (w.heap.size + 1) _ rfl rfl 36 _ HX3.out (by kernel_rfl) rfl (by simp [Value.oneCell']) ?_))
    (try simp only [Exit.inBlock, Exit.then])
    exact bodyPost_ret (v := .tuple #[.agg #[.slice none 0 0, .int .i64 0], .int .i64 13]) (results_24 (fn := Tryz.f41) (p := 4) (u := 5) rfl _ _ (w.heap.size + 1) _ rfl (setRow_heap _ _ _ _ _ _ HX3.out) rfl) rfl
      ⟨rfl, below_row (HB0.out.trans (HB2.out.mono HB0.out.size)) (by omega)⟩
set_option maxRecDepth 20000 in
set_option maxHeartbeats 4000000 in
theorem gat_bad (w : World) (la : Option Addr) (ln lc : Nat) (root : Int) (i : Int) (HS : List Hd) (hH : HeadsIn w la ln HS) (hln : (ln : Int) ≤ maxLen) (hg : graphB root HS = false) :
    Calls Tryz.prog 41 #[.agg #[.slice la ln lc, .int .i64 root], .int .i64 i] w (ANonePost w 14) := by
  have hb0 : Below w.heap.size w (w.alloc (.cells #[.slice la ln lc, .int .i64 root] 36)) := (Below.refl _ _).alloc (Nat.le_refl _) _
  have HB0 : Hid (Below w.heap.size w ((w.alloc (.cells #[.slice la ln lc, .int .i64 root] 36)).alloc (.cells #[.slice none 0 0, .int .i64 0] 36))) := Lib.hid (hb0.alloc hb0.size _)
  have HX1 : Hid (((w.alloc (.cells #[.slice la ln lc, .int .i64 root] 36)).alloc (.cells #[.slice none 0 0, .int .i64 0] 36)).heap[w.heap.size]? = some (.cells #[.slice la ln lc, .int .i64 root] 36 (0, 0))) := Lib.hid (by rw [Below.heap_alloc _ _ _ (by simp)]; exact heap_alloc_new w _)
  have HX2 : Hid (((w.alloc (.cells #[.slice la ln lc, .int .i64 root] 36)).alloc (.cells #[.slice none 0 0, .int .i64 0] 36)).heap[w.heap.size + 1]? = some (.cells #[.slice none 0 0, .int .i64 0] 36 (0, 0))) := Lib.hid (by
    have := heap_alloc_new (w.alloc (.cells #[.slice la ln lc, .int .i64 root] 36)) (.cells #[.slice none 0 0, .int .i64 0] 36)
    simpa using this)
  have HCK := Lib.hid (check_any _ la ln lc root HS (hH.on HB0.out) hln)
  rw [hg] at HCK
  clear hb0 hH hg
  go_enter Tryz.func41, Tryz.ntmps41
  go_upto_region 1 with (fail)
  generalize ((w.alloc (.cells #[.slice la ln lc, .int .i64 root] 36)).alloc (.cells #[.slice none 0 0, .int .i64 0] 36)) = w1 at *
  have HL1 : Hid (w.heap.size + 1 < w1.heap.size) := Lib.hid (Array.getElem?_eq_some_iff.1 HX2.out).1
  have a0 : w1.cell? ⟨w.heap.size, 0, none⟩ = some (.slice la ln lc) := (by rw [cell_of_row _ _ 0 _ 36 _ HX1.out]; rfl)
  have a1 : w1.cell? ⟨w.heap.size, 1, none⟩ = some (.int .i64 root) := (by rw [cell_of_row _ _ 1 _ 36 _ HX1.out]; rfl)
  go_wp2_with (first
    | (go_at_call 38; (with_reducible refine HCK.out.mono ?_); rintro e w2 ⟨rfl, hb2⟩; have HB2 := Lib.hid hb2; have HX3 := Lib.hid ((hb2.block _ HL1.out).trans HX2.out); clear hb2)
    | (refine wpList_store_row rfl 36 _ _ rfl (w.heap.size + 1) _ rfl rfl 36 _ HX3.out (by kernel_rfl) rfl (by simp [Value.oneCell']) ?_))
  (try simp only [Exit.inBlock, Exit.then])
  exact bodyPost_ret (v := .tuple #[.agg #[.slice none 0 0, .int .i64 0], .int .i64 14]) (results_24 (fn := Tryz.f41) (p := 4) (u := 5) rfl _ _ (w.heap.size + 1) _ rfl (setRow_heap _ _ _ _ _ _ HX3.out) rfl) rfl
    ⟨rfl, below_row (HB0.out.trans (HB2.out.mono HB0.out.size)) (by omega)⟩
end Go.Proofs.YtifilhkkgkihpaaGreatDoor
set_option linter.unusedSimpArgs false
set_option linter.unusedVariables false
namespace Go.Proofs.YtifilhkkgkihpaaGreatDoor
open Go.RowKit
/-- a graph that may be, little, as it lies. -/
structure GOk (w : World) (la : Option Addr) (ln root : Nat) (HS : List Hd) : Prop where
  heads : HeadsIn w la ln HS
  few : HS.all fewH = true
  rlt : root < ln
  len : ln ≤ 50
  ok : graphB (root : Int) HS = true
  nil : ∀ x ∈ HS, x.na = none → x.nc = 0
theorem GOk.on {w w' : World} {la : Option Addr} {ln root : Nat} {HS : List Hd} (h : GOk w la ln root HS) (hb : Below w.heap.size w w') : GOk w' la ln root HS := ⟨h.heads.on hb, h.few, h.rlt, h.len, h.ok, h.nil⟩
theorem GOk.oks {w : World} {la : Option Addr} {ln root : Nat} {HS : List Hd} (h : GOk w la ln root HS) : OkHeads HS := (OkHeads.of_graph h.ok).1
theorem GOk.lens {w : World} {la : Option Addr} {ln root : Nat} {HS : List Hd} (h : GOk w la ln root HS) : root < HS.length ∧ HS.length ≤ 50 := by have h1 := h.heads.1; have h2 := h.rlt; have h3 := h.len; omega
theorem GOk.bytes {w : World} {la : Option Addr} {ln lc root : Nat} {HS : List Hd} (h : GOk w la ln root HS) : Calls Tryz.prog 34 #[.agg #[.slice la ln lc, .int .i64 (root : Int)]] w (BytesPost w HS root) := bytes_ok w la ln lc root HS h.heads h.few h.rlt (by have := h.len; omega) h.ok h.nil
def SamePost (w : World) (A B : List Hd) (ra rb : Nat) (e : Ending) (w' : World) : Prop := ∃ b : Bool, e = .returned (.bool b) ∧ (b = true ↔ Bis A B ra rb) ∧ Below w.heap.size w w'
set_option maxRecDepth 20000 in
set_option maxHeartbeats 4000000 in
theorem gsame_ok (w : World) (la : Option Addr) (ln lc ra : Nat) (A : List Hd) (hA : GOk w la ln ra A) (lb : Option Addr) (lm ld rb : Nat) (B : List Hd) (hB : GOk w lb lm rb B) :
    Calls Tryz.prog 36 #[.agg #[.slice la ln lc, .int .i64 (ra : Int)], .agg #[.slice lb lm ld, .int .i64 (rb : Int)]] w (SamePost w A B ra rb) := by
  have hb0 : Below w.heap.size w (w.alloc (.cells #[.slice la ln lc, .int .i64 (ra : Int)] 36)) := (Below.refl _ _).alloc (Nat.le_refl _) _
  have HB0 : Hid (Below w.heap.size w ((w.alloc (.cells #[.slice la ln lc, .int .i64 (ra : Int)] 36)).alloc (.cells #[.slice lb lm ld, .int .i64 (rb : Int)] 36))) := Lib.hid (hb0.alloc hb0.size _)
  have HX1 : Hid (((w.alloc (.cells #[.slice la ln lc, .int .i64 (ra : Int)] 36)).alloc (.cells #[.slice lb lm ld, .int .i64 (rb : Int)] 36)).heap[w.heap.size]? = some (.cells #[.slice la ln lc, .int .i64 (ra : Int)] 36 (0, 0))) := Lib.hid (by rw [Below.heap_alloc _ _ _ (by simp)]; exact heap_alloc_new w _)
  have HX2 : Hid (((w.alloc (.cells #[.slice la ln lc, .int .i64 (ra : Int)] 36)).alloc (.cells #[.slice lb lm ld, .int .i64 (rb : Int)] 36)).heap[w.heap.size + 1]? = some (.cells #[.slice lb lm ld, .int .i64 (rb : Int)] 36 (0, 0))) := Lib.hid (by
    have := heap_alloc_new (w.alloc (.cells #[.slice la ln lc, .int .i64 (ra : Int)] 36)) (.cells #[.slice lb lm ld, .int .i64 (rb : Int)] 36)
    simpa using this)
  have HBA := Lib.hid ((hA.on HB0.out).bytes (lc := lc))
  have HBB : Hid (∀ w', Below w.heap.size w w' → Calls Tryz.prog 34 #[.agg #[.slice lb lm ld, .int .i64 (rb : Int)]] w' (BytesPost w' B rb)) := Lib.hid (fun w' hb => (hB.on hb).bytes)
  have HEQ : Hid (∀ OA OB, NormF A ra OA → NormF B rb OB → (bytesL OA = bytesL OB ↔ Bis A B ra rb)) := Lib.hid (fun OA OB h1 h2 => bytes_bis hA.oks hB.oks (by have := hA.lens; have := hB.lens; omega) hA.lens.1 hB.lens.1 h1 h2)
  clear hb0 hA hB
  go_enter Tryz.func36, Tryz.ntmps36
  go_upto_region 1 with (fail)
  generalize ((w.alloc (.cells #[.slice la ln lc, .int .i64 (ra : Int)] 36)).alloc (.cells #[.slice lb lm ld, .int .i64 (rb : Int)] 36)) = w1 at *
  have HL1 : Hid (w.heap.size + 1 < w1.heap.size) := Lib.hid (Array.getElem?_eq_some_iff.1 HX2.out).1
  have a0 : w1.cell? ⟨w.heap.size, 0, none⟩ = some (.slice la ln lc) := (by rw [cell_of_row _ _ 0 _ 36 _ HX1.out]; rfl)
  have a1 : w1.cell? ⟨w.heap.size, 1, none⟩ = some (.int .i64 (ra : Int)) := (by rw [cell_of_row _ _ 1 _ 36 _ HX1.out]; rfl)
  go_upto_region 2 with (go_at_call 34; (with_reducible refine HBA.out.mono ?_); rintro e w2 ⟨v2, OA, rfl, hv2, hn2, hb2⟩; have HV2 := Lib.hid hv2; have HN2 := Lib.hid hn2; have HB2 := Lib.hid hb2; clear hv2 hn2 hb2)
  clear a0 a1
  have HX2' := Lib.hid ((HB2.out.block _ HL1.out).trans HX2.out)
  have b0 : w2.cell? ⟨w.heap.size + 1, 0, none⟩ = some (.slice lb lm ld) := (by rw [cell_of_row _ _ 0 _ 36 _ HX2'.out]; rfl)
  have b1 : w2.cell? ⟨w.heap.size + 1, 1, none⟩ = some (.int .i64 (rb : Int)) := (by rw [cell_of_row _ _ 1 _ 36 _ HX2'.out]; rfl)
  have HB3 : Hid (Below w.heap.size w w2) := Lib.hid (HB0.out.trans (HB2.out.mono HB0.out.size))
  have HBB2 := Lib.hid (HBB.out w2 HB3.out)
  go_upto_region 3 with (go_at_call 34; (with_reducible refine HBB2.out.mono ?_); rintro e w3 ⟨v3, OB, rfl, hv3, hn3, hb3⟩; have HV3 := Lib.hid hv3; have HN3 := Lib.hid hn3; have HB4 := Lib.hid hb3; clear hv3 hn3 hb3)
  clear b0 b1
  have HQ := Lib.hid (equal_any w3 _ _ v2 v3 _ _ (HV2.out.on HB4.out) HV3.out)
  go_wp2_with (go_at_call 73; (with_reducible refine HQ.out.mono ?_); rintro e w4 ⟨rfl, rfl⟩)
  go_ret
  exact ⟨_, rfl, by rw [decide_eq_true_iff]; exact HEQ.out _ _ HN2.out HN3.out, HB3.out.trans (HB4.out.mono HB3.out.size)⟩
set_option maxRecDepth 20000 in
set_option maxHeartbeats 4000000 in
theorem gsame_bad (w : World) (la : Option Addr) (ln lc : Nat) (ra : Int) (A : List Hd) (hA : HeadsIn w la ln A) (hln : (ln : Int) ≤ maxLen) (hg : graphB ra A = false) :
    Calls Tryz.prog 36 #[.agg #[.slice la ln lc, .int .i64 ra], .agg #[.slice la ln lc, .int .i64 ra]] w (BoolPost w false) := by
  have hb0 : Below w.heap.size w (w.alloc (.cells #[.slice la ln lc, .int .i64 ra] 36)) := (Below.refl _ _).alloc (Nat.le_refl _) _
  have HB0 : Hid (Below w.heap.size w ((w.alloc (.cells #[.slice la ln lc, .int .i64 ra] 36)).alloc (.cells #[.slice la ln lc, .int .i64 ra] 36))) := Lib.hid (hb0.alloc hb0.size _)
  have HX1 : Hid (((w.alloc (.cells #[.slice la ln lc, .int .i64 ra] 36)).alloc (.cells #[.slice la ln lc, .int .i64 ra] 36)).heap[w.heap.size]? = some (.cells #[.slice la ln lc, .int .i64 ra] 36 (0, 0))) := Lib.hid (by rw [Below.heap_alloc _ _ _ (by simp)]; exact heap_alloc_new w _)
  have HX2 : Hid (((w.alloc (.cells #[.slice la ln lc, .int .i64 ra] 36)).alloc (.cells #[.slice la ln lc, .int .i64 ra] 36)).heap[w.heap.size + 1]? = some (.cells #[.slice la ln lc, .int .i64 ra] 36 (0, 0))) := Lib.hid (by
    have := heap_alloc_new (w.alloc (.cells #[.slice la ln lc, .int .i64 ra] 36)) (.cells #[.slice la ln lc, .int .i64 ra] 36)
    simpa using this)
  have HBA : Hid (∀ w', Below w.heap.size w w' → Calls Tryz.prog 34 #[.agg #[.slice la ln lc, .int .i64 ra]] w' (BBadPost w')) := Lib.hid (fun w' hb => bytes_bad w' la ln lc ra A (hA.on hb) hln hg)
  have HBA1 := Lib.hid (HBA.out _ HB0.out)
  clear hb0 hA hg
  go_enter Tryz.func36, Tryz.ntmps36
  go_upto_region 1 with (fail)
  generalize ((w.alloc (.cells #[.slice la ln lc, .int .i64 ra] 36)).alloc (.cells #[.slice la ln lc, .int .i64 ra] 36)) = w1 at *
  have HL1 : Hid (w.heap.size + 1 < w1.heap.size) := Lib.hid (Array.getElem?_eq_some_iff.1 HX2.out).1
  have a0 : w1.cell? ⟨w.heap.size, 0, none⟩ = some (.slice la ln lc) := (by rw [cell_of_row _ _ 0 _ 36 _ HX1.out]; rfl)
  have a1 : w1.cell? ⟨w.heap.size, 1, none⟩ = some (.int .i64 ra) := (by rw [cell_of_row _ _ 1 _ 36 _ HX1.out]; rfl)
  go_upto_region 2 with (go_at_call 34; (with_reducible refine HBA1.out.mono ?_); rintro e w2 ⟨rfl, hb2⟩; have HB2 := Lib.hid hb2; clear hb2)
  clear a0 a1
  have HX2' := Lib.hid ((HB2.out.block _ HL1.out).trans HX2.out)
  have b0 : w2.cell? ⟨w.heap.size + 1, 0, none⟩ = some (.slice la ln lc) := (by rw [cell_of_row _ _ 0 _ 36 _ HX2'.out]; rfl)
  have b1 : w2.cell? ⟨w.heap.size + 1, 1, none⟩ = some (.int .i64 ra) := (by rw [cell_of_row _ _ 1 _ 36 _ HX2'.out]; rfl)
  have HB3 : Hid (Below w.heap.size w w2) := Lib.hid (HB0.out.trans (HB2.out.mono HB0.out.size))
  have HBA2 := Lib.hid (HBA.out w2 HB3.out)
  go_wp2_with (go_at_call 34; (with_reducible refine HBA2.out.mono ?_); rintro e w3 ⟨rfl, hb3⟩; have HB4 := Lib.hid hb3; clear hb3)
  go_ret
  exact ⟨rfl, HB3.out.trans (HB4.out.mono HB3.out.size)⟩
end Go.Proofs.YtifilhkkgkihpaaGreatDoor
set_option linter.unusedSimpArgs false
set_option linter.unusedVariables false
namespace Go.Proofs.YtifilhkkgkihpaaGreatDoor
open Go.RowKit
set_option maxRecDepth 20000 in
set_option maxHeartbeats 4000000 in
theorem rsame_ok (w : World) (xa : Option Addr) (xn xc i0 : Nat) (XS : List Hd) (hA : GOk w xa xn i0 XS) (ya : Option Addr) (yn yc k0 : Nat) (HS : List Hd) (hB : GOk w ya yn k0 HS) :
    Calls Tryz.prog 35 #[.agg #[.slice xa xn xc, .int .i64 (i0 : Int)], .agg #[.slice ya yn yc, .int .i64 (k0 : Int)]] w (SamePost w XS HS i0 k0) := by
  have hi0 := hA.rlt
  have hk0 := hB.rlt
  have hb0 : Below w.heap.size w (w.alloc (.cells #[.slice xa xn xc, .int .i64 (i0 : Int)] 36)) := (Below.refl _ _).alloc (Nat.le_refl _) _
  have HB0 : Hid (Below w.heap.size w ((w.alloc (.cells #[.slice xa xn xc, .int .i64 (i0 : Int)] 36)).alloc (.cells #[.slice ya yn yc, .int .i64 (k0 : Int)] 36))) := Lib.hid (hb0.alloc hb0.size _)
  have HX1 : Hid (((w.alloc (.cells #[.slice xa xn xc, .int .i64 (i0 : Int)] 36)).alloc (.cells #[.slice ya yn yc, .int .i64 (k0 : Int)] 36)).heap[w.heap.size]? = some (.cells #[.slice xa xn xc, .int .i64 (i0 : Int)] 36 (0, 0))) := Lib.hid (by rw [Below.heap_alloc _ _ _ (by simp)]; exact heap_alloc_new w _)
  have HX2 : Hid (((w.alloc (.cells #[.slice xa xn xc, .int .i64 (i0 : Int)] 36)).alloc (.cells #[.slice ya yn yc, .int .i64 (k0 : Int)] 36)).heap[w.heap.size + 1]? = some (.cells #[.slice ya yn yc, .int .i64 (k0 : Int)] 36 (0, 0))) := Lib.hid (by
    have := heap_alloc_new (w.alloc (.cells #[.slice xa xn xc, .int .i64 (i0 : Int)] 36)) (.cells #[.slice ya yn yc, .int .i64 (k0 : Int)] 36)
    simpa using this)
  have HAK := Lib.hid (fun (w' : World) (hb : Below w.heap.size w w') => alike_bis w' xa xn xc XS (hA.heads.on hb) ya yn yc HS (hB.heads.on hb) (fun x hx k hk => by
    obtain ⟨i, hi⟩ := List.getElem?_of_mem hx
    exact ok_kids hA.oks hi k hk) (fun x hx k hk => by
    obtain ⟨i, hi⟩ := List.getElem?_of_mem hx
    exact ok_kids hB.oks hi k hk) (by have := hA.len; omega) (by have := hB.len; omega) (by omega) (by omega))
  have HXL := Lib.hid hA.heads.1
  have HYL := Lib.hid hB.heads.1
  have HX50 := Lib.hid hA.len
  have hi2 : (i0 : Int) < xn := by omega
  have hk2 : (k0 : Int) < yn := by omega
  clear hb0 hA hB
  go_enter Tryz.func35, Tryz.ntmps35
  go_upto_region 1 with (fail)
  generalize ((w.alloc (.cells #[.slice xa xn xc, .int .i64 (i0 : Int)] 36)).alloc (.cells #[.slice ya yn yc, .int .i64 (k0 : Int)] 36)) = w1 at *
  have HL1 : Hid (w.heap.size + 1 < w1.heap.size) := Lib.hid (Array.getElem?_eq_some_iff.1 HX2.out).1
  have a0 : w1.cell? ⟨w.heap.size, 0, none⟩ = some (.slice xa xn xc) := (by rw [cell_of_row _ _ 0 _ 36 _ HX1.out]; rfl)
  have a1 : w1.cell? ⟨w.heap.size, 1, none⟩ = some (.int .i64 (i0 : Int)) := (by rw [cell_of_row _ _ 1 _ 36 _ HX1.out]; rfl)
  have b0 : w1.cell? ⟨w.heap.size + 1, 0, none⟩ = some (.slice ya yn yc) := (by rw [cell_of_row _ _ 0 _ 36 _ HX2.out]; rfl)
  have b1 : w1.cell? ⟨w.heap.size + 1, 1, none⟩ = some (.int .i64 (k0 : Int)) := (by rw [cell_of_row _ _ 1 _ 36 _ HX2.out]; rfl)
  go_region_law
    (first
      | (go_simp; go_at_call 72; (with_reducible refine (HAK.out _ (by exact HB0.out.drew)).mono ?_); rintro e w7 ⟨go, co, rows, rfl, hlen, hmat, hiff⟩; have HBW : Hid (Below w1.heap.size w1 w7) := Lib.hid (show Below w1.heap.size w1 w7 from (Below.refl _ _).drew.trans hmat.below); obtain ⟨⟨g, c, L⟩, hrow⟩ : ∃ r, rows[i0]? = some r := ⟨_, List.getElem?_eq_getElem (by rw [hlen, ← HXL.out]; exact hi0)⟩; have hLl := (hmat.each _ (List.mem_of_getElem? hrow)).1; obtain ⟨b, hb⟩ : ∃ b, L[k0]? = some b := ⟨_, List.getElem?_eq_getElem (by simp only at hLl; rw [hLl, ← HYL.out]; exact hk0)⟩; have HIF : Hid (b = true ↔ Bis XS HS i0 k0) := Lib.hid (by rw [← hiff i0 k0 (by rw [← HXL.out]; exact hi0) (by rw [← HYL.out]; exact hk0)]; exact ⟨fun e => ⟨_, hrow, by rw [← e]; exact hb⟩, fun ⟨r, h1, h2⟩ => by rw [hrow] at h1; cases h1; rw [hb] at h2; cases h2; rfl⟩); obtain ⟨m1, m2, m3, m4⟩ := hmat.cells hrow hb; rw [← HYL.out] at m1; have hlr : rows.length = xn := hlen.trans HXL.out.symm; have d0 : w7.cell? ⟨w.heap.size, 1, none⟩ = some (.int .i64 (i0 : Int)) := (by rw [cell_of_row _ _ 1 _ 36 _ ((HBW.out.block _ (Nat.lt_of_succ_lt HL1.out)).trans HX1.out)]; rfl); have d1 : w7.cell? ⟨w.heap.size + 1, 1, none⟩ = some (.int .i64 (k0 : Int)) := (by rw [cell_of_row _ _ 1 _ 36 _ ((HBW.out.block _ HL1.out).trans HX2.out)]; rfl); clear hmat hiff hrow hLl hb hlen m3 m4)
      | fail)
  all_goals
    go_wp2
    go_ret
    exact ⟨b, rfl, HIF.out, HB0.out.trans (HBW.out.mono HB0.out.size)⟩
end Go.Proofs.YtifilhkkgkihpaaGreatDoor
