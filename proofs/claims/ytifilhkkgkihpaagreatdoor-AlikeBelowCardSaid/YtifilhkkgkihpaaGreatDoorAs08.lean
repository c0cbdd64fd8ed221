/- Walks: graph.classes. Plain: what the normal graph is; maps of numbers. -/
import Derived.Test.YtifilhkkgkihpaaGreatDoorAs07
set_option linter.unusedSimpArgs false
set_option linter.unusedVariables false
set_option linter.unusedSimpArgs false
set_option linter.unusedVariables false
namespace Go.Proofs.YtifilhkkgkihpaaGreatDoor
open Go.RowKit
theorem below_grow {B : Nat} {a w w' : World} {row : Option Nat} (hb : Below B a w) (hg : w.grownBy w' row) (hl : B ≤ w.heap.size) (hr : ∀ g, row = some g → B ≤ g) : Below B a w' :=
  ⟨hg.os.trans hb.os, hg.tape.trans hb.tape, hg.output.trans hb.output, Nat.le_trans hb.size hg.size, fun k hk => (hg.block k (Nat.lt_of_lt_of_le hk hl) (fun e => by have := hr k e.symm; omega)).trans (hb.block k hk)⟩
structure MapN (D : DataW Unit) (L : List ByteArray) : Prop where
  tidy : Maps.Tidy D
  has : ∀ x, Maps.has D (keyS x) = (idxK L x).isSome
  at_ : ∀ x, D.atKey (keyS x) (.lit (.int .i64 0)) = .lit (.int .i64 (((idxK L x).getD 0 : Nat) : Int))
  size : Maps.size D = L.length
theorem MapN.nil : MapN (.map []) [] := ⟨Maps.tidy_empty, fun _ => rfl, fun _ => rfl, rfl⟩
theorem MapN.put {D : DataW Unit} {L : List ByteArray} (h : MapN D L) (x : ByteArray) (hx : idxK L x = none) : MapN (D.put (keyS x) (.lit (.int .i64 (L.length : Int)))) (L ++ [x]) where
  tidy := h.tidy.put (keyS_is x) _
  has y := by
    by_cases hxy : x = y
    · subst hxy
      rw [Maps.has_put_same h.tidy.isMap (keyS_is x), idxK_new L x hx]; rfl
    · rw [Maps.has_put_other (fun e => hxy (keyS_inj e).symm), h.has y, idxK_other L x y hxy]
  at_ y := by
    by_cases hxy : x = y
    · subst hxy
      rw [Maps.atKey_put_same h.tidy.isMap (keyS_is x), idxK_new L x hx]; rfl
    · rw [Maps.atKey_put_other (fun e => hxy (keyS_inj e).symm), h.at_ y, idxK_other L x y hxy]
  size := by
    rw [Maps.size_put h.tidy, h.has x, hx, h.size]
    simp
theorem run_ints (w : World) (base : Nat) (ty : TypeId) (v : Value) (n : Nat) (xs : List Value) (hown : w.ownsRow base 3 1 v n xs) (A : Option Addr) (m c : Nat) (KS : List Int) (hr : IntsAt w A m KS) (h63 : n + m ≤ 100000) (hbase : base ≤ w.heap.size) :
    ∃ v' w', (Builtin.append_ #[31, 31] ty #[v, .slice A m c]).run Tryz.prog w = .ok v' w' ∧ w'.ownsRow base 3 1 v' (n + m) (xs ++ KS.map (Value.int .i64)) ∧ w.grownBy w' v.ownBlock := by
  obtain ⟨i3, p3, q31, q32, q33⟩ := info_parts Tryz.info3
  cases A with
  | none =>
    obtain rfl : m = 0 := by
      rcases hr.2 with h | ⟨g, o, e, _⟩
      · exact h
      · cases e
    obtain rfl : KS = [] := List.eq_nil_of_length_eq_zero hr.1.symm
    refine ⟨v, w, ?_, by simpa using hown, World.grownBy.refl w _⟩
    rcases hown.2 with ⟨rfl, rfl⟩ | ⟨g, cap, cur, rfl, _, _, hnc, _⟩
    · simp [Builtin.append_, run_underlying Tryz.underlying31, sizeOf, typeInfo, p3, Builtin.lenOf, Builtin.firstCells]
    · simp [Builtin.append_, run_underlying Tryz.underlying31, sizeOf, typeInfo, p3, Builtin.lenOf, Builtin.firstCells, hnc, storeCells]
  | some ad =>
    have hcells : ∀ (j : Nat) u, (KS.map (Value.int .i64))[j]? = some u → w.cell? (ad.add j) = some u := fun j u hu => by
      rw [List.getElem?_map] at hu
      rcases hr.2 with h0 | ⟨g, o, e, _, hc⟩
      · obtain rfl : KS = [] := List.eq_nil_of_length_eq_zero (by rw [← hr.1]; exact h0)
        simp at hu
      · cases e
        cases hk : KS[j]? with
        | none => rw [hk] at hu; cases hu
        | some k =>
          rw [hk] at hu
          cases hu
          have hadd : (⟨g, o, none⟩ : Addr).add j = ⟨g, o + j, none⟩ := by unfold Addr.add; split <;> simp_all
          rw [hadd]
          exact hc j k hk
    obtain ⟨v', w', hrun, h2, h3, _, h5⟩ := run_append_own_at (P := Tryz.prog) w base 31 ty 3 i3 (.int .i64 0) 1 8 Tryz.underlying31 p3 q31 q32 q33 rfl (by decide) v n xs hown ad m c (KS.map (Value.int .i64)) (by simp [hr.1]) hcells (by simp [Value.oneCell']) (by unfold maxLen; omega) (by omega) hbase
    exact ⟨v', w', hrun, h2, h3⟩
theorem wpList_ints {w : World} {ops : Array Oper} {rest : List Oper} {o : Oper} {a : Act} {Q : Exit → Act → World → Prop} (hgd : o.guard = none) (s x : Operand)
    (ho : o.op = .call { callee := .builtin .append, args := #[s, x], argTypes := #[31, 31] }) (base : Nat) (v : Value) (n : Nat) (xs : List Value) (hs : a.eval s = v) (hown : w.ownsRow base 3 1 v n xs) (A : Option Addr) (m c : Nat) (KS : List Int) (hx : a.eval x = .slice A m c) (hr : IntsAt w A m KS) (h63 : n + m ≤ 100000) (hbase : base ≤ w.heap.size)
    (h : ∀ v' w', w'.ownsRow base 3 1 v' (n + m) (xs ++ KS.map (Value.int .i64)) → w.grownBy w' v.ownBlock → wpList Tryz.prog ops Q rest (a.put o.dst v') w') : wpList Tryz.prog ops Q (o :: rest) a w :=
  wpList_plain hgd fun K hK => by
    obtain ⟨v', w', hrun, h2, h3⟩ := run_ints w base o.type v n xs hown A m c KS hr h63 hbase
    unfold Oper.wp execOp
    simp only [ho, resolve, invoke, builtin, Sem.run_bind, Sem.run_pure, Result.andThen_ok, List.map_toArray, List.map_cons, List.map_nil, hs, hx, hrun]
    exact hK _ _ (h v' w' h2 h3)
theorem zero3 (w : World) : (zeroValue 3).run Tryz.prog w = .ok (.int .i64 0) w := by kernel_rfl
theorem make_run36 (n : Nat) (hn : n ≤ 100000) (w : World) : (Instr.makeSlice 31 (.int .i64 (n : Int)) (.int .i64 (n : Int))).run Tryz.prog w = .ok (.slice (some ⟨w.heap.size, 0, none⟩) n n) (w.alloc (.cells (uZ n) 3)) := by
  obtain ⟨i0, hi, hz0, hz1, hz2⟩ := info_parts Tryz.info3
  have := run_make (P := Tryz.prog) w 31 3 i0 (.int .i64 0) Tryz.underlying31 hi hz0 .i64 .i64 (n : Int) (n : Int) (by omega) (Int.le_refl _) (by rw [hz2]; omega) (by omega)
  rw [this, hz1]
  have hc : madeCells (Value.int .i64 0).cells (n * 1) = uZ n := by
    rw [Nat.mul_one]
    apply Array.toList_inj.1
    rw [show (Value.int .i64 0).cells = #[Value.int .i64 0] from rfl]
    have := toList_madeCells_one (.int .i64 0) n
    unfold uZ uRow
    rw [List.map_replicate]
    exact this
  simp only [Int.toNat_natCast, hc]
def natI (l : List Nat) : List Int := l.map fun (c : Nat) => (c : Int)
theorem natI_get (l : List Nat) (k : Nat) (hk : k < l.length) : (natI l).getD k 0 = ((l.getD k 0 : Nat) : Int) := by
  unfold natI
  rw [List.getD_eq_getElem?_getD, List.getD_eq_getElem?_getD, List.getElem?_map, List.getElem?_eq_getElem hk]
  rfl
/-- the cells of a row of numbers that is filled up to i. -/
def part' (out : List Nat) (n : Nat) : List Int := natI out ++ List.replicate (n - out.length) 0
theorem part_set (out : List Nat) (n c : Nat) (h : out.length < n) : (part' out n).set out.length (c : Int) = part' (out ++ [c]) n := by
  unfold part'
  have e : n - out.length = (n - (out.length + 1)) + 1 := by omega
  rw [List.set_append_right _ _ (by simp [natI])]
  rw [show out.length - (natI out).length = 0 by simp [natI], e, List.replicate_succ, List.set_cons_zero]
  simp [natI]
theorem part_len (out : List Nat) (n : Nat) (h : out.length ≤ n) : (part' out n).length = n := by simp [part', natI]; omega
theorem part_all (out : List Nat) : part' out out.length = natI out := by simp [part']
theorem part_nil (n : Nat) : uRow (part' [] n) = uZ n := by simp [part', natI, uZ]
def keysOf (prev : List Nat) (HS : List Hd) (i : Nat) : List ByteArray := (List.range i).map fun j => match HS[j]? with
  | some h => keyOf' prev j h
  | none => ⟨#[]⟩
theorem keysOf_succ (prev : List Nat) (HS : List Hd) (i : Nat) (h : Hd) (hi : HS[i]? = some h) : keysOf prev HS (i + 1) = keysOf prev HS i ++ [keyOf' prev i h] := by
  unfold keysOf
  rw [List.range_succ, List.map_append]
  simp [hi]
theorem keysOf_at (prev : List Nat) (HS : List Hd) : ∀ (i : Nat) x, HS[i]? = some x → (keysOf prev HS HS.length)[i]? = some (keyOf' prev i x) := by
  intro i x hx
  unfold keysOf
  rw [List.getElem?_map, List.getElem?_range (List.getElem?_eq_some_iff.1 hx).1]
  simp [hx]
theorem keysOf_len (prev : List Nat) (HS : List Hd) (i : Nat) : (keysOf prev HS i).length = i := by simp [keysOf]
theorem itoa_size (i : Nat) (hi : i < 100) : (itoaB i).size ≤ 2 := by
  have := congrArg List.length (itoa_dec i hi)
  rw [show (itoaB i).data.toList.length = (itoaB i).size by simp] at this
  rw [this]
  unfold decL
  split <;> simp
theorem key_step (sg : ByteArray) (cs : List Nat) (p c : Nat) (h : cs[p]? = some c) : keyB sg (cs.take (p + 1)) = keyB sg (cs.take p) ++ ((⟨#[32]⟩ : ByteArray) ++ itoaB c) := by
  unfold keyB
  rw [List.take_add_one, h]
  simp
theorem cells_row (w : World) (T : Nat) (U : List Int) (h : w.heap[T]? = some (.cells (uRow U) 3 (0, 0))) (k : Nat) (hk : k < U.length) : w.cell? ⟨T, k, none⟩ = some (.int .i64 (U.getD k 0)) := by
  rw [cell_of_row _ _ k _ 3 _ h]
  exact uRow_get U k hk
structure Cls2 (wo wr : World) (n i : Nat) (HS : List Hd) (prev out : List Nat) (seen : List ByteArray) (D : DataW Unit) (nn : Nat) : Prop where
  nrow : wr.heap[wo.heap.size]? = some (.cells (uRow (part' out n)) 3 (0, 0))
  map : wr.ownsMap Tryz.prog 9 (plainElem (H := Unit) Tryz.prog 3) (wo.heap.size + 1) nn D
  mapn : MapN D seen
  nums : NumI (keysOf prev HS i) seen out
  below : Below wo.heap.size wo wr
  nnle : nn ≤ i
  ml : wo.heap.size + 1 < wr.heap.size
theorem Cls2.on {wo wr w' : World} {n i nn : Nat} {HS : List Hd} {prev out : List Nat} {seen : List ByteArray} {D : DataW Unit} (h : Cls2 wo wr n i HS prev out seen D nn) (hb : Below wr.heap.size wr w') : Cls2 wo w' n i HS prev out seen D nn where
  nrow := (hb.block _ (by have := h.ml; omega)).trans h.nrow
  map := h.map.kept (row := none) ⟨hb.os, hb.tape, hb.output, hb.size, fun q hq _ => hb.block q hq⟩ (by simp)
  mapn := h.mapn
  nums := h.nums
  below := h.below.trans (hb.mono h.below.size)
  nnle := h.nnle
  ml := Nat.lt_of_lt_of_le h.ml hb.size
theorem Cls2.step {wo w10 : World} {n i nn' : Nat} {HS : List Hd} {prev out : List Nat} {seen : List ByteArray} {D' : DataW Unit} {h : Hd} (hin : i < n) (hi : HS[i]? = some h) (nums : NumI (keysOf prev HS i) seen out)
    (nrow : w10.heap[wo.heap.size]? = some (.cells (uRow (part' out n)) 3 (0, 0))) (map : w10.ownsMap Tryz.prog 9 (plainElem (H := Unit) Tryz.prog 3) (wo.heap.size + 1) nn' D') (mapn : MapN D' (stepN seen (keyOf' prev i h))) (below : Below wo.heap.size wo w10) (hnn : nn' ≤ i + 1) (ml : wo.heap.size + 1 < w10.heap.size) :
    Cls2 wo (w10.setCell ⟨wo.heap.size, i, none⟩ (.int .i64 ((numK seen (keyOf' prev i h) : Nat) : Int))) n (i + 1) HS prev (out ++ [numK seen (keyOf' prev i h)]) (stepN seen (keyOf' prev i h)) D' nn' where
  nrow := by
    have hl : out.length = i := by rw [nums.len, keysOf_len]
    rw [set_heap _ _ _ _ _ nrow]
    have := part_set out n (numK seen (keyOf' prev i h)) (by omega)
    rw [hl] at this
    rw [this]
  map := map.kept (row := some wo.heap.size) (Val.grown_set _ _ _ _) (by simp)
  mapn := mapn
  nums := by rw [keysOf_succ prev HS i h hi]; exact nums.step _
  below := below.setCell (p := ⟨wo.heap.size, i, none⟩) (Nat.le_refl _) _
  nnle := hnn
  ml := by simpa using ml
theorem few_head {HS : List Hd} {h : Hd} (hf : HS.all fewH = true) (hh : h ∈ HS) : h.kn ≤ 20 ∧ h.nn ≤ 20 ∧ ∀ s ∈ h.NS, s.size ≤ 60 := by
  have := List.all_eq_true.1 hf h hh
  unfold fewH at this
  simp only [Bool.and_eq_true, decide_eq_true_eq, List.all_eq_true] at this
  exact ⟨this.1.1, this.1.2, this.2⟩
theorem sign_size (kd : Int) (op : Bool) : ∀ (NS : List ByteArray), (∀ s ∈ NS, s.size ≤ 60) → (signB kd op NS).size ≤ 1 + NS.length * 61 := by
  intro NS hs
  have : ∀ (NS : List ByteArray) (a : ByteArray), (∀ s ∈ NS, s.size ≤ 60) → (NS.foldl (fun acc s => acc ++ nmB s) a).size ≤ a.size + NS.length * 61 := by
    intro NS
    induction NS with
    | nil => intro a _; simp
    | cons s l ih =>
      intro a hs
      have h1 := ih (a ++ nmB s) (fun x hx => hs x (by simp [hx]))
      have h2 := hs s (by simp)
      rw [ByteArray.size_append, nmB_size] at h1
      rw [List.foldl_cons, List.length_cons]
      omega
  have h1 := this NS (signHead kd op) hs
  have h2 : (signHead kd op).size ≤ 1 := by unfold signHead; split <;> exact Nat.le_refl 1
  unfold signB
  omega
def ClsPost (w : World) (ln : Nat) (HS : List Hd) (e : Ending) (w' : World) : Prop := ∃ (g : Nat) (cl : List Nat), e = .returned (.slice (some ⟨g, 0, none⟩) ln ln) ∧ w.heap.size ≤ g ∧ w'.heap[g]? = some (.cells (uRow (natI cl)) 3 (0, 0)) ∧ cl.length = HS.length ∧ (∀ i, i < HS.length → cl.getD i 0 < 100) ∧ Stands HS cl ∧ Coarse HS cl ∧ Below w.heap.size w w'
set_option maxRecDepth 20000 in
set_option maxHeartbeats 8000000 in
theorem classes_any (w : World) (la : Option Addr) (ln lc : Nat) (HS : List Hd) (hH : HeadsIn w la ln HS) (hf : HS.all fewH = true) (h1 : 0 < ln) (h25 : ln ≤ 100) (hok : OkHeads HS) :
    Calls Tryz.prog 102 #[.slice la ln lc] w (ClsPost w ln HS) := by
  have HOK := Lib.hid hok
  have HFW := Lib.hid hf
  have HHH := Lib.hid hH
  have HL := Lib.hid hH.1
  obtain ⟨ga, oa, rfl, hga, hca⟩ := hH.2.resolve_left (by omega)
  have HGA := Lib.hid hga
  have HCA := Lib.hid hca
  have hmm := @run_makeMap Tryz.prog
  have hmk := make_run36 ln (by omega)
  have hln2 : (ln : Int) ≤ 100 := by omega
  obtain ⟨i3, p3, q31, q32, q33⟩ := info_parts Tryz.info3
  have P3 := Lib.hid p3
  have Q31 := Lib.hid q31
  have Q32 := Lib.hid q32
  have Q33 := Lib.hid q33
  have HR0 : Hid ((w.alloc (.cells (uZ ln) 3)).heap[w.heap.size]? = some (.cells (uRow (natI (List.replicate ln 0))) 3 (0, 0))) := Lib.hid (by rw [heap_alloc_new]; unfold uZ natI; rw [List.map_replicate]; rfl)
  have HB0 : Hid (Below w.heap.size w (w.alloc (.cells (uZ ln) 3))) := Lib.hid ((Below.refl _ _).alloc (Nat.le_refl _) _)
  have HC0 : Hid (ClsI HS.length 0 (List.replicate ln 0) ∧ Coarse HS (List.replicate ln 0)) := Lib.hid ⟨⟨by simp [HL.out], fun i hi => by simp [List.getD_eq_getElem?_getD, List.getElem?_replicate]; split <;> simp, fun h => by omega⟩, fun R hR i j hi hj hij => by simp [List.getD_eq_getElem?_getD, List.getElem?_replicate, ← HL.out] at hi hj ⊢; simp [hi, hj]⟩
  clear p3 q31 q32 q33 hok hf hH hga hca
  go_enter Tryz.func102, Tryz.ntmps102
  go_upto_region 2 with (fail)
  generalize (w.alloc (.cells (uZ ln) 3)) = w1 at *
  go_wp2
  go_loopg [3, 4] (ln) (fun gk s3 s4 wr => ∃ (T : Nat) (prev : List Nat) (count : Nat), s3 = .slice (some ⟨T, 0, none⟩) ln ln ∧ s4 = .int .i64 (count : Int) ∧ count ≤ ln ∧ Hid (gk = ln - count) ∧ Hid (w.heap.size ≤ T ∧ wr.heap[T]? = some (.cells (uRow (natI prev)) 3 (0, 0))) ∧ Hid (ClsI HS.length count prev ∧ Coarse HS prev) ∧ Hid (Below w.heap.size w wr))
  case atStart => exact ⟨w.heap.size, List.replicate ln 0, 0, rfl, rfl, Nat.zero_le _, Lib.hid rfl, Lib.hid ⟨Nat.le_refl _, HR0.out⟩, HC0, HB0⟩
  case round =>
    obtain ⟨T, prev, count, rfl, rfl, hcl, HGK, HT, HCI, HB⟩ := hrel
    obtain ⟨wo, rfl⟩ : ∃ wo : World, wo = wr := ⟨_, rfl⟩
    have HTL : Hid (T < wo.heap.size) := Lib.hid (Array.getElem?_eq_some_iff.1 HT.out.2).1
    have HPL : Hid (prev.length = ln) := Lib.hid (by rw [HCI.out.1.len, HL.out])
    have hz0 : Cls2 wo ((wo.alloc (.cells (uZ ln) 3)).alloc (.map #[] 0)) ln 0 HS prev [] [] (.map []) 0 := by
      refine ⟨?_, ?_, MapN.nil, by simpa [keysOf] using NumI.nil, ((Below.refl _ _).alloc (Nat.le_refl _) _).alloc (by simp) _, Nat.le_refl _, by simp⟩
      · rw [Below.heap_alloc _ _ _ (by simp), heap_alloc_new, part_nil]
      · have := World.ownsMap_made (H := Unit) (wo.alloc (.cells (uZ ln) 3)) Tryz.prog 9 (plainElem Tryz.prog 3)
        simpa using this
    have HZ0 := Lib.hid hz0
    clear hz0
    go_upto_region 4 with (fail)
    generalize ((wo.alloc (.cells (uZ ln) 3)).alloc (.map #[] 0)) = w5 at *
    go_wp2
    go_loopw [24] (fun s24 wr => ∃ (i : Nat) (out : List Nat) (seen : List ByteArray) (D : DataW Unit) (nn : Nat), s24 = .int .i64 (i : Int) ∧ i ≤ ln ∧ Hid (Cls2 wo wr ln i HS prev out seen D nn)) (fun s24 _ => ln - (intOf s24).toNat)
    case atStart => exact ⟨0, [], [], .map [], 0, rfl, Nat.zero_le _, HZ0⟩
    case round =>
      obtain ⟨i, out, seen, D, nn, rfl, hi, HC⟩ := hrel
      have hwi : IntKind.i64.wrap ((i : Int) + 1) = (i : Int) + 1 := by rw [IntKind.wrap_i64]; omega
      by_cases hil : i < ln
      · have hil2 : (i : Int) < ln := by omega
        obtain ⟨wi, rfl⟩ : ∃ wi : World, wi = wr := ⟨_, rfl⟩
        obtain ⟨h, hh⟩ : ∃ h, HS[i]? = some h := ⟨_, List.getElem?_eq_getElem (by rw [← HL.out]; exact hil)⟩
        have HH := Lib.hid hh
        have hfh := few_head HFW.out (List.mem_of_getElem? hh)
        have HFH := Lib.hid hfh
        have HHK := Lib.hid (head_kind (HOK.out h (List.mem_of_getElem? hh)))
        have hin := HCA.out i h hh
        have HIN := Lib.hid hin.ok
        have HBW : Hid (Below w.heap.size w wi) := Lib.hid (HB.out.trans (HC.out.below.mono HB.out.size))
        have b0 : wi.cell? ⟨ga, oa + i * 4, none⟩ = some (.int .i64 h.kd) := keepB HBW.out HGA.out hin.c0
        have b1 : wi.cell? ⟨ga, oa + i * 4 + 1, none⟩ = some (.slice h.na h.nn h.nc) := keepB HBW.out HGA.out hin.c1
        have b2 : wi.cell? ⟨ga, oa + i * 4 + 2, none⟩ = some (.slice h.ka h.kn h.kc) := keepB HBW.out HGA.out hin.c2
        have b3 : wi.cell? ⟨ga, oa + i * 4 + 3, none⟩ = some (.bool h.op) := keepB HBW.out HGA.out hin.c3
        clear hin hh
        have HY : Hid ((wi.alloc (.cells #[.int .i64 h.kd, .slice h.na h.nn h.nc, .slice h.ka h.kn h.kc, .bool h.op] 33)).heap[wi.heap.size]? = some (.cells #[.int .i64 h.kd, .slice h.na h.nn h.nc, .slice h.ka h.kn h.kc, .bool h.op] 33 (0, 0))) := Lib.hid (heap_alloc_new wi _)
        have HBY : Hid (Below wi.heap.size wi (wi.alloc (.cells #[.int .i64 h.kd, .slice h.na h.nn h.nc, .slice h.ka h.kn h.kc, .bool h.op] 33))) := Lib.hid ((Below.refl _ _).alloc (Nat.le_refl _) _)
        go_upto_region 7 with (fail)
        clear b0 b1 b2 b3
        generalize (wi.alloc (.cells #[.int .i64 h.kd, .slice h.na h.nn h.nc, .slice h.ka h.kn h.kc, .bool h.op] 33)) = w6 at *
        have HYL : Hid (wi.heap.size < w6.heap.size) := Lib.hid (Array.getElem?_eq_some_iff.1 HY.out).1
        have c0 : w6.cell? ⟨wi.heap.size, 0, none⟩ = some (.int .i64 h.kd) := (by rw [cell_of_row _ _ 0 _ 33 _ HY.out]; rfl)
        have c1 : w6.cell? ⟨wi.heap.size, 1, none⟩ = some (.slice h.na h.nn h.nc) := (by rw [cell_of_row _ _ 1 _ 33 _ HY.out]; rfl)
        have c2 : w6.cell? ⟨wi.heap.size, 2, none⟩ = some (.slice h.ka h.kn h.kc) := (by rw [cell_of_row _ _ 2 _ 33 _ HY.out]; rfl)
        have c3 : w6.cell? ⟨wi.heap.size, 3, none⟩ = some (.bool h.op) := (by rw [cell_of_row _ _ 3 _ 33 _ HY.out]; rfl)
        have HSG := Lib.hid (sign_any w6 h.kd h.na h.nn h.nc h.NS h.ka h.kn h.kc h.op (HIN.out.on (HBW.out.trans (HBY.out.mono HBW.out.size))).names (by have := HFH.out.2.1; omega) (fun s hs => by have := HFH.out.2.2 s hs; omega) HHK.out.1)
        have HSS : Hid ((signB h.kd h.op h.NS).size ≤ 1221) := Lib.hid (by
          have := sign_size h.kd h.op h.NS HFH.out.2.2
          have h2 := HIN.out.names.1
          have h3 := HFH.out.2.1
          omega)
        have HKEY : Hid (keyOf' prev i h = keyB (signB h.kd h.op h.NS) (clsOf prev i h.KS)) := Lib.hid rfl
        obtain ⟨sg, hsg⟩ : ∃ sg, signB h.kd h.op h.NS = sg := ⟨_, rfl⟩
        rw [hsg] at HSG HSS HKEY
        clear hsg
        go_upto_region 8 with (go_at_call 70; (with_reducible refine HSG.out.mono ?_); rintro e w7 ⟨rfl, hb7⟩; have HB7 := Lib.hid hb7; clear hb7)
        clear c0 c1 c2 c3
        have HBY7 : Hid (Below wi.heap.size wi w7) := Lib.hid (HBY.out.trans (HB7.out.mono HBY.out.size))
        have HY7 := Lib.hid ((HB7.out.block _ HYL.out).trans HY.out)
        have HC7 := Lib.hid (HC.out.on HBY7.out)
        have HOV : Hid ((w7.alloc (.cells #[.int .i64 (-1)] 3)).ownsRow w7.heap.size 3 1 (.slice (some ⟨w7.heap.size, 0, none⟩) 1 1) 1 [.int .i64 (-1)]) := Lib.hid ⟨by simp, .inr ⟨w7.heap.size, 1, #[.int .i64 (-1)], rfl, Nat.le_refl _, heap_alloc_new w7 _, Nat.le_refl _, by unfold maxLen; omega, rfl, rfl⟩⟩
        have HB78 : Hid (Below w7.heap.size w7 (w7.alloc (.cells #[.int .i64 (-1)] 3))) := Lib.hid ((Below.refl _ _).alloc (Nat.le_refl _) _)
        have hkn := HFH.out.1
        have hkn2 : (h.kn : Int) ≤ 20 := by omega
        have HK8 : Hid (IntsAt (w7.alloc (.cells #[.int .i64 (-1)] 3)) h.ka h.kn h.KS) := Lib.hid (((HIN.out.on HBW.out).kids.on HBY7.out).on HB78.out)
        have c2 : (w7.alloc (.cells #[.int .i64 (-1)] 3)).cell? ⟨wi.heap.size, 2, none⟩ = some (.slice h.ka h.kn h.kc) := keepB HB78.out (Nat.lt_of_lt_of_le HYL.out HB7.out.size) (by rw [cell_of_row _ _ 2 _ 33 _ HY7.out]; rfl)
        have HKL := Lib.hid HIN.out.kids.1
        go_upto_region 9 with (at_builtin; refine wpList_ints rfl _ _ rfl w7.heap.size (.slice (some ⟨w7.heap.size, 0, none⟩) 1 1) 1 [.int .i64 (-1)] rfl HOV.out h.ka h.kn h.kc h.KS rfl HK8.out (by omega) HB78.out.size ?_; intro v' w9 hown hgr; have HOW := Lib.hid hown; have HGR := Lib.hid hgr; clear hown hgr; obtain ⟨aV, cV, rfl⟩ := own_slice HOW.out)
        obtain ⟨gV, curV, rfl, hgV, hcurV, htkV⟩ := (own_cells HOW.out).resolve_left (by omega)
        have HVC : Hid (∀ (p : Nat) x, ((-1 : Int) :: h.KS)[p]? = some x → w9.cell? ⟨gV, p, none⟩ = some (.int .i64 x)) := Lib.hid (fun p x hx => by
          rw [cell_of_row _ _ p _ 3 _ hcurV]
          refine row_at htkV ?_
          have := congrArg (Option.map (Value.int .i64)) hx
          rw [← List.getElem?_map] at this
          exact this)
        have HB9 : Hid (Below wi.heap.size wi w9) := Lib.hid (below_grow (HBY7.out.trans (HB78.out.mono HBY7.out.size)) HGR.out (by have h5 := HBY7.out.size; have h6 := HB78.out.size; omega) (fun g0 h0 => by cases h0; exact HBY7.out.size))
        have HC9 := Lib.hid (HC.out.on HB9.out)
        have HT9 : Hid (w9.heap[T]? = some (.cells (uRow (natI prev)) 3 (0, 0))) := Lib.hid ((HC9.out.below.block T HTL.out).trans HT.out.2)
        have HPC : Hid (∀ q, q < ln → w9.cell? ⟨T, q, none⟩ = some (.int .i64 ((prev.getD q 0 : Nat) : Int))) := Lib.hid (fun q hq => by
          rw [cells_row w9 T (natI prev) HT9.out q (by simp only [natI, List.length_map]; rw [HPL.out]; exact hq), natI_get prev q (by rw [HPL.out]; exact hq)])
        have ti := HPC.out i hil
        have HPI : Hid (prev.getD i 0 < 100) := Lib.hid (HCI.out.1.lt i (by rw [← HL.out]; exact hil))
        clear hgV hcurV htkV c2
        have HKN : Hid (h.kn = h.KS.length) := HKL
        have hss : (sg.size : Int) ≤ 1221 := by have h9 := HSS.out; omega
        go_loop [36, 9] (fun s36 s9 => ∃ (p : Nat) (cur : ByteArray), s36 = .int .i64 (p : Int) ∧ s9 = .string cur ∧ p ≤ h.kn + 1 ∧ (cur.size : Int) ≤ 1221 + p * 3 ∧ Hid (cur = keyB sg ((clsOf prev i h.KS).take p))) (fun s36 _ => h.kn + 1 - (intOf s36).toNat)
        case atStart => exact ⟨0, sg, rfl, rfl, Nat.zero_le _, by omega, Lib.hid rfl⟩
        case round =>
          obtain ⟨p, cur, rfl, rfl, hp, hcs, HCUR⟩ := hrel
          have hwp : IntKind.i64.wrap ((p : Int) + 1) = (p : Int) + 1 := by rw [IntKind.wrap_i64]; omega
          by_cases hpk : p < h.kn + 1
          · have hpk2 : (p : Int) < 1 + (h.kn : Int) := by omega
            have hpk3 : p < 1 + h.kn := by omega
            by_cases hp0 : p = 0
            · have cv : w9.cell? ⟨gV, p, none⟩ = some (.int .i64 (-1)) := HVC.out p (-1) (by rw [hp0]; rfl)
              obtain ⟨c, hc⟩ : ∃ c, prev.getD i 0 = c := ⟨_, rfl⟩
              have HST : Hid (keyB sg ((clsOf prev i h.KS).take (p + 1)) = cur ++ ((⟨#[32]⟩ : ByteArray) ++ itoaB c)) := Lib.hid (by rw [key_step sg (clsOf prev i h.KS) p c (by rw [hp0, ← hc]; rfl), ← HCUR.out])
              rw [hc] at ti
              have hc100 : c < 100 := by have := HPI.out; rw [hc] at this; exact this
              have HIT := Lib.hid (itoa_any c hc100 w9)
              have hsz := itoa_size c hc100
              clear hc hp0
              generalize itoaB c = it at *
              have hsz2 : (it.size : Int) ≤ 2 := by omega
              have hcs2 : cur.size ≤ 2000 := by omega
              go_wp2_with (go_at_call 136; (with_reducible refine HIT.out.mono ?_); rintro e w' ⟨rfl, rfl⟩)
              go_round
              case rel => exact ⟨p + 1, cur ++ ((⟨#[32]⟩ : ByteArray) ++ it), by go_num, rfl, by omega, by rw [ByteArray.size_append, ByteArray.size_append, show (⟨#[32]⟩ : ByteArray).size = 1 from rfl]; omega, Lib.hid HST.out.symm⟩
              case measure => simp [intOf]; omega
            · obtain ⟨p', rfl⟩ : ∃ p', p = p' + 1 := ⟨p - 1, by omega⟩
              obtain ⟨x, hx⟩ : ∃ x, h.KS[p']? = some x := ⟨_, List.getElem?_eq_getElem (by rw [← HKN.out]; omega)⟩
              have hxr := HHK.out.2.2.1 x (List.mem_of_getElem? hx)
              obtain ⟨q, rfl⟩ : ∃ q : Nat, x = (q : Int) := ⟨x.toNat, by omega⟩
              have hql : q < ln := by rw [HL.out]; omega
              have hql2 : (q : Int) < ln := by omega
              have cv : w9.cell? ⟨gV, p' + 1, none⟩ = some (.int .i64 (q : Int)) := HVC.out (p' + 1) (q : Int) (by simpa using hx)
              have tq := HPC.out q hql
              obtain ⟨c, hc⟩ : ∃ c, prev.getD q 0 = c := ⟨_, rfl⟩
              have HST : Hid (keyB sg ((clsOf prev i h.KS).take (p' + 1 + 1)) = cur ++ ((⟨#[32]⟩ : ByteArray) ++ itoaB c)) := Lib.hid (by
                rw [key_step sg (clsOf prev i h.KS) (p' + 1) c (by unfold clsOf; rw [List.getElem?_cons_succ, List.getElem?_map, hx, ← hc]; rfl), ← HCUR.out])
              rw [hc] at tq
              have hc100 : c < 100 := by have := HCI.out.1.lt q (by rw [← HL.out]; exact hql); rw [hc] at this; exact this
              have HIT := Lib.hid (itoa_any c hc100 w9)
              have hsz := itoa_size c hc100
              clear hc hx hxr
              generalize itoaB c = it at *
              have hsz2 : (it.size : Int) ≤ 2 := by omega
              have hcs2 : cur.size ≤ 2000 := by omega
              go_wp2_with (go_at_call 136; (with_reducible refine HIT.out.mono ?_); rintro e w' ⟨rfl, rfl⟩)
              go_round
              case rel => exact ⟨p' + 1 + 1, cur ++ ((⟨#[32]⟩ : ByteArray) ++ it), by go_num, rfl, by omega, by rw [ByteArray.size_append, ByteArray.size_append, show (⟨#[32]⟩ : ByteArray).size = 1 from rfl]; omega, Lib.hid HST.out.symm⟩
              case measure => simp [intOf]; omega
          · have hpk2 : ¬ (p : Int) < 1 + (h.kn : Int) := by omega
            have hck : cur = keyOf' prev i h := by
              rw [HKEY.out, HCUR.out, List.take_of_length_le (by unfold clsOf; simp only [List.length_cons, List.length_map]; rw [← HKN.out]; omega)]
            have HKX : Hid (keyOf Tryz.prog 9 (.string cur) = some (keyS cur)) := Lib.hid (keyOf9 cur (by omega))
            have HOL : Hid (out.length = i) := Lib.hid (by rw [HC.out.nums.len, keysOf_len])
            have HCK := Lib.hid hck
            have nr : w9.cell? ⟨wo.heap.size, i, none⟩ = some (.int .i64 ((part' out ln).getD i 0)) := cells_row w9 wo.heap.size (part' out ln) HC9.out.nrow i (by rw [part_len out ln (by rw [HOL.out]; omega)]; exact hil)
            have nf : w9.frozen? ⟨wo.heap.size, i, none⟩ = false := frozen_of_row _ _ _ _ _ HC9.out.nrow
            have nl : wo.heap.size < w9.heap.size := Nat.lt_of_succ_lt HC9.out.ml
            clear hck ti
            generalize (part' out ln).getD i 0 = z0 at *
            cases hix : idxK seen cur with
            | some q =>
              have hhas : Maps.has D (keyS cur) = true := by rw [HC9.out.mapn.has cur, hix]; rfl
              have HAT : Hid (D.atKey (keyS cur) (.lit (.int .i64 0)) = .lit (.int .i64 (q : Int))) := Lib.hid (by rw [HC9.out.mapn.at_ cur, hix]; rfl)
              have HNX : Hid (stepN seen (keyOf' prev i h) = seen ∧ numK seen (keyOf' prev i h) = q) := Lib.hid (by rw [← HCK.out]; unfold stepN numK; rw [hix]; exact ⟨rfl, rfl⟩)
              clear hix
              go_wp2_with (at_lookup; refine wpList_lookup_own_ok_int _ rfl _ _ 211 rfl 9 3 .i64 (Maps.string_keyed Tryz.underlying9) Tryz.underlying211 Tryz.underlying3 (zero3 _) (wo.heap.size + 1) nn D rfl HC9.out.map _ (keyS cur) rfl HKX.out ?_; intro c hat hwc; obtain rfl : c = (q : Int) := (by have h9 := hat.symm.trans HAT.out; simpa using h9); clear hat hwc)
              go_roundw
              case rel => exact ⟨i + 1, out ++ [q], seen, D, nn, by go_num, by omega, Lib.hid (by
                have := Cls2.step hil HH.out HC9.out.nums HC9.out.nrow HC9.out.map (by rw [HNX.out.1]; exact HC9.out.mapn) HC9.out.below (by have := HC9.out.nnle; omega) HC9.out.ml
                rw [HNX.out.1, HNX.out.2] at this
                exact this)⟩
              case measure => simp [intOf]; omega
            | none =>
              have hhas : Maps.has D (keyS cur) = false := by rw [HC9.out.mapn.has cur, hix]; rfl
              have HIX := Lib.hid hix
              have HNX : Hid (stepN seen (keyOf' prev i h) = seen ++ [cur] ∧ numK seen (keyOf' prev i h) = seen.length) := Lib.hid (by rw [← HCK.out]; unfold stepN numK; rw [hix]; exact ⟨rfl, rfl⟩)
              have HSZ : Hid (Maps.size D = seen.length) := Lib.hid HC9.out.mapn.size
              have hsl : (seen.length : Int) ≤ 100 := by have h8 := HC9.out.nums.le; rw [keysOf_len] at h8; omega
              have HIW : Hid ((Lit.int .i64 (seen.length : Int)).wf = true) := Lib.hid (by simp [Lit.wf, IntKind.min, IntKind.max, IntKind.bits, IntKind.signed]; omega)
              clear hix
              go_upto_region 20 with (first
                | (at_lookup; refine wpList_lookup_own_ok_int _ rfl _ _ 211 rfl 9 3 .i64 (Maps.string_keyed Tryz.underlying9) Tryz.underlying211 Tryz.underlying3 (zero3 _) (wo.heap.size + 1) nn D rfl HC9.out.map _ (keyS cur) rfl HKX.out ?_; intro c hat hwc; clear hat hwc)
                | (at_len; refine wpList_len_own _ rfl _ 211 rfl 9 3 Tryz.underlying211 _ (wo.heap.size + 1) nn D rfl HC9.out.map ?_; rw [HSZ.out])
                | (at_mapUpdate; refine wpList_mapUpdate_own _ rfl _ _ _ 211 rfl 9 3 (Maps.string_keyed Tryz.underlying9) Tryz.underlying211 _ (wo.heap.size + 1) nn D rfl HC9.out.map (by have h8 := HC9.out.nnle; unfold maxLen; omega) _ _ _ rfl rfl HKX.out _ [] (plainElem_int Tryz.underlying3 HIW.out) ?_; intro w10 hown10 hgrow10; have HO10 := Lib.hid hown10; have HG10 := Lib.hid hgrow10; clear hown10 hgrow10))
              have HN10 : Hid (w10.heap[wo.heap.size]? = some (.cells (uRow (part' out ln)) 3 (0, 0))) := Lib.hid ((HG10.out.block _ nl (by simp)).trans HC9.out.nrow)
              have HB10 : Hid (Below wo.heap.size wo w10) := Lib.hid (below_grow HC9.out.below HG10.out (Nat.le_of_lt nl) (fun g0 h0 => by cases h0; omega))
              have HM10 : Hid (wo.heap.size + 1 < w10.heap.size) := Lib.hid (Nat.lt_of_lt_of_le HC9.out.ml HG10.out.size)
              have nr1 : w10.cell? ⟨wo.heap.size, i, none⟩ = some (.int .i64 ((part' out ln).getD i 0)) := cells_row w10 wo.heap.size (part' out ln) HN10.out i (by rw [part_len out ln (by rw [HOL.out]; omega)]; exact hil)
              have nf1 : w10.frozen? ⟨wo.heap.size, i, none⟩ = false := frozen_of_row _ _ _ _ _ HN10.out
              have nl1 : wo.heap.size < w10.heap.size := Nat.lt_of_succ_lt HM10.out
              generalize (part' out ln).getD i 0 = z1 at *
              go_wp2
              go_roundw
              case rel => exact ⟨i + 1, out ++ [seen.length], seen ++ [cur], _, nn + 1, by go_num, by omega, Lib.hid (by
                have := Cls2.step hil HH.out HC9.out.nums HN10.out HO10.out (by rw [HNX.out.1]; exact HC9.out.mapn.put cur HIX.out) HB10.out (by have := HC9.out.nnle; omega) HM10.out
                rw [HNX.out.1, HNX.out.2] at this
                exact this)⟩
              case measure => simp [intOf]; omega
      · have hil2 : ¬ (i : Int) < ln := by omega
        obtain rfl : i = ln := by omega
        have HSZ : Hid (Maps.size D = seen.length) := Lib.hid HC.out.mapn.size
        have HNUM : Hid (NumI (keysOf prev HS HS.length) seen out) := Lib.hid (by have h9 := HC.out.nums; rw [HL.out] at h9; exact h9)
        have HKL := Lib.hid (keysOf_len prev HS HS.length)
        have HKA := Lib.hid (keysOf_at prev HS)
        have HOL : Hid (out.length = i) := Lib.hid (by rw [HC.out.nums.len, keysOf_len])
        have HNC := Lib.hid (next_cls (by rw [← HL.out]; exact h25) HNUM.out HKL.out)
        have HCO := Lib.hid (next_coarse HOK.out HCI.out.2 HCI.out.1 HNUM.out HKL.out HKA.out)
        have HLE := Lib.hid (count_le HOK.out HCI.out.1 HNUM.out HKL.out HKA.out)
        have HSL : Hid (seen.length ≤ i) := Lib.hid (by have h8 := HNUM.out.le; rw [HKL.out, ← HL.out] at h8; exact h8)
        have HROW : Hid (wr.heap[wo.heap.size]? = some (.cells (uRow (natI out)) 3 (0, 0))) := Lib.hid (by have h9 := HC.out.nrow; rw [← HOL.out, part_all] at h9; exact h9)
        have HBF : Hid (Below w.heap.size w wr) := Lib.hid (HB.out.trans (HC.out.below.mono HB.out.size))
        by_cases hsc : seen.length = count
        · have hse : ((seen.length : Int) == (count : Int)) = true := by simp [hsc]
          have HSD := Lib.hid (next_stands (by rw [← HL.out]; exact h1) HOK.out HCI.out.1 HNUM.out HKL.out HKA.out hsc)
          clear hsc
          go_wp2_with (at_len; refine wpList_len_own _ rfl _ 211 rfl 9 3 Tryz.underlying211 _ (wo.heap.size + 1) nn D rfl HC.out.map ?_; rw [HSZ.out])
          go_ret
          exact ⟨wo.heap.size, out, rfl, HB.out.size, HROW.out, by rw [HOL.out, HL.out], HNC.out.lt, HSD.out, HCO.out, HBF.out⟩
        · have hse : ((seen.length : Int) == (count : Int)) = false := by simp; omega
          have HLT : Hid (count < seen.length) := Lib.hid (by have := HLE.out; omega)
          clear hsc
          go_wp2_with (at_len; refine wpList_len_own _ rfl _ 211 rfl 9 3 Tryz.underlying211 _ (wo.heap.size + 1) nn D rfl HC.out.map ?_; rw [HSZ.out])
          go_roundg (i - seen.length)
          case rel => exact ⟨wo.heap.size, out, seen.length, rfl, rfl, HSL.out, Lib.hid rfl, Lib.hid ⟨HB.out.size, HROW.out⟩, Lib.hid ⟨HNC.out, HCO.out⟩, HBF⟩
          case measure => rw [HGK.out]; have := HLT.out; have := HSL.out; omega
end Go.Proofs.YtifilhkkgkihpaaGreatDoor
set_option linter.unusedSimpArgs false
set_option linter.unusedVariables false
namespace Go.Proofs.YtifilhkkgkihpaaGreatDoor
open Go.RowKit
abbrev keyI (c : Nat) : Lit := .int .i64 (c : Int)
theorem keyI_inj {x y : Nat} (h : keyI x = keyI y) : x = y := by
  have := (Lit.int.inj h).2
  omega
theorem keyI_is (x : Nat) : WideAt.IsKeyLit (keyI x) := by simp [WideAt.IsKeyLit]
theorem wf_small (x : Nat) (h : x ≤ 100000) : (Lit.int .i64 (x : Int)).wf = true := by simp [Lit.wf, IntKind.min, IntKind.max, IntKind.bits, IntKind.signed]; omega
theorem keyOf3 (x : Nat) (h : x ≤ 100000) : keyOf Tryz.prog 3 (.int .i64 (x : Int)) = some (keyI x) := Maps.keyOf_int_mk Tryz.underlying3 (wf_small x h)
structure MapF (D : DataW Unit) (f : Nat → Option Nat) : Prop where
  tidy : Maps.Tidy D
  has : ∀ x, Maps.has D (keyI x) = (f x).isSome
  at_ : ∀ x, D.atKey (keyI x) (.lit (.int .i64 0)) = .lit (.int .i64 (((f x).getD 0 : Nat) : Int))
theorem MapF.nil : MapF (.map []) (fun _ => none) := ⟨Maps.tidy_empty, fun _ => rfl, fun _ => rfl⟩
theorem MapF.put {D : DataW Unit} {f : Nat → Option Nat} (h : MapF D f) (c v : Nat) : MapF (D.put (keyI c) (.lit (.int .i64 (v : Int)))) (fun x => if x = c then some v else f x) where
  tidy := h.tidy.put (keyI_is c) _
  has y := by
    by_cases hxy : y = c
    · subst hxy
      rw [Maps.has_put_same h.tidy.isMap (keyI_is y)]; simp
    · rw [Maps.has_put_other (fun e => hxy (keyI_inj e)), h.has y]; simp [hxy]
  at_ y := by
    by_cases hxy : y = c
    · subst hxy
      rw [Maps.atKey_put_same h.tidy.isMap (keyI_is y)]; simp
    · rw [Maps.atKey_put_other (fun e => hxy (keyI_inj e)), h.at_ y]; simp [hxy]
theorem wpList_insert_own {H : Type} {P : Program} (w : World) {ops : Array Oper} {rest : List Oper} {o : Oper} {a : Act} {Q : Exit → Act → World → Prop}
    (hg : o.guard = none) (m x v : Operand) (t : TypeId) (hop : o.op = Op.insert t m x v) (k e : TypeId) (K : Maps.Keyed P k) (ht : P.underlying t = some (.map k e)) (R : Value → Option (DataW H × List MemPlace)) (b n : Nat) (D : DataW H)
    (hm : a.eval m = .map (some b)) (hown : w.ownsMap P k R b n D) (hn : n < maxLen) (key val : Value) (kl : Lit) (hx : a.eval x = key) (hv : a.eval v = val) (hkey : keyOf P k key = some kl) (d : DataW H) (ps : List MemPlace) (hval : R val = some (d, ps))
    (hK : ∀ w', w'.ownsMap P k R b (n + 1) (D.put kl d) → w.grownBy w' (some b) → wpList P ops Q rest (a.put o.dst undef) w') : wpList P ops Q (o :: rest) a w := by
  refine wpList_plain hg fun K' hK' => ?_
  obtain ⟨w', hrun, r1, r2⟩ := hown.update K ht hn hkey hval
  unfold Oper.wp
  simp [execOp, hop, hm, hx, hv, hrun, Result.andThen]
  exact hK' _ _ (hK w' r1 r2)
/-- where a number stands in a row. -/
def idxN : List Nat → Nat → Option Nat
  | [], _ => none
  | a :: l, x => if a = x then some 0 else (idxN l x).map (· + 1)
theorem idxN_some : ∀ (l : List Nat) (x p : Nat), idxN l x = some p → l[p]? = some x
  | a :: l, x, p, h => by
    unfold idxN at h
    by_cases ha : a = x
    · rw [if_pos ha] at h; cases h; simp [ha]
    · rw [if_neg ha] at h
      cases hi : idxN l x with
      | none => rw [hi] at h; cases h
      | some q => rw [hi] at h; cases h; simpa using idxN_some l x q hi
theorem idxN_app : ∀ (l m : List Nat) (x p : Nat), idxN l x = some p → idxN (l ++ m) x = some p
  | a :: l, m, x, p, h => by
    rw [List.cons_append]
    unfold idxN at h ⊢
    by_cases ha : a = x
    · rw [if_pos ha] at h ⊢; exact h
    · rw [if_neg ha] at h ⊢
      cases hi : idxN l x with
      | none => rw [hi] at h; cases h
      | some q => rw [hi] at h; rw [idxN_app l m x q hi]; exact h
theorem idxN_new : ∀ (l : List Nat) (x y : Nat), idxN l x = none → idxN (l ++ [x]) y = if y = x then some l.length else idxN l y
  | [], x, y, _ => by
    by_cases h : y = x
    · simp [idxN, h]
    · simp [idxN, h, Ne.symm h]
  | a :: l, x, y, h => by
    rw [List.cons_append]
    unfold idxN at h ⊢
    by_cases ha : a = x
    · rw [if_pos ha] at h; cases h
    · rw [if_neg ha] at h
      have hn : idxN l x = none := by cases hi : idxN l x with
        | none => rfl
        | some q => rw [hi] at h; cases h
      rw [idxN_new l x y hn]
      by_cases hy : a = y
      · rw [if_pos hy, if_pos hy, if_neg (fun e => ha (by rw [hy, e]))]
      · rw [if_neg hy, if_neg hy]
        by_cases hyx : y = x
        · simp [hyx]
        · simp [hyx]
theorem idxN_none (l : List Nat) (x : Nat) (h : idxN l x = none) : x ∉ l := by
  induction l with
  | nil => simp
  | cons a l ih =>
    unfold idxN at h
    by_cases ha : a = x
    · rw [if_pos ha] at h; cases h
    · rw [if_neg ha] at h
      have hn : idxN l x = none := by cases hi : idxN l x with
        | none => rfl
        | some q => rw [hi] at h; cases h
      have := ih hn
      simp [this, Ne.symm ha]
/-- numbers that are told one behind the other: each is known, or the next new one. -/
def growF : List Int → Nat → Option Nat
  | [], n => some n
  | d :: l, n => if 0 ≤ d ∧ d < n then growF l n else if d = n then growF l (n + 1) else none
theorem growF_app : ∀ (l m : List Int) (n : Nat), growF (l ++ m) n = (growF l n).bind (growF m)
  | [], m, n => rfl
  | d :: l, m, n => by
    rw [List.cons_append]
    unfold growF
    split
    · exact growF_app l m n
    · split
      · exact growF_app l m (n + 1)
      · rfl
/-- the number of a class: where it stands among those met. -/
def posN (ord : List Nat) (c : Nat) : Int := ((idxN ord c).getD 0 : Nat)
/-- a head of the normal graph is that of some head. -/
structure NHead (HS : List Hd) (cl ord : List Nat) (c : Nat) (x : Hd) : Prop where
  of : ∃ (r : Nat) (h : Hd), HS[r]? = some h ∧ cl.getD r 0 = c ∧ x.kd = h.kd ∧ x.op = h.op ∧ x.NS = h.NS ∧ x.KS = h.KS.map (fun k => posN ord (cl.getD k.toNat 0)) ∧ ∀ k ∈ h.KS, (idxN ord (cl.getD k.toNat 0)).isSome = true
theorem posN_app {ord : List Nat} {c : Nat} (m : List Nat) (h : (idxN ord c).isSome = true) : posN (ord ++ m) c = posN ord c ∧ (idxN (ord ++ m) c).isSome = true := by
  obtain ⟨p, hp⟩ := Option.isSome_iff_exists.1 h
  unfold posN
  rw [idxN_app _ _ _ _ hp, hp]
  exact ⟨rfl, rfl⟩
theorem NHead.app {HS : List Hd} {cl ord : List Nat} {c : Nat} {x : Hd} (h : NHead HS cl ord c x) (m : List Nat) : NHead HS cl (ord ++ m) c x := by
  obtain ⟨r, y, h1, h2, h3, h4, h5, h6, h7⟩ := h.of
  refine ⟨r, y, h1, h2, h3, h4, h5, ?_, fun k hk => (posN_app m (h7 k hk)).2⟩
  rw [h6]
  refine List.map_congr_left (fun k hk => ?_)
  exact (posN_app m (h7 k hk)).1.symm
theorem nodup_len : ∀ (c : Nat) (l : List Nat), l.Nodup → (∀ x ∈ l, x < c) → l.length ≤ c
  | 0, l, _, h => by
    cases l with
    | nil => simp
    | cons a l => have := h a (by simp); omega
  | c + 1, l, hn, h => by
    have := nodup_len c (l.erase c) (hn.erase c) (fun x hx => by
      have h1 := h x (List.mem_of_mem_erase hx)
      have h2 : x ≠ c := fun e => by subst e; exact (hn.not_mem_erase) hx
      omega)
    have h3 : l.length ≤ (l.erase c).length + 1 := by
      by_cases hc : c ∈ l
      · rw [List.length_erase_of_mem hc]; omega
      · rw [List.erase_of_not_mem hc]; omega
    omega
end Go.Proofs.YtifilhkkgkihpaaGreatDoor
