/- Walks: KeepPlays's closure 'take': the pair of a key goes out of the law's own list. -/
import Derived.Test.YtebldhppnacdjabPa
import Derived.Test.YtebldhppnacdjabKu
import Derived.Deep.RegionHeld3
import Derived.Deep.DeepCutAuto
import Derived.Deep.CutBlock
set_option linter.unusedVariables false
namespace Go.Proofs.Ytebldhppnacdjab
open Go.RowKit
theorem run_append_some (w : World) (ty : TypeId) (base h n c0 : Nat) (xs : List Value) (hown : w.ownsRow base 43 2 (.slice (some ⟨h, 0, none⟩) n c0) n xs) (ad : Addr) (m c : Nat) (news : List Value) (hl : news.length = m * 2) (hnews : ∀ j u, news[j]? = some u → w.cell? (ad.add j) = some u) (h1 : ∀ u ∈ news, u.oneCell' = true)
    (hn : n + m ≤ 100000) (hbase : base ≤ w.heap.size) :
    ∃ g cap w', (Builtin.append_ #[41, 41] ty #[.slice (some ⟨h, 0, none⟩) n c0, .slice (some ad) m c]).run Try.prog w = .ok (.slice (some ⟨g, 0, none⟩) (n + m) cap) w' ∧
      w'.ownsRow base 43 2 (.slice (some ⟨g, 0, none⟩) (n + m) cap) (n + m) (xs ++ news) ∧ w.grownBy w' (some h) := by
  obtain ⟨i0, hi, hz0, hz1, hz2⟩ := info_parts Try.info43
  obtain ⟨v', w', r1, r2, r3, r4⟩ := run_append_own (P := Try.prog) w base 41 ty 43 i0 (.agg #[.string ByteArray.empty, .int .i64 0]) 2 24 Try.underlying41 hi hz0 hz1 hz2 rfl (by decide) _ n xs hown ad m c news hl hnews h1 (by unfold maxLen; omega) (by omega) hbase
  rcases r2.2 with ⟨hv, -⟩ | ⟨g, cap, cur, hv, hr⟩
  · have := (r4.1 hv).1
    simp at this
  · subst hv
    exact ⟨g, cap, w', r1, r2, r3⟩
theorem step_append_some {ops : Array Oper} {o : Oper} {a : Act} {w : World} {K : Act → World → Prop} {Q : Exit → Act → World → Prop} {E : Prop} (hgd : o.guard = none) (s x : Operand)
    (ho : o.op = .call { callee := .builtin .append, args := #[s, x], argTypes := #[41, 41] }) (base h n c0 : Nat) (xs : List Value) (hs : a.eval s = .slice (some ⟨h, 0, none⟩) n c0) (hown : w.ownsRow base 43 2 (.slice (some ⟨h, 0, none⟩) n c0) n xs)
    (ad : Addr) (m c : Nat) (news : List Value) (hx : a.eval x = .slice (some ad) m c) (hl : news.length = m * 2) (hnews : ∀ j u, news[j]? = some u → w.cell? (ad.add j) = some u) (h1 : ∀ u ∈ news, u.oneCell' = true) (hn : n + m ≤ 100000) (hbase : base ≤ w.heap.size)
    (hK : ∀ g cap w', w'.ownsRow base 43 2 (.slice (some ⟨g, 0, none⟩) (n + m) cap) (n + m) (xs ++ news) → w.grownBy w' (some h) → K (a.put o.dst (.slice (some ⟨g, 0, none⟩) (n + m) cap)) w') :
    if Region.wanted o (yielded ops a.tmps) = true then Oper.wp Try.prog o a w K Q else E := by
  have hw : Region.wanted o (yielded ops a.tmps) = true := by simp [Region.wanted, hgd]
  rw [if_pos hw]
  obtain ⟨g, cap, w', hr, h2, h3⟩ := run_append_some w o.type base h n c0 xs hown ad m c news hl hnews h1 hn hbase
  unfold Oper.wp execOp
  simp only [ho, resolve, invoke, builtin, Sem.run_bind, Sem.run_pure, Result.andThen_ok, List.map_toArray, List.map_cons, List.map_nil, hs, hx, hr]
  exact hK g cap w' h2 h3
theorem aFind_at : ∀ {P : List (List Int × Int)} {k : Nat} {q : List Int × Int} {l : List Int}, P[k]? = some q → q.1 = l → (∀ j q', j < k → P[j]? = some q' → q'.1 ≠ l) → aFind P l = some q.2
  | [], k, q, l, h, _, _ => by simp at h
  | a :: P, 0, q, l, h, hq, _ => by
    simp at h; subst h
    unfold aFind
    rw [List.find?_cons, decide_eq_true hq]
    rfl
  | a :: P, k + 1, q, l, h, hq, hn => by
    have h0 := hn 0 a (by omega) rfl
    have := aFind_at (P := P) (k := k) (q := q) (l := l) (by simpa using h) hq (fun j q' hj hj' => hn (j + 1) q' (by omega) (by simpa using hj'))
    unfold aFind at this ⊢
    rw [List.find?_cons, decide_eq_false h0]
    exact this
theorem aFind_gone {P : List (List Int × Int)} {l : List Int} (h : ∀ (j : Nat) q', P[j]? = some q' → q'.1 ≠ l) : aFind P l = none := by
  unfold aFind
  rw [List.find?_eq_none.2]
  · rfl
  · intro q hq hc
    obtain ⟨j, hj⟩ := List.getElem?_of_mem hq
    exact h j q hj (of_decide_eq_true hc)
theorem aDel_at {P : List (List Int × Int)} {k : Nat} {q : List Int × Int} (h : P[k]? = some q) (hd : P.Pairwise (fun q q' => q.1 ≠ q'.1)) : aDel P q.1 = P.take k ++ P.drop (k + 1) := by
  have hs := split_at h
  rw [hs] at hd
  rw [List.pairwise_append, List.pairwise_cons] at hd
  obtain ⟨-, ⟨h2, -⟩, h3⟩ := hd
  unfold aDel
  conv => lhs; rw [hs]
  rw [List.filter_append, List.filter_cons]
  have e0 : decide (q.1 ≠ q.1) = false := by simp
  rw [e0, if_neg (by decide)]
  congr 1
  · exact List.filter_eq_self.2 (fun a ha => decide_eq_true (h3 a ha q (by simp)))
  · exact List.filter_eq_self.2 (fun a ha => decide_eq_true (fun hc => h2 a ha hc.symm))
/-- what 'take' leaves alone, and hands back. -/
def TakeEnd (w : World) (base Mb : Nat) (P : List (List Int × Int)) (l : List Int) (e : Ending) (w' : World) : Prop :=
  Below base w w' ∧ (∀ k, k < w.heap.size → k ≠ Mb → w'.heap[k]? = w.heap[k]?) ∧
    ((∃ x, aFind P l = some x ∧ e = .returned (.tuple #[.int .i64 x, .bool true]) ∧ ∃ g n c, w'.heap[Mb]? = some (.cells #[.slice (some g) n c] 41 (0, 0)) ∧ Win w' base (.slice (some g) n c) (aDel P l) ∧ w.heap.size ≤ g.block) ∨
     (aFind P l = none ∧ e = .returned (.tuple #[.int .i64 0, .bool false]) ∧ w'.heap[Mb]? = w.heap[Mb]?))
theorem take_done {w w1 w6 : World} {base Mb g6 cap6 k cnt : Nat} {P : List (List Int × Int)} {q : List Int × Int} {l : List Int} (hB1 : Below w.heap.size w w1) (hB6 : Below w1.heap.size w1 w6) (hMl : Mb < w.heap.size) (hb : base ≤ Mb) (hbw : base ≤ w.heap.size) (hM6 : ∃ v, w6.heap[Mb]? = some (.cells #[v] 41 (0, 0)))
    (hq : P[k]? = some q) (hql : q.1 = l) (hno : ∀ (j : Nat) q', j < k → P[j]? = some q' → q'.1 ≠ l) (hd : P.Pairwise (fun q q' => q.1 ≠ q'.1)) (hown6 : w6.ownsRow w1.heap.size 43 2 (.slice (some ⟨g6, 0, none⟩) cnt cap6) cnt ((pairs P).take (k * 2) ++ (pairs P).drop ((k + 1) * 2))) :
    TakeEnd w base Mb P l (.returned (.tuple #[.int .i64 q.2, .bool true])) (w6.setCell ⟨Mb, 0, none⟩ (.slice (some ⟨g6, 0, none⟩) cnt cap6)) := by
  obtain ⟨v, hM6⟩ := hM6
  have hs1 := hB1.size
  have hdel := aDel_at hq hd
  rw [hql] at hdel
  have hpp : (pairs P).take (k * 2) ++ (pairs P).drop ((k + 1) * 2) = pairs (aDel P l) := by rw [pairs_take, pairs_drop, hdel, pairs_append]
  rw [hpp] at hown6
  have hcnt : cnt = (aDel P l).length := by
    have h1 := hown6.1
    rw [pairs_length] at h1
    omega
  have hg6 := ownsRow_ge hown6 g6 rfl
  have hw6 := Win.of_own (base := base) hown6 (by omega) hcnt
  have hoff : ∀ k, k ≠ Mb → (w6.setCell ⟨Mb, 0, none⟩ (.slice (some ⟨g6, 0, none⟩) cnt cap6)).heap[k]? = w6.heap[k]? := fun k hk => Below.heap_setCell _ _ _ _ (by simpa using hk)
  refine ⟨((hB1.trans (hB6.mono hs1)).mono hbw).setCell (p := ⟨Mb, 0, none⟩) hb _, fun j h1 h2 => (hoff j h2).trans ((hB6.block j (by omega)).trans (hB1.block j h1)), Or.inl ⟨q.2, aFind_at hq hql hno, rfl, ⟨g6, 0, none⟩, cnt, cap6, heap_setCell_same w6 Mb 0 _ 41 _ hM6, hw6.keep (fun g' hg' => ?_), by show w.heap.size ≤ g6; omega⟩⟩
  cases hg'
  exact hoff g6 (by omega)
theorem take_nil (w : World) (base Mb : Nat) (l : List Int) (hm : w.heap[Mb]? = some (.cells #[.slice none 0 0] 41 (0, 0))) (hb : base ≤ Mb) (hbw : base ≤ w.heap.size) :
    Calls Try.prog 15 #[.string (strOfNums l), .pointer (some ⟨Mb, 0, none⟩)] w fun e w' => TakeEnd w base Mb [] l e w' := by
  have m0 : w.cell? ⟨Mb, 0, none⟩ = some (.slice none 0 0) := cell_of_one hm
  generalize hs : strOfNums l = s
  clear hs hm
  go_enter Try.func15, Try.ntmps15
  go_wp2
  go_loopw [9] (fun i wr => i = .int .i64 0 ∧ wr = w) (fun _ _ => 0)
  case atStart => exact ⟨rfl, rfl⟩
  case round =>
    obtain ⟨rfl, rfl⟩ := hrel
    go_wp2
    go_ret2
    exact ⟨Below.refl _ _, fun _ _ _ => rfl, Or.inr ⟨rfl, rfl, rfl⟩⟩
set_option maxRecDepth 20000 in
set_option maxHeartbeats 4000000 in
theorem take_any (w : World) (base Mb g off cap : Nat) (P : List (List Int × Int)) (l : List Int) (hP : P.length ≤ 10000) (hw : Win w base (.slice (some ⟨g, off, none⟩) P.length cap) P) (hm : w.heap[Mb]? = some (.cells #[.slice (some ⟨g, off, none⟩) P.length cap] 41 (0, 0))) (hgM : g ≠ Mb) (hl : Byt l) (hPb : ∀ q ∈ P, Byt q.1)
    (hd : P.Pairwise (fun q q' => q.1 ≠ q'.1)) (hb : base ≤ Mb) (hbw : base ≤ w.heap.size) :
    Calls Try.prog 15 #[.string (strOfNums l), .pointer (some ⟨Mb, 0, none⟩)] w fun e w' => TakeEnd w base Mb P l e w' := by
  have hwin : g < w.heap.size ∧ P.length ≤ cap ∧ ∀ j u, (pairs P)[j]? = some u → w.cell? ⟨g, off + j, none⟩ = some u := by
    rcases hw with ⟨h, -⟩ | ⟨g', off', cap', cur, h, e2, e3, e4, e5, e6, e7⟩
    · simp at h
    · simp only [Value.slice.injEq, Option.some.injEq, Addr.mk.injEq, and_true, true_and] at h
      obtain ⟨⟨rfl, rfl⟩, rfl⟩ := h
      exact ⟨(Array.getElem?_eq_some_iff.1 e3).1, e4, fun j u hu => win_cell e3 e7 hu⟩
  obtain ⟨hgl, hcap, hcell⟩ := hwin
  have HC := Lib.hid hcell
  have HM := Lib.hid hm
  have HD := Lib.hid hd
  have HPB := Lib.hid hPb
  have HL := Lib.hid hl
  have hMl : Mb < w.heap.size := (Array.getElem?_eq_some_iff.1 hm).1
  have m0 : w.cell? ⟨Mb, 0, none⟩ = some (.slice (some ⟨g, off, none⟩) P.length cap) := cell_of_one hm
  obtain ⟨n, hn⟩ : ∃ n, n = P.length := ⟨_, rfl⟩
  have HN := Lib.hid hn
  rw [← hn] at m0 hP hcap
  obtain ⟨s2, hs2⟩ : ∃ s2, s2 = strOfNums l := ⟨_, rfl⟩
  have HS2 := Lib.hid hs2
  rw [← hs2]
  clear hw hm hcell hd hPb hl hn hs2
  go_enter Try.func15, Try.ntmps15
  go_wp2
  clear m0
  go_loopw [9] (fun i wr => ∃ k : Nat, k ≤ n ∧ i = .int .i64 (k : Int) ∧ Below w.heap.size w wr ∧ Hid (∀ (j : Nat) q', j < k → P[j]? = some q' → q'.1 ≠ l)) (fun i _ => n - (intOf i).toNat)
  case atStart => exact ⟨0, by omega, rfl, Below.refl _ _, Lib.hid (fun j q' h => by omega)⟩
  case round =>
    obtain ⟨k, hk, rfl, hbe, HNO⟩ := hrel
    by_cases hlt : k < n
    · obtain ⟨q, hq⟩ : ∃ q, P[k]? = some q := ⟨P[k]'(by rw [← HN.out]; exact hlt), List.getElem?_eq_getElem _⟩
      obtain ⟨p0, p1⟩ := pairs_at P k q hq
      have d0 : wr.cell? ⟨g, off + k * 2, none⟩ = some (.string (strOfNums q.1)) := by rw [← HC.out _ _ p0]; exact hbe.cell (p := ⟨g, off + k * 2, none⟩) hgl
      have d1 : wr.cell? ⟨g, off + k * 2 + 1, none⟩ = some (.int .i64 q.2) := by rw [← HC.out _ _ p1]; exact hbe.cell (p := ⟨g, off + (k * 2 + 1), none⟩) hgl
      have HQ := Lib.hid hq
      have hqb := HPB.out q (List.mem_of_getElem? hq)
      obtain ⟨s1, hs1⟩ : ∃ s1, s1 = strOfNums q.1 := ⟨_, rfl⟩
      have HS1 := Lib.hid hs1
      have HKE := Lib.hid (keyEq_iff hqb HL.out)
      have HKN := Lib.hid (keyEq_no hqb HL.out)
      obtain ⟨x, hx⟩ : ∃ x, x = q.2 := ⟨_, rfl⟩
      have HX := Lib.hid hx
      rw [← hs1] at d0
      rw [← hx] at d1
      clear p0 p1 hq hqb hs1 hx
      by_cases hql : q.1 = l
      · have hE : (s1.toList == s2.toList) = true := by rw [HS1.out, HS2.out]; exact HKE.out.2 hql
        have HQL := Lib.hid hql
        clear hql
        by_cases hck : cap = k + 1
        · obtain rfl : n = k + 1 := by omega
          subst hck
          have hE2 := Lib.hid hE
          go_upto_region 5 with (fail)
          have HX1 := Lib.hid (heap_alloc_new wr (.cells #[.string s1, .int .i64 x] 43))
          have hB1 : Below w.heap.size w (wr.alloc (.cells #[.string s1, .int .i64 x] 43)) := hbe.alloc hbe.size _
          have hBl : wr.heap.size < (wr.alloc (.cells #[.string s1, .int .i64 x] 43)).heap.size := by simp
          have hBM : wr.heap.size ≠ Mb := by have := hbe.size; omega
          clear d0 d1 hE
          generalize hw1 : wr.alloc (.cells #[.string s1, .int .i64 x] 43) = w1 at *
          clear hw1
          obtain ⟨B, hB⟩ : ∃ B, B = wr.heap.size := ⟨_, rfl⟩
          rw [← hB] at HX1 hBl hBM ⊢
          clear hB
          have hM1 : w1.heap[Mb]? = some (.cells #[.slice (some ⟨g, off, none⟩) (k + 1) (k + 1)] 41 (0, 0)) := (hB1.block Mb hMl).trans (by rw [HM.out, ← HN.out])
          have q2 : w1.cell? ⟨Mb, 0, none⟩ = some (.slice (some ⟨g, off, none⟩) (k + 1) (k + 1)) := cell_of_one hM1
          have qf : w1.frozen? ⟨Mb, 0, none⟩ = false := frozen_of_row w1 Mb 0 _ 41 hM1
          have hC1 : ∀ (w' : World), w'.heap[g]? = w1.heap[g]? → ∀ j u, (pairs P)[j]? = some u → w'.cell? ⟨g, off + j, none⟩ = some u := fun w' hg' j u hu => by
            rw [← HC.out j u hu, World.cell?_of_block (w := w1) (w' := w') (a := ⟨g, off + j, none⟩) hg']
            exact hB1.cell (p := ⟨g, off + j, none⟩) hgl
          have HC1 := Lib.hid hC1
          have hs1 := hB1.size
          have hlen := pairs_length P
          rw [← HN.out] at hlen
          have hl1 : ((pairs P).take (k * 2)).length = k * 2 := by rw [List.length_take]; omega
          have hl2 : ((pairs P).drop ((k + 1) * 2)).length = 0 * 2 := by rw [List.length_drop]; omega
          have HL1 := Lib.hid hl1
          have HL2 := Lib.hid hl2
          have HO1 : Hid (∀ u ∈ (pairs P).take (k * 2), u.oneCell' = true) := Lib.hid fun u hu => pairs_one P u (List.mem_of_mem_take hu)
          have HO2 : Hid (∀ u ∈ (pairs P).drop ((k + 1) * 2), u.oneCell' = true) := Lib.hid fun u hu => pairs_one P u (List.mem_of_mem_drop hu)
          have own0 : (w1.drew.alloc (.cells #[] 43)).ownsRow w1.heap.size 43 2 (.slice (some ⟨w1.heap.size, 0, none⟩) 0 0) 0 [] := ⟨rfl, Or.inr ⟨w1.heap.size, 0, #[], rfl, Nat.le_refl _, heap_alloc_new w1.drew _, Nat.le_refl _, by decide, rfl, rfl⟩⟩
          have HOW := Lib.hid own0
          have HM1 := Lib.hid hM1
          have j1 : (k : Int) ≤ (k + 1 : Nat) := by omega
          have j2 : (k : Int) + 1 ≤ (k + 1 : Nat) := by omega
          have j3 : (k : Int) + 1 ≤ (k + 1 : Nat) := by omega
          have j4 : (0 : Int) ≤ (k : Int) + 1 := by omega
          have j5 : ((k + 1 : Nat) : Int) ≤ (k + 1 : Nat) := by omega
          have j7 : (k : Int) ≤ (k : Int) + 1 := by omega
          have hwr : IntKind.i64.wrap ((k : Int) + 1) = (k : Int) + 1 := by rw [IntKind.wrap_i64]; omega
          have j8 : (0 : Nat) = 0 := rfl
          have v2 : ∀ o, (w1.alloc o).cell? ⟨Mb, 0, none⟩ = some (.slice (some ⟨g, off, none⟩) (k + 1) (k + 1)) := fun o => cell_of_one ((Below.heap_alloc w1 o Mb (by omega)).trans hM1)
          have u2 : ∀ o, (w1.drew.alloc o).cell? ⟨Mb, 0, none⟩ = some (.slice (some ⟨g, off, none⟩) (k + 1) (k + 1)) := fun o => cell_of_one ((Below.heap_alloc w1.drew o Mb (by show Mb < w1.heap.size; omega)).trans hM1)
          clear hC1 hlen hl1 hl2 own0 hM1
          go_region_law
            (first
              | (refine step_append_some (w := w1.drew.alloc (.cells #[] 43)) rfl _ _ rfl w1.heap.size w1.heap.size 0 0 [] rfl HOW.out ⟨g, off, none⟩ k (k + 1) ((pairs P).take (k * 2)) rfl HL1.out (fun j u hu => by rw [Addr.add_mid]; exact HC1.out _ (Below.heap_alloc w1.drew _ g (by show g < w1.heap.size; omega)) j u (by rw [List.getElem?_take] at hu; split at hu; exact hu; cases hu)) HO1.out (by omega) (by simp) ?_; intro g5 cap5 w5 hown5 hgr5; simp only [Nat.zero_add, List.nil_append] at hown5; have hf5 : ∀ b, b < w1.heap.size → w5.heap[b]? = w1.heap[b]? := fun b hb => (hgr5.block b (by simp; omega) (fun e => by have := Option.some.inj e; omega)).trans (Below.heap_alloc w1.drew _ b hb); have hM5 : w5.heap[Mb]? = some (.cells #[.slice (some ⟨g, off, none⟩) (k + 1) (k + 1)] 41 (0, 0)) := (hf5 Mb (by omega)).trans HM1.out; have e2 : w5.cell? ⟨Mb, 0, none⟩ = some (.slice (some ⟨g, off, none⟩) (k + 1) (k + 1)) := cell_of_one hM5; have hg5 := ownsRow_ge hown5 g5 rfl; have hs5 := hgr5.size; have hB5 := Below.grown (((Below.refl w1.heap.size w1).drew).alloc (Nat.le_refl _) (.cells #[] 43)) hgr5 (by simp) (fun b hb => by have := Option.some.inj hb; omega))
              | (refine step_append_some (w := w5) rfl _ _ rfl w1.heap.size g5 k cap5 _ rfl hown5 ⟨g, off, none⟩ (0) (0) ((pairs P).drop ((k + 1) * 2)) rfl HL2.out (fun j u hu => by have := HL2.out; have := (List.getElem?_eq_some_iff.1 hu).1; omega) HO2.out (by omega) (by simp at hs5; omega) ?_; intro g6 cap6 w6 hown6 hgr6; have hf6 : ∀ b, b < w1.heap.size → w6.heap[b]? = w1.heap[b]? := fun b hb => (hgr6.block b (by simp at hs5; omega) (fun e => by have := Option.some.inj e; omega)).trans (hf5 b hb); have hM6 : w6.heap[Mb]? = some (.cells #[.slice (some ⟨g, off, none⟩) (k + 1) (k + 1)] 41 (0, 0)) := (hf6 Mb (by omega)).trans HM1.out; have c2 : w6.cell? ⟨Mb, 0, none⟩ = some (.slice (some ⟨g, off, none⟩) (k + 1) (k + 1)) := cell_of_one hM6; have cf : w6.frozen? ⟨Mb, 0, none⟩ = false := frozen_of_row w6 Mb 0 _ 41 hM6; have hg6 := ownsRow_ge hown6 g6 rfl; have hB6 := Below.grown hB5 hgr6 (by simp at hs5; omega) (fun b hb => by have := Option.some.inj hb; omega); have x2 : ∀ y, (w6.setCell ⟨Mb, 0, none⟩ y).cell? ⟨Mb, 0, none⟩ = (w6.setCell ⟨Mb, 0, none⟩ y).cell? ⟨Mb, 0, none⟩ := fun y => rfl)
              )
          all_goals
            have HE : Hid (TakeEnd w base Mb P l (.returned (.tuple #[.int .i64 x, .bool true])) (w6.setCell ⟨Mb, 0, none⟩ (.slice (some ⟨g6, 0, none⟩) (k) cap6))) := Lib.hid (by rw [HX.out]; exact take_done hB1 hB6 hMl hb hbw ⟨_, hM6⟩ HQ.out HQL.out HNO.out HD.out hown6)
            have b1 : (w6.setCell ⟨Mb, 0, none⟩ (.slice (some ⟨g6, 0, none⟩) (k) cap6)).cell? ⟨B, 1, none⟩ = some (.int .i64 x) := by
              rw [World.cell?_of_block (w := w1) (a := ⟨B, 1, none⟩) ((Below.heap_setCell _ _ _ _ (by simpa using hBM)).trans (hf6 B hBl)), cell_of_row w1 B 1 _ 43 _ HX1.out]
              rfl
            clear hB6 hM6 hown6 hgr6 hf6 c2 cf hg6 x2 hown5 hgr5 hf5 hM5 e2 hg5 hs5 hB5
            generalize w6.setCell ⟨Mb, 0, none⟩ (.slice (some ⟨g6, 0, none⟩) (k) cap6) = w7 at *
            go_wp2
            go_ret2
            exact HE.out
        · skip
          have hE2 := Lib.hid hE
          go_upto_region 5 with (fail)
          have HX1 := Lib.hid (heap_alloc_new wr (.cells #[.string s1, .int .i64 x] 43))
          have hB1 : Below w.heap.size w (wr.alloc (.cells #[.string s1, .int .i64 x] 43)) := hbe.alloc hbe.size _
          have hBl : wr.heap.size < (wr.alloc (.cells #[.string s1, .int .i64 x] 43)).heap.size := by simp
          have hBM : wr.heap.size ≠ Mb := by have := hbe.size; omega
          clear d0 d1 hE
          generalize hw1 : wr.alloc (.cells #[.string s1, .int .i64 x] 43) = w1 at *
          clear hw1
          obtain ⟨B, hB⟩ : ∃ B, B = wr.heap.size := ⟨_, rfl⟩
          rw [← hB] at HX1 hBl hBM ⊢
          clear hB
          have hM1 : w1.heap[Mb]? = some (.cells #[.slice (some ⟨g, off, none⟩) n cap] 41 (0, 0)) := (hB1.block Mb hMl).trans (by rw [HM.out, ← HN.out])
          have q2 : w1.cell? ⟨Mb, 0, none⟩ = some (.slice (some ⟨g, off, none⟩) n cap) := cell_of_one hM1
          have qf : w1.frozen? ⟨Mb, 0, none⟩ = false := frozen_of_row w1 Mb 0 _ 41 hM1
          have hC1 : ∀ (w' : World), w'.heap[g]? = w1.heap[g]? → ∀ j u, (pairs P)[j]? = some u → w'.cell? ⟨g, off + j, none⟩ = some u := fun w' hg' j u hu => by
            rw [← HC.out j u hu, World.cell?_of_block (w := w1) (w' := w') (a := ⟨g, off + j, none⟩) hg']
            exact hB1.cell (p := ⟨g, off + j, none⟩) hgl
          have HC1 := Lib.hid hC1
          have hs1 := hB1.size
          have hlen := pairs_length P
          rw [← HN.out] at hlen
          have hl1 : ((pairs P).take (k * 2)).length = k * 2 := by rw [List.length_take]; omega
          have hl2 : ((pairs P).drop ((k + 1) * 2)).length = (n - (k + 1)) * 2 := by rw [List.length_drop]; omega
          have HL1 := Lib.hid hl1
          have HL2 := Lib.hid hl2
          have HO1 : Hid (∀ u ∈ (pairs P).take (k * 2), u.oneCell' = true) := Lib.hid fun u hu => pairs_one P u (List.mem_of_mem_take hu)
          have HO2 : Hid (∀ u ∈ (pairs P).drop ((k + 1) * 2), u.oneCell' = true) := Lib.hid fun u hu => pairs_one P u (List.mem_of_mem_drop hu)
          have own0 : (w1.drew.alloc (.cells #[] 43)).ownsRow w1.heap.size 43 2 (.slice (some ⟨w1.heap.size, 0, none⟩) 0 0) 0 [] := ⟨rfl, Or.inr ⟨w1.heap.size, 0, #[], rfl, Nat.le_refl _, heap_alloc_new w1.drew _, Nat.le_refl _, by decide, rfl, rfl⟩⟩
          have HOW := Lib.hid own0
          have HM1 := Lib.hid hM1
          have j1 : (k : Int) ≤ cap := by omega
          have j2 : (k : Int) + 1 ≤ n := by omega
          have j3 : (k : Int) + 1 ≤ cap := by omega
          have j4 : (0 : Int) ≤ (k : Int) + 1 := by omega
          have j5 : (n : Int) ≤ cap := by omega
          have j7 : (k : Int) ≤ (k : Int) + 1 := by omega
          have hwr : IntKind.i64.wrap ((k : Int) + 1) = (k : Int) + 1 := by rw [IntKind.wrap_i64]; omega
          have i6 : ¬ cap = k + 1 := hck
          have v2 : ∀ o, (w1.alloc o).cell? ⟨Mb, 0, none⟩ = some (.slice (some ⟨g, off, none⟩) n cap) := fun o => cell_of_one ((Below.heap_alloc w1 o Mb (by omega)).trans hM1)
          have u2 : ∀ o, (w1.drew.alloc o).cell? ⟨Mb, 0, none⟩ = some (.slice (some ⟨g, off, none⟩) n cap) := fun o => cell_of_one ((Below.heap_alloc w1.drew o Mb (by show Mb < w1.heap.size; omega)).trans hM1)
          clear hC1 hlen hl1 hl2 own0 hM1
          go_region_law
            (first
              | (refine step_append_some (w := w1.drew.alloc (.cells #[] 43)) rfl _ _ rfl w1.heap.size w1.heap.size 0 0 [] rfl HOW.out ⟨g, off, none⟩ k (cap) ((pairs P).take (k * 2)) rfl HL1.out (fun j u hu => by rw [Addr.add_mid]; exact HC1.out _ (Below.heap_alloc w1.drew _ g (by show g < w1.heap.size; omega)) j u (by rw [List.getElem?_take] at hu; split at hu; exact hu; cases hu)) HO1.out (by omega) (by simp) ?_; intro g5 cap5 w5 hown5 hgr5; simp only [Nat.zero_add, List.nil_append] at hown5; have hf5 : ∀ b, b < w1.heap.size → w5.heap[b]? = w1.heap[b]? := fun b hb => (hgr5.block b (by simp; omega) (fun e => by have := Option.some.inj e; omega)).trans (Below.heap_alloc w1.drew _ b hb); have hM5 : w5.heap[Mb]? = some (.cells #[.slice (some ⟨g, off, none⟩) n cap] 41 (0, 0)) := (hf5 Mb (by omega)).trans HM1.out; have e2 : w5.cell? ⟨Mb, 0, none⟩ = some (.slice (some ⟨g, off, none⟩) n cap) := cell_of_one hM5; have hg5 := ownsRow_ge hown5 g5 rfl; have hs5 := hgr5.size; have hB5 := Below.grown (((Below.refl w1.heap.size w1).drew).alloc (Nat.le_refl _) (.cells #[] 43)) hgr5 (by simp) (fun b hb => by have := Option.some.inj hb; omega))
              | (refine step_append_some (w := w5) rfl _ _ rfl w1.heap.size g5 k cap5 _ rfl hown5 ⟨g, off + (k + 1) * 2, none⟩ ((n - (k + 1))) ((cap - (k + 1))) ((pairs P).drop ((k + 1) * 2)) rfl HL2.out (fun j u hu => by rw [Addr.add_mid, Nat.add_assoc]; exact HC1.out _ (hf5 g (by omega)) _ u (by rw [List.getElem?_drop] at hu; exact hu)) HO2.out (by omega) (by simp at hs5; omega) ?_; intro g6 cap6 w6 hown6 hgr6; have hf6 : ∀ b, b < w1.heap.size → w6.heap[b]? = w1.heap[b]? := fun b hb => (hgr6.block b (by simp at hs5; omega) (fun e => by have := Option.some.inj e; omega)).trans (hf5 b hb); have hM6 : w6.heap[Mb]? = some (.cells #[.slice (some ⟨g, off, none⟩) n cap] 41 (0, 0)) := (hf6 Mb (by omega)).trans HM1.out; have c2 : w6.cell? ⟨Mb, 0, none⟩ = some (.slice (some ⟨g, off, none⟩) n cap) := cell_of_one hM6; have cf : w6.frozen? ⟨Mb, 0, none⟩ = false := frozen_of_row w6 Mb 0 _ 41 hM6; have hg6 := ownsRow_ge hown6 g6 rfl; have hB6 := Below.grown hB5 hgr6 (by simp at hs5; omega) (fun b hb => by have := Option.some.inj hb; omega); have x2 : ∀ y, (w6.setCell ⟨Mb, 0, none⟩ y).cell? ⟨Mb, 0, none⟩ = (w6.setCell ⟨Mb, 0, none⟩ y).cell? ⟨Mb, 0, none⟩ := fun y => rfl)
              )
          all_goals
            have HE : Hid (TakeEnd w base Mb P l (.returned (.tuple #[.int .i64 x, .bool true])) (w6.setCell ⟨Mb, 0, none⟩ (.slice (some ⟨g6, 0, none⟩) (k + (n - (k + 1))) cap6))) := Lib.hid (by rw [HX.out]; exact take_done hB1 hB6 hMl hb hbw ⟨_, hM6⟩ HQ.out HQL.out HNO.out HD.out hown6)
            have b1 : (w6.setCell ⟨Mb, 0, none⟩ (.slice (some ⟨g6, 0, none⟩) (k + (n - (k + 1))) cap6)).cell? ⟨B, 1, none⟩ = some (.int .i64 x) := by
              rw [World.cell?_of_block (w := w1) (a := ⟨B, 1, none⟩) ((Below.heap_setCell _ _ _ _ (by simpa using hBM)).trans (hf6 B hBl)), cell_of_row w1 B 1 _ 43 _ HX1.out]
              rfl
            clear hB6 hM6 hown6 hgr6 hf6 c2 cf hg6 x2 hown5 hgr5 hf5 hM5 e2 hg5 hs5 hB5
            generalize w6.setCell ⟨Mb, 0, none⟩ (.slice (some ⟨g6, 0, none⟩) (k + (n - (k + 1))) cap6) = w7 at *
            go_wp2
            go_ret2
            exact HE.out
      · have hE : (s1.toList == s2.toList) = false := by rw [HS1.out, HS2.out]; exact HKN.out hql
        have HNO2 : Hid (∀ (j : Nat) q', j < k + 1 → P[j]? = some q' → q'.1 ≠ l) := Lib.hid fun j q' hj hj' => by
          by_cases h : j = k
          · subst h; rw [HQ.out] at hj'; cases hj'; exact hql
          · exact HNO.out j q' (by omega) hj'
        clear hql
        go_wp2
        go_roundw
        case rel => exact ⟨k + 1, by omega, by go_num, hbe.alloc hbe.size _, HNO2⟩
        case measure => simp [intOf]; omega
    · have HG := Lib.hid (aFind_gone (P := P) (l := l) (fun j q' hj => HNO.out j q' (by have := (List.getElem?_eq_some_iff.1 hj).1; have := HN.out; omega) hj))
      go_wp2
      go_ret2
      exact ⟨hbe.mono hbw, fun j h1 _ => hbe.block j h1, Or.inr ⟨HG.out, rfl, hbe.block Mb hMl⟩⟩
end Go.Proofs.Ytebldhppnacdjab
