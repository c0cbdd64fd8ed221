/- Walks: drive: the entry that was put, or found, the longest ago goes. -/
import Derived.Test.YtebldhppnacdjabKo
import Derived.Test.YtebldhppnacdjabKf
set_option linter.unusedVariables false
namespace Go.Proofs.Ytebldhppnacdjab
open Go.RowKit
theorem bk_of {es : Array MapEntry} {BL : List Bk} (hmap : es.toList.map (fun e => (e.key, e.val)) = BL.map (fun b => (.int .u64 b.h, b.v))) {x : MapEntry} (hx : x ∈ es.toList) : ∃ b ∈ BL, x.key = .int .u64 b.h ∧ x.val = b.v := by
  have : (x.key, x.val) ∈ BL.map (fun b => (Value.int .u64 b.h, b.v)) := by rw [← hmap]; exact List.mem_map.2 ⟨x, hx, rfl⟩
  obtain ⟨b, hb, he⟩ := List.mem_map.1 this
  exact ⟨b, hb, (Prod.mk.inj he).1.symm, (Prod.mk.inj he).2.symm⟩
theorem vis_step (V : Int → Nat → Prop) (bh h : Int) (k i : Nat) : ((V h i ∨ (h = bh ∧ i < k)) ∨ (h = bh ∧ i < k + 1 ∧ k ≤ i)) ↔ (V h i ∨ (h = bh ∧ i < k + 1)) := by
  constructor
  · rintro ((h1 | ⟨h1, h2⟩) | ⟨h1, h2, -⟩)
    · exact Or.inl h1
    · exact Or.inr ⟨h1, by omega⟩
    · exact Or.inr ⟨h1, h2⟩
  · rintro (h1 | ⟨h1, h2⟩)
    · exact Or.inl (Or.inl h1)
    · by_cases h3 : i < k
      · exact Or.inl (Or.inr ⟨h1, h3⟩)
      · exact Or.inr ⟨h1, h2, by omega⟩
theorem iterSeen_of {w : World} {r a : Nat} {b : Option Nat} {s : Array Nat} {c : Nat} (h : w.heap[r]? = some (.mapIter b a s c)) : w.iterSeen r = s := by
  unfold World.iterSeen
  rw [h]
theorem KC.of {w w' : World} {K M : Nat} {mo : Int} {N : Nat} {n now f m : Int} (h : KC w K M mo N n now f m) (he : w'.heap[K]? = w.heap[K]?) : KC w' K M mo N n now f m := he.trans h
theorem me_of {es : Array MapEntry} {BL : List Bk} (hmap : es.toList.map (fun e => (e.key, e.val)) = BL.map (fun b => (.int .u64 b.h, b.v))) {b : Bk} (hb : b ∈ BL) : ∃ x ∈ es.toList, x.key = .int .u64 b.h ∧ x.val = b.v := by
  have : (Value.int .u64 b.h, b.v) ∈ es.toList.map (fun e => (e.key, e.val)) := by rw [hmap]; exact List.mem_map.2 ⟨b, hb, rfl⟩
  obtain ⟨x, hx, he⟩ := List.mem_map.1 this
  exact ⟨x, hx, (Prod.mk.inj he).1, (Prod.mk.inj he).2⟩
theorem one_cells {w : World} {E : List Ent} (h : ∀ e ∈ E, Row w e.kv e.kb) : ∀ u ∈ E.flatMap Ent.cells, u.oneCell' = true := by
  intro u hu
  obtain ⟨e, he, hu⟩ := List.mem_flatMap.1 hu
  obtain ⟨a, n, c, hs⟩ := (h e he).slice
  unfold Ent.cells at hu
  rw [hs] at hu
  exact one3o _ _ _ _ _ u hu
theorem toList_modify {es : Array MapEntry} {j : Nat} {me : MapEntry} (hj : es.toList[j]? = some me) (f : MapEntry → MapEntry) : (es.modify j f).toList = es.toList.set j (f me) := by
  rw [Array.toList_modify]
  apply List.ext_getElem?
  intro i
  rw [List.getElem?_modify, List.getElem?_set]
  by_cases h : j = i
  · subst h
    have hl : j < es.toList.length := (List.getElem?_eq_some_iff.1 hj).1
    rw [if_pos rfl, if_pos hl, hj]
    simp
  · rw [if_neg h]
    cases es.toList[i]? <;> simp [h]
theorem Keys_modify {es : Array MapEntry} (hK : Keys es) {j : Nat} {me : MapEntry} (hj : es.toList[j]? = some me) {hh : Int} (hk : me.key = .int .u64 hh) (v : Value) :
    Keys (es.modify j fun e => { e with key := .int .u64 hh, val := v }) ∧ (es.modify j fun e => { e with key := .int .u64 hh, val := v }).toList[j]? = some { me with key := .int .u64 hh, val := v } := by
  have ht := toList_modify hj (fun e => { e with key := .int .u64 hh, val := v })
  have hl : j < es.toList.length := (List.getElem?_eq_some_iff.1 hj).1
  have hkey : ∀ (i : Nat) (e : MapEntry), (es.modify j fun e => { e with key := .int .u64 hh, val := v }).toList[i]? = some e → ∃ e', es.toList[i]? = some e' ∧ e'.key = e.key := fun i e he => by
    rw [ht, List.getElem?_set] at he
    by_cases h : j = i
    · subst h
      rw [if_pos rfl, if_pos hl] at he
      cases he
      exact ⟨me, hj, hk⟩
    · rw [if_neg h] at he
      exact ⟨e, he, rfl⟩
  refine ⟨⟨fun e he => ?_, fun i i' e e' h1 h2 h3 => ?_⟩, ?_⟩
  · obtain ⟨i, hi⟩ := List.getElem?_of_mem he
    obtain ⟨e', h1, h2⟩ := hkey i e hi
    rw [← h2]
    exact hK.1 e' (List.mem_of_getElem? h1)
  · obtain ⟨a, a1, a2⟩ := hkey i e h1
    obtain ⟨b, b1, b2⟩ := hkey i' e' h2
    exact hK.2 i i' a b a1 b1 (by rw [a2, b2, h3])
  · rw [ht, List.getElem?_set, if_pos rfl, if_pos hl]
/-- the map without one entry of a bucket. -/
noncomputable def lessMap (es : Array MapEntry) (j : Nat) (hh : Int) (v : Value) (one : Bool) : Array MapEntry :=
  if one then (es.modify j fun e => { e with key := .int .u64 hh, val := v }).eraseIdxIfInBounds j else es.modify j fun e => { e with key := .int .u64 hh, val := v }
set_option maxRecDepth 20000 in
set_option maxHeartbeats 4000000 in
theorem drive_any (w : World) (K M : Nat) (mo : Int) (N : Nat) (n now f m : Int) (es : Array MapEntry) (c base : Nat) (BL : List Bk) (hn : 0 < n ∧ n < 100000) (hk : KeepG w K M mo N n now f m es c) (hbK : base ≤ K) (hbM : base ≤ M) (hbw : base ≤ w.heap.size)
    (hold : Hid (∀ x ∈ es.toList, x.born < c)) (hbn : Hid ((es.toList.map (·.born)).Nodup)) (hKeys : Hid (Keys es)) (hmap : Hid (es.toList.map (fun e => (e.key, e.val)) = BL.map (fun b => (.int .u64 b.h, b.v))))
    (hin : Hid (∀ b ∈ BL, BkIn w b)) (hh : Hid (∀ b ∈ BL, ∀ b' ∈ BL, b.h = b'.h → b = b')) (hne : Hid (∃ b ∈ BL, b.E ≠ [])) (hown : Hid (∀ b ∈ BL, w.ownsRow base 55 3 b.v b.E.length (b.E.flatMap Ent.cells))) (hbl : Hid (∀ b ∈ BL, b.v.ownBlock ≠ some K ∧ b.v.ownBlock ≠ some M)) :
    Calls Try.prog 19 #[.pointer (some ⟨K, 0, none⟩)] w fun e w' => e = .returned (.tuple #[]) ∧ ∃ b ∈ BL, ∃ (i : Nat) (e0 : Ent) (g cap j : Nat) (me : MapEntry), b.E[i]? = some e0 ∧ (∀ b' ∈ BL, ∀ (i' : Nat) e', b'.E[i']? = some e' → e0.last ≤ e'.last) ∧
      b.v = .slice (some ⟨g, 0, none⟩) b.E.length cap ∧ es.toList[j]? = some me ∧ me.key = .int .u64 b.h ∧ me.val = b.v ∧ Below base w w' ∧ (∀ k, k < w.heap.size → k ≠ K → k ≠ M → k ≠ g → w'.heap[k]? = w.heap[k]?) ∧
      w'.ownsRow base 55 3 (.slice (some ⟨g, 0, none⟩) (b.E.length - 1) cap) (b.E.length - 1) ((b.E.flatMap Ent.cells).take (i * 3) ++ (b.E.flatMap Ent.cells).drop ((i + 1) * 3)) ∧
      KeepG w' K M mo N (n - 1) now f m (lessMap es j b.h (.slice (some ⟨g, 0, none⟩) (b.E.length - 1) cap) (decide (b.E.length = 1))) c := by
  obtain ⟨hkc, hmc, hne'⟩ := hk
  have HKC := Lib.hid hkc
  have HMC := Lib.hid hmc
  have hKl := hkc.lt
  have hMl : M < w.heap.size := (Array.getElem?_eq_some_iff.1 hmc).1
  have q2 := hkc.c2
  have hrng := range_map w M c es hmc
  clear hkc hmc
  go_enter Try.func19, Try.ntmps19
  go_wp2
  clear hrng q2
  go_loopw [2, 3, 4] (fun s2 s3 s4 wr => ∃ (bk pl la : Int) (seen : Array Nat), s2 = .int .u64 bk ∧ s3 = .int .i64 pl ∧ s4 = .int .i64 la ∧ Below w.heap.size w wr ∧ w.heap.size < wr.heap.size ∧ Hid (wr.heap[w.heap.size]? = some (.mapIter (some M) c seen c)) ∧ Hid (Best BL (visO es seen) bk pl la))
    (fun _ _ _ wr => (leftOf es (wr.iterSeen w.heap.size)).size)
  case atStart => exact ⟨0, -1, 0, #[], rfl, rfl, rfl, (Below.refl _ _).alloc (Nat.le_refl _) _, by simp, Lib.hid (heap_alloc_new w _), Lib.hid (Best.start es BL)⟩
  case round =>
    obtain ⟨bk, pl, la, seen, rfl, rfl, rfl, hb, hsz, hit, hbest⟩ := hrel
    have hmr : wr.heap[M]? = some (.map es c) := (hb.block M hMl).trans HMC.out
    rcases run_next_at wr 0 w.heap.size M c c seen es c hit.out hmr hold.out (Nat.le_refl _) with ⟨h0, hnx⟩ | ⟨x, hx, w1, hb1, hs1, hf1, hi1, hnx⟩
    · obtain ⟨b, hbm, i, e0, he0, hbk, hpl, hla, hmin⟩ := hbest.out.all h0 hmap.out hne.out
      subst hbk hpl
      have HMIN := Lib.hid hmin
      have HE0 := Lib.hid he0
      obtain ⟨me, hme, hmk, hmv⟩ := me_of hmap.out hbm
      obtain ⟨j, hj⟩ := List.getElem?_of_mem hme
      obtain ⟨g, cap, hv, hg, hE, hcells⟩ := hin.out b hbm
      obtain ⟨N', hN'⟩ : ∃ N', N' = b.E.length := ⟨_, rfl⟩
      have HOWN := Lib.hid (hown.out b hbm)
      have HONE := Lib.hid (one_cells (w := w) (fun e he => by obtain ⟨k, hk⟩ := List.getElem?_of_mem he; exact (hcells k e hk).2.2.2))
      have hbb := hbl.out b hbm
      rw [hv] at hbb HOWN
      have hgK : g ≠ K := fun e => hbb.1 (by rw [e]; rfl)
      have hgM : g ≠ M := fun e => hbb.2 (by rw [e]; rfl)
      have hgb := ownsRow_ge HOWN.out g rfl
      have hil : i < N' := by rw [hN']; exact (List.getElem?_eq_some_iff.1 he0).1
      have HJ := Lib.hid hj
      have HMK := Lib.hid hmk
      have HMV := Lib.hid hmv
      have HV := Lib.hid hv
      have HN := Lib.hid hN'
      have hKr : KC wr K M mo N n now f m := (hb.block K hKl).trans HKC.out
      have LK : Hid (∀ w' : World, w'.heap[M]? = some (.map es c) → (Instr.lookup 49 (.map (some M)) (.int .u64 b.h) false).run Try.prog w' = .ok (.slice (some ⟨g, 0, none⟩) N' cap) w') := Lib.hid fun w' h => by
        rw [lk_some w' M c es hKeys.out b.h HJ.out HMK.out h, HMV.out, HV.out, HN.out]
      have UP : Hid (∀ (w' : World) (v' : Value), w'.heap[M]? = some (.map es c) → (Instr.mapUpdate 49 (.map (some M)) (.int .u64 b.h) v').run Try.prog w' = .ok () (putMap w' M (.map (es.modify j fun e => { e with key := .int .u64 b.h, val := v' }) c))) := Lib.hid fun w' v' h => up_some w' M c es hKeys.out b.h v' HJ.out HMK.out h
      have hwr : IntKind.i64.wrap ((i : Int) + 1) = (i : Int) + 1 := by rw [IntKind.wrap_i64]; omega
      have DEL : Hid (Calls Try.prog 24 #[.slice (some ⟨g, 0, none⟩) N' cap, .int .i64 (i : Int), .int .i64 (IntKind.i64.wrap ((i : Int) + 1))] wr.drew fun e w' => e = .returned (.slice (some ⟨g, 0, none⟩) (N' - 1) cap) ∧ Below base wr.drew w' ∧ w'.ownsRow base 55 3 (.slice (some ⟨g, 0, none⟩) (N' - 1) cap) (N' - 1) ((b.E.flatMap Ent.cells).take (i * 3) ++ (b.E.flatMap Ent.cells).drop ((i + 1) * 3)) ∧ (∀ k, k ≠ g → w'.heap[k]? = wr.drew.heap[k]?)) := Lib.hid
        (by rw [hwr]; exact del_any wr.drew g N' cap i base _ hil (by omega) HONE.out (by rw [hN']; exact ownsRow_mono HOWN.out (fun g' hg' => by cases hg'; exact hb.block g hg)))
      obtain ⟨bh, hbh⟩ : ∃ bh, bh = b.h := ⟨_, rfl⟩
      have HBH := Lib.hid hbh
      clear hwr
      rw [← hbh] at LK UP ⊢
      have q2 := hKr.c2
      have q3 := hKr.c3
      have HKR := Lib.hid hKr
      have HMR := Lib.hid hmr
      have hL1 := LK.out wr.drew hmr
      clear hbest hmin he0 hme hj hmk hmv hv hN' hcells hKr hbh hbb hmr hit
      obtain ⟨hK2, hj2⟩ := Keys_modify hKeys.out HJ.out (hh := bh) (by rw [HBH.out]; exact HMK.out) (.slice (some ⟨g, 0, none⟩) (N' - 1) cap)
      have LK2 : Hid (∀ w' : World, w'.heap[M]? = some (.map (es.modify j fun e => { e with key := .int .u64 bh, val := .slice (some ⟨g, 0, none⟩) (N' - 1) cap }) c) → (Instr.lookup 49 (.map (some M)) (.int .u64 bh) false).run Try.prog w' = .ok (.slice (some ⟨g, 0, none⟩) (N' - 1) cap) w') := Lib.hid fun w' h => lk_some w' M c _ hK2 bh hj2 rfl h
      have DE2 : Hid (∀ (w' : World) (ty : TypeId), w'.heap[M]? = some (.map (es.modify j fun e => { e with key := .int .u64 bh, val := .slice (some ⟨g, 0, none⟩) (N' - 1) cap }) c) → (Builtin.delete_ #[49, 37] ty #[.map (some M), .int .u64 bh]).run Try.prog w' = .ok (.tuple #[]) (putMap w' M (.map ((es.modify j fun e => { e with key := .int .u64 bh, val := .slice (some ⟨g, 0, none⟩) (N' - 1) cap }).eraseIdxIfInBounds j) c))) := Lib.hid fun w' ty h => run_del w' M c ty _ hK2 bh hj2 rfl h
      obtain ⟨es1, hes1⟩ : ∃ es1, es1 = (es.modify j fun e => { e with key := .int .u64 bh, val := .slice (some ⟨g, 0, none⟩) (N' - 1) cap }) := ⟨_, rfl⟩
      have HES1 := Lib.hid hes1
      have UP1 := Lib.hid (fun w' h => UP.out w' (.slice (some ⟨g, 0, none⟩) (N' - 1) cap) h)
      rw [← hes1] at LK2 DE2 UP1
      clear hK2 hj2 hes1
      go_upto_region 11 with (fail)
      go_region_held3 (fun w' => w'.cell? ⟨K, 2, none⟩ = some (.map (some M))) (first | exact q2 | exact e2 | exact u2 _)
        (first
          | (go_at_call 24; (with_reducible refine DEL.out.mono ?_); rintro e w4 ⟨rfl, hb4, hown4, hf4⟩; have hkc4 : KC w4 K M mo N n now f m := HKR.out.of (hf4 K hgK.symm); have hmc4 : w4.heap[M]? = some (.map es c) := Eq.trans (b := wr.heap[M]?) (hf4 M hgM.symm) HMR.out; have hUP4 := UP1.out w4 hmc4; have e2 := hkc4.c2; have u2 : ∀ o, (putMap w4 M o).cell? ⟨K, 2, none⟩ = some (.map (some M)) := fun o => (putMap_kc2 hkc4 hne' o).c2)
          | fail)
      all_goals
        have hkP := putMap_kc2 hkc4 hne' (.map es1 c)
        have hmP : (putMap w4 M (.map es1 c)).heap[M]? = some (.map es1 c) := putMap_at hmc4
        have hoP := ownsRow_mono (w' := putMap w4 M (.map es1 c)) hown4 (fun g' hg' => by cases hg'; exact putMap_off hgM)
        have hfP : ∀ k, k < w.heap.size → k ≠ K → k ≠ M → k ≠ g → (putMap w4 M (.map es1 c)).heap[k]? = w.heap[k]? := fun k h1 h2 h3 h4 => by
          rw [putMap_off h3, hf4 k h4]; exact hb.block k h1
        have hbP : Below base w (putMap w4 M (.map es1 c)) := putMap_below (((hb.mono hbw).trans (Below.refl _ _).drew).trans hb4) hbM _
        have HKP := Lib.hid hkP
        have HMP := Lib.hid hmP
        have HOP := Lib.hid hoP
        have HFP := Lib.hid hfP
        have HBP := Lib.hid hbP
        have hLP := LK2.out _ hmP
        have p2 := hkP.c2
        have p3 := hkP.c3
        have pf := hkP.fr 3
        have hdel := fun ty => DE2.out _ ty hmP
        clear hkP hmP hoP hfP hbP hUP4 e2 u2 hkc4 hmc4 hf4 hown4 hb4 q2 q3 hL1
        generalize hw5 : putMap w4 M (.map es1 c) = w5 at *
        clear hw5
        by_cases h1 : N' = 1
        · have j1 : N' - 1 = 0 := by omega
          have j2 : ((N' - 1 : Nat) : Int) == 0 := by rw [j1]; rfl
          have q2 : ∀ o, (putMap w5 M o).cell? ⟨K, 2, none⟩ = some (.map (some M)) := fun o => (putMap_kc2 HKP.out hne' o).c2
          have q3 : ∀ o, (putMap w5 M o).cell? ⟨K, 3, none⟩ = some (.int .i64 n) := fun o => (putMap_kc2 HKP.out hne' o).c3
          have qf : ∀ o, (putMap w5 M o).frozen? ⟨K, 3, none⟩ = false := fun o => (putMap_kc2 HKP.out hne' o).fr 3
          have HN1 := Lib.hid h1
          clear h1
          go_wp2
          go_end0
          refine ⟨rfl, b, hbm, i, e0, g, cap, j, me, HE0.out, HMIN.out, HV.out, HJ.out, HMK.out, HMV.out, ?_, ?_, ?_, ?_⟩
          · exact (putMap_below HBP.out hbM _).setCell (p := ⟨K, 3, none⟩) hbK _
          · intro k k1 k2 k3 k4
            rw [Below.heap_setCell _ _ _ _ (by simpa using k2), putMap_off k3]
            exact HFP.out k k1 k2 k3 k4
          · rw [← HN.out]
            refine ownsRow_mono HOP.out (fun g' hg' => ?_)
            cases hg'
            rw [Below.heap_setCell _ _ _ _ (by simpa using hgK), putMap_off hgM]
          · rw [← HN.out, ← HBH.out]
            unfold lessMap
            rw [decide_eq_true HN1.out, if_pos rfl, ← HES1.out]
            exact ⟨(putMap_kc2 HKP.out hne' _).s3 (n - 1), (Below.heap_setCell _ _ _ _ (by simpa using hne'.symm)).trans (putMap_at HMP.out), hne'⟩
        · have j2 : (((N' - 1 : Nat) : Int) == 0) = false := by simp; omega
          have HN1 := Lib.hid h1
          clear h1 hdel
          go_wp2
          go_end0
          refine ⟨rfl, b, hbm, i, e0, g, cap, j, me, HE0.out, HMIN.out, HV.out, HJ.out, HMK.out, HMV.out, ?_, ?_, ?_, ?_⟩
          · exact HBP.out.setCell (p := ⟨K, 3, none⟩) hbK _
          · intro k k1 k2 k3 k4
            rw [Below.heap_setCell _ _ _ _ (by simpa using k2)]
            exact HFP.out k k1 k2 k3 k4
          · rw [← HN.out]
            refine ownsRow_mono HOP.out (fun g' hg' => ?_)
            cases hg'
            rw [Below.heap_setCell _ _ _ _ (by simpa using hgK)]
          · rw [← HN.out, ← HBH.out]
            unfold lessMap
            rw [decide_eq_false HN1.out, if_neg (by decide), ← HES1.out]
            exact ⟨HKP.out.s3 (n - 1), (Below.heap_setCell _ _ _ _ (by simpa using hne'.symm)).trans HMP.out, hne'⟩
    · have hxm := mem_left hx
      have hmr1 : w1.heap[M]? = some (.map es c) := (hf1 M (by omega)).trans hmr
      have hen := run_entry_at w1 w.heap.size M c seen es c x hi1 hmr1 hxm.1 hbn.out
      obtain ⟨b, hbm, hxk, hxv⟩ := bk_of hmap.out hxm.1
      obtain ⟨g, cap, hv, hg, hE, hcells⟩ := hin.out b hbm
      have HXK := Lib.hid hxk
      have HV := Lib.hid hv
      have HX := Lib.hid hx
      rw [hxk, hxv, hv] at hnx hen
      have HC := Lib.hid hcells
      have HB1 : Below w.heap.size w w1 := hb.trans hb1
      have HI1 := Lib.hid hi1
      obtain ⟨N', hN'⟩ : ∃ N', N' = b.E.length := ⟨_, rfl⟩
      have HN := Lib.hid hN'
      rw [← hN'] at hnx hen hE
      obtain ⟨bh, hbh⟩ : ∃ bh, bh = b.h := ⟨_, rfl⟩
      rw [← hbh] at hnx hen
      have HBH := Lib.hid hbh
      have hit0 := hit
      clear hxk hxv hv hcells hi1 hN' hbh hmr hmr1 hx hit hf1 hb hb1
      have hsz1 : w.heap.size < w1.heap.size := by omega
      go_wp2
      clear hnx hen
      go_loopw [2, 3, 4, 21] (fun s2 s3 s4 s21 wr => ∃ (bk pl la : Int) (k : Nat), k ≤ N' ∧ s2 = .int .u64 bk ∧ s3 = .int .i64 pl ∧ s4 = .int .i64 la ∧ s21 = .int .i64 (k : Int) ∧ Below w.heap.size w wr ∧ w.heap.size < wr.heap.size ∧ Hid (wr.heap[w.heap.size]? = some (.mapIter (some M) c (seen.push x.born) c)) ∧ Hid (Best BL (fun h i => visO es seen h i ∨ (h = b.h ∧ i < k)) bk pl la))
        (fun _ _ _ i _ => N' - (intOf i).toNat)
      case atStart => exact ⟨bk, pl, la, 0, by omega, rfl, rfl, rfl, rfl, HB1, hsz1, HI1, Lib.hid (hbest.out.congr fun b' _ i _ _ => ⟨fun h => Or.inl h, fun h => by rcases h with h | ⟨_, h⟩; exact h; omega⟩)⟩
      case round =>
        clear hbest
        obtain ⟨bk, pl, la, k, hkN, rfl, rfl, rfl, rfl, hb, hsz, hit, hbest⟩ := hrel
        by_cases hlt : k < N'
        · obtain ⟨e, he⟩ : ∃ e, b.E[k]? = some e := ⟨b.E[k]'(by rw [← HN.out]; exact hlt), List.getElem?_eq_getElem _⟩
          obtain ⟨c0, c1, c2, hrow⟩ := HC.out k e he
          obtain ⟨ka, kn, kc, hkv⟩ := hrow.slice
          rw [hkv] at c0
          have d0 : wr.cell? ⟨g, k * 3, none⟩ = some (.slice ka kn kc) := by rw [← c0]; exact hb.cell (p := ⟨g, k * 3, none⟩) hg
          have d1 : wr.cell? ⟨g, k * 3 + 1, none⟩ = some (.int .i64 e.x) := by rw [← c1]; exact hb.cell (p := ⟨g, k * 3 + 1, none⟩) hg
          have d2 : wr.cell? ⟨g, k * 3 + 2, none⟩ = some (.int .i64 e.last) := by rw [← c2]; exact hb.cell (p := ⟨g, k * 3 + 2, none⟩) hg
          have HE := Lib.hid he
          obtain ⟨el, hel⟩ : ∃ el, el = e.last := ⟨_, rfl⟩
          have HEL := Lib.hid hel
          obtain ⟨ex, hex⟩ : ∃ ex, ex = e.x := ⟨_, rfl⟩
          rw [← hel] at d2
          rw [← hex] at d1
          clear c0 c1 c2 hrow hkv he hel hex
          have hal : ∀ o, (wr.alloc o).heap[w.heap.size]? = some (.mapIter (some M) c (seen.push x.born) c) := fun o => (Below.heap_alloc _ _ _ hsz).trans hit.out
          have HAL := Lib.hid hal
          clear hal
          by_cases hp : pl < 0
          · have HBN := Lib.hid ((hbest.out.new hh.out hbm HE.out (Or.inl hp)).congr (v2 := fun h i => visO es seen h i ∨ (h = b.h ∧ i < k + 1)) fun b' _ i _ _ => vis_step _ _ _ k i)
            go_upto_region 8 with (fail)
            go_quiet (fail)
            go_wp2
            go_roundw
            case rel => exact ⟨bh, k, el, k + 1, by omega, rfl, rfl, rfl, by go_num, ((hb.alloc (by omega) _).trans (drewN_below _ _ _)), by show _ < (World.alloc _ _).heap.size; simp; omega, Lib.hid (HAL.out _), by rw [HBH.out, HEL.out]; exact HBN⟩
            case measure => simp [intOf]; omega
          · by_cases hl : el < la
            · have HBN := Lib.hid ((hbest.out.new hh.out hbm HE.out (Or.inr (by rw [← HEL.out]; exact hl))).congr (v2 := fun h i => visO es seen h i ∨ (h = b.h ∧ i < k + 1)) fun b' _ i _ _ => vis_step _ _ _ k i)
              go_upto_region 8 with (fail)
              go_quiet (fail)
              go_wp2
              go_roundw
              case rel => exact ⟨bh, k, el, k + 1, by omega, rfl, rfl, rfl, by go_num, ((hb.alloc (by omega) _).trans (drewN_below _ _ _)), by show _ < (World.alloc _ _).heap.size; simp; omega, Lib.hid (HAL.out _), by rw [HBH.out, HEL.out]; exact HBN⟩
              case measure => simp [intOf]; omega
            · have HBN := Lib.hid ((hbest.out.old hh.out hbm HE.out hp (by rw [← HEL.out]; exact hl)).congr (v2 := fun h i => visO es seen h i ∨ (h = b.h ∧ i < k + 1)) fun b' _ i _ _ => vis_step _ _ _ k i)
              go_wp2
              go_roundw
              case rel => exact ⟨bk, pl, la, k + 1, by omega, rfl, rfl, rfl, by go_num, (hb.alloc (by omega) _), by simp; omega, Lib.hid (HAL.out _), HBN⟩
              case measure => simp [intOf]; omega
        · obtain rfl : k = N' := by omega
          have HBT := Lib.hid (hbest.out.turn (by rw [← HN.out]; exact Nat.le_refl _) hh.out hbm hKeys.out hxm.1 HXK.out hbn.out)
          go_wp2
          go_roundw
          case rel => exact ⟨bk, pl, la, seen.push x.born, rfl, rfl, rfl, hb, hsz, hit, HBT⟩
          case measure => rw [iterSeen_of hit.out, iterSeen_of hit0.out]; exact left_shrinks es seen x HX.out
end Go.Proofs.Ytebldhppnacdjab
