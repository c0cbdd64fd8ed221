/- Walks: the text of a float, and the float of a text. -/
import Derived.Test.YtebldhppnacdjaaFw
import Derived.Laws.BytesArg
import Derived.Laws.OwnMore
import Derived.Lib.SlBytesConst
import Derived.OwnWalk
namespace Go.Proofs.Ytebldhppnacdjaa
open Go.RowKit
/-- what a row of bytes owns, or a full row whose end is marked. -/
def OwnsX (w : World) (base : Nat) (v : Value) (xs : List Value) : Prop :=
  w.ownsRow base 5 1 v xs.length xs ∨ (∃ g, v = .slice (some ⟨g, 0, none⟩) xs.length xs.length ∧ base ≤ g ∧ g < w.heap.size ∧ 0 < xs.length ∧ ∀ j u, xs[j]? = some u → w.cell? ⟨g, j, none⟩ = some u)
theorem Try.info5 : (Try.prog.info? 5).map (fun i => (i.zero, i.size, i.bytes)) = some (some (.int .u8 0), 1, 1) := by kernel_rfl
theorem append_X (w : World) (base : Nat) (t : TypeId) (ht : Try.prog.underlying t = some (.slice 5)) (ty : TypeId) (v : Value) (xs : List Value) (hown : OwnsX w base v xs) (hb : base ≤ w.heap.size) (u : Value) (hu : u.oneCell' = true) (hlen : xs.length ≤ 1000) :
    ∃ v' w', (Builtin.append_ #[t, t] ty #[v, .slice (some ⟨w.heap.size, 0, none⟩) 1 1]).run Try.prog (w.alloc (.cells #[u] 5)) = .ok v' w' ∧ OwnsX w' base v' (xs ++ [u]) ∧ Below base w w' ∧ base ≤ w'.heap.size := by
  obtain ⟨i0, hi, hz0, hz1, hz2⟩ := info_parts Try.info5
  have hnew : ∀ (j : Nat) (v : Value), [u][j]? = some v → (w.alloc (.cells #[u] 5)).cell? ((⟨w.heap.size, 0, none⟩ : Addr).add j) = some v := by
    intro j v hj
    match j, hj with
    | 0, hj => simp at hj; subst hj; simp [Addr.add]
  rcases hown with hown | ⟨g, rfl, hg, hgl, hpos, hcells⟩
  · obtain ⟨v', w', h1, h2, h3, -⟩ := run_append_own (P := Try.prog) (w.alloc (.cells #[u] 5)) base t ty 5 i0 (.int .u8 0) 1 1 ht hi hz0 hz1 hz2 rfl (by decide) v xs.length xs (hown.alloc _) ⟨w.heap.size, 0, none⟩ 1 1 [u] rfl hnew (by simp [hu]) (by unfold maxLen; omega) (by omega) (by simp; omega)
    refine ⟨v', w', h1, Or.inl (by simpa using h2), ?_, ?_⟩
    · refine ((Below.refl base w).alloc hb _).grown h3 (by simp; omega) ?_
      intro k hk
      rcases hown.2 with ⟨rfl, _⟩ | ⟨g, cap, cur, rfl, hbg, _⟩
      · simp [Value.ownBlock] at hk
      · simp [Value.ownBlock] at hk; omega
    · have := h3.size; simp at this; omega
  · have holds : ∀ (j : Nat) (v : Value), xs[j]? = some v → (w.alloc (.cells #[u] 5)).cell? ((⟨g, 0, none⟩ : Addr).add j) = some v := by
      intro j v hj
      have hadd : (⟨g, 0, none⟩ : Addr).add j = ⟨g, j, none⟩ := by unfold Addr.add; split <;> simp_all
      rw [hadd]
      exact Lib.cell?_alloc_marked _ (hcells j v hj)
    have hr := run_append_grow (P := Try.prog) (w.alloc (.cells #[u] 5)) t ty 5 i0 (.int .u8 0) ht hi hz0 ⟨g, 0, none⟩ xs.length xs.length xs (by rw [hz1]; omega) holds ⟨w.heap.size, 0, none⟩ 1 1 [u] (by rw [hz1]; rfl) hnew (by omega) (by omega) (growslice_fits (by omega) (by rw [hz2]; omega))
    have hge := grownCap_ge (w.alloc (.cells #[u] 5)) (xs.length + 1) xs.length 5
    have hcm2 := grownCap_le_maxLen (w.alloc (.cells #[u] 5)) (xs.length + 1) xs.length 5 (by unfold maxLen; omega)
    refine ⟨_, _, hr, Or.inl ⟨by simp, Or.inr ⟨_, _, _, by simp, ?_, heap_alloc_new (w.alloc (.cells #[u] 5)).drew _, by simpa using hge, hcm2, ?_, ?_⟩⟩, ?_, ?_⟩
    · simp; omega
    · have hz1' : (Value.int IntKind.u8 0).cells.size = 1 := rfl
      simp only [Array.size_append, List.size_toArray, size_zeroCells, hz1', List.length_cons, List.length_nil]
      omega
    · simp only [Array.toList_append, List.append_assoc]
      rw [← List.append_assoc, show (xs ++ [u]).length * 1 = (xs ++ [u]).length by omega]
      exact List.take_left
    · exact (((Below.refl base w).alloc hb _).drew).alloc (by simp; omega) _
    · simp; omega

theorem wpList_append_X {w : World} {ops : Array Oper} {rest : List Oper} {o : Oper} {a : Act} {Q : Exit → Act → World → Prop} (hgd : o.guard = none) (sl x : Operand) (t : TypeId)
    (ho : o.op = .call { callee := .builtin .append, args := #[sl, x], argTypes := #[t, t] }) (base : Nat) (ht : Try.prog.underlying t = some (.slice 5))
    (v : Value) (xs : List Value) (hs : a.eval sl = v) (hown : OwnsX w base v xs) (u : Value) (hx : a.eval x = .slice (some ⟨w.heap.size, 0, none⟩) 1 1) (hb : base ≤ w.heap.size) (hu : u.oneCell' = true) (hlen : xs.length ≤ 1000)
    (h : ∀ v' w', OwnsX w' base v' (xs ++ [u]) → Below base w w' → base ≤ w'.heap.size → wpList Try.prog ops Q rest (a.put o.dst v') w') : wpList Try.prog ops Q (o :: rest) a (w.alloc (.cells #[u] 5)) := by
  refine wpList_plain hgd fun K hK => ?_
  obtain ⟨v', w', hr, h2, h3, h4⟩ := append_X w base t ht o.type v xs hown hb u hu hlen
  unfold Oper.wp execOp
  simp only [ho, resolve, invoke, builtin, Sem.run_bind, Sem.run_pure, Result.andThen_ok, List.map_toArray, List.map_cons, List.map_nil, hs, hx, hr]
  exact hK _ _ (h v' w' h2 h3 h4)
theorem OwnsX.mono {w w' : World} {base : Nat} {v : Value} {xs : List Value} (h : OwnsX w base v xs) (hb : ∀ k, k < w.heap.size → w'.heap[k]? = w.heap[k]?) (hs : w.heap.size ≤ w'.heap.size) : OwnsX w' base v xs := by
  rcases h with h | ⟨g, h1, h2, h3, h4, h5⟩
  · refine Or.inl ⟨h.1, ?_⟩
    rcases h.2 with h' | ⟨g, cap, cur, e1, e2, e3, e4⟩
    · exact Or.inl h'
    · exact Or.inr ⟨g, cap, cur, e1, e2, by rw [hb g (Array.getElem?_eq_some_iff.1 e3).1]; exact e3, e4⟩
  · refine Or.inr ⟨g, h1, h2, by omega, h4, fun j u hj => ?_⟩
    rw [← h5 j u hj]
    exact World.cell?_of_block (w := w) (a := ⟨g, j, none⟩) (hb g h3)
theorem OwnsX.str {w : World} {base : Nat} {v : Value} {ns : List Int} (h : OwnsX w base v (ns.map (Value.int .u8))) (hp : 0 < ns.length) :
    (convert 47 9 v).run Try.prog w = .ok (.string (strOfNums ns)) w := by
  have key : ∀ g n c, n = ns.length → (∀ j u, (ns.map (Value.int .u8))[j]? = some u → w.cell? ⟨g, j, none⟩ = some u) → (convert 47 9 (.slice (some ⟨g, 0, none⟩) n c)).run Try.prog w = .ok (.string (strOfNums ns)) w := by
    intro g n c hn hc
    refine run_convert_bytes_arg w 47 5 Try.underlying47 Try.underlying5 g 0 n c ns hn.symm (fun i hi => ?_) 9 Try.underlying9
    rw [Nat.zero_add]
    refine hc i _ ?_
    have hi' : i < ns.length := by omega
    simp [hi', List.getD]
  rcases h with h | ⟨g, rfl, _, _, _, hc⟩
  · rcases h.2 with ⟨_, h0⟩ | ⟨g, cap, cur, rfl, _, hg, hle, _, hcs, htk⟩
    · simp at h0; subst h0; simp at hp
    · refine key g _ cap (by simp) (fun j u hj => ?_)
      rw [cell_of_row w g j cur 5 _ hg]
      rw [← htk, List.getElem?_take] at hj
      split at hj
      · simpa using hj
      · cases hj
  · exact key g _ _ (by simp) hc
def hexc (d : Nat) : Int := if d < 10 then 48 + d else 87 + d
/-- the text's first k digits, behind the mark. -/
def pre (c k : Nat) : List Int := [102, 39] ++ (List.range k).map fun j => hexc (c / 2 ^ (60 - 4 * j) % 16)
theorem sign_at (d : Nat) (hd : d < 16) (W : World) : (Instr.index 9 (.string { data := #[48, 49, 50, 51, 52, 53, 54, 55, 56, 57, 97, 98, 99, 100, 101, 102] }) (.int .u64 (d : Int))).run Try.prog W = .ok (.int .u8 (hexc d)) W := by
  have h : d = 0 ∨ d = 1 ∨ d = 2 ∨ d = 3 ∨ d = 4 ∨ d = 5 ∨ d = 6 ∨ d = 7 ∨ d = 8 ∨ d = 9 ∨ d = 10 ∨ d = 11 ∨ d = 12 ∨ d = 13 ∨ d = 14 ∨ d = 15 := by omega
  rcases h with rfl | rfl | rfl | rfl | rfl | rfl | rfl | rfl | rfl | rfl | rfl | rfl | rfl | rfl | rfl | rfl <;> rfl
theorem low4 (c e : Nat) (hc : c < 2 ^ 64) : bits .and .u64 ((c : Int) / 2 ^ e) 15 = ((c / 2 ^ e % 16 : Nat) : Int) := by
  have h1 : c / 2 ^ e < 2 ^ 64 := Nat.lt_of_le_of_lt (Nat.div_le_self _ _) hc
  have e1 := u64_and_nat (c / 2 ^ e) 15 h1 (by decide)
  rw [show ((15 : Nat) : Int) = 15 from rfl, show ((c / 2 ^ e : Nat) : Int) = (c : Int) / 2 ^ e by simp] at e1
  rw [e1]
  exact congrArg Int.ofNat (Nat.and_two_pow_sub_one_eq_mod _ 4)
theorem pre_len (c k : Nat) : (pre c k).length = k + 2 := by simp [pre]
theorem pre_snoc (c k : Nat) : pre c (k + 1) = pre c k ++ [hexc (c / 2 ^ (60 - 4 * k) % 16)] := by simp [pre, List.range_succ]
set_option maxHeartbeats 400000 in
theorem text_any (n : Nat) (hn : n < 2 ^ 64) (w : World) :
    Calls Try.prog 10 #[.int .u64 n] w fun e w' => e = .returned (.string (strOfNums (pre (Fl.canon n) 16))) ∧ Below w.heap.size w w' := by
  have hc : Fl.canon n < 2 ^ 64 := Fl.canon_lt hn
  generalize hx : Fl.canon n = c at hc
  have HX := Lib.hid hx
  clear hx hn
  have kc := fun (w : World) (C : Array Value) (n c : Nat) => Lib.run_convert_bytes_const (P := Try.prog) w 47 5 C n c Try.underlying47 Try.underlying5
  go_enter Try.func10, Try.ntmps10
  go_wp2_with (go_at_call 14; refine (of_any _ _).mono ?_; rintro e w' ⟨rfl, rfl⟩; rw [HX.out])
  go_loopw [4, 5] (fun v i wr => ∃ k : Nat, k ≤ 16 ∧ i = .int .i64 (60 - 4 * (k : Int)) ∧ OwnsX wr w.heap.size v ((pre c k).map (Value.int .u8)) ∧ Below w.heap.size w wr ∧ w.heap.size ≤ wr.heap.size) (fun _ i _ => ((intOf i + 4) / 4).toNat)
  case atStart =>
    refine ⟨0, by omega, by simp, Or.inr ⟨w.heap.size, by simp [pre], by omega, by simp, by simp [pre], ?_⟩, (Below.refl _ _).alloc (by omega) _, by simp⟩
    intro j u hj
    match j, hj with
    | 0, hj => simp [pre] at hj; subst hj; simp [World.cell?_alloc_mark]
    | 1, hj => simp [pre] at hj; subst hj; simp [World.cell?_alloc_mark]
  case round =>
    obtain ⟨k, hk, rfl, hown, hbel, hsz⟩ := hrel
    by_cases hlt : k < 16
    · obtain ⟨d, hdd⟩ : ∃ d, d = c / 2 ^ (60 - 4 * k) % 16 := ⟨_, rfl⟩
      have hb := low4 c (60 - 4 * k) hc
      rw [← hdd] at hb
      have hd := sign_at d (by omega)
      have hp := pre_snoc c k
      rw [← hdd] at hp
      have hl := pre_len c k
      clear hc hdd
      have HP := Lib.hid hp
      have HL := Lib.hid hl
      clear hp hl
      go_wp2_with (at_builtin; refine wpList_append_X rfl _ _ 47 rfl w.heap.size Try.underlying47 _ _ rfl hown (.int .u8 (hexc d)) rfl hsz rfl ?c1 ?_)
      case c1 => rw [List.length_map, HL.out]; omega
      intro v' w' hown' hbel' hsz'
      have hown2 : OwnsX w' w.heap.size v' ((pre c (k + 1)).map (Value.int .u8)) := by rw [HP.out]; simpa using hown'
      have hbel2 := hbel.trans hbel'
      clear hown' hown hbel hbel'
      go_wp2
      go_roundw
      case rel => exact ⟨k + 1, by omega, by go_num, hown2, hbel2, hsz'⟩
      case measure => simp [intOf]; omega
    · obtain rfl : k = 16 := by omega
      have hs := hown.str (by simp [pre_len])
      clear hown hc
      go_wp2
      go_ret
      exact ⟨rfl, hbel⟩
end Go.Proofs.Ytebldhppnacdjaa
