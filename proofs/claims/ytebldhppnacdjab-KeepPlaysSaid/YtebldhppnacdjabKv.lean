/- Walks: the hashes' contracts; New, Drop, Hits, Len of a keep that shows a list. -/
import Derived.Test.YtebldhppnacdjabKu
set_option linter.unusedVariables false
namespace Go.Proofs.Ytebldhppnacdjab
open Go.RowKit
theorem hashes9 : Hashes 9 (fun _ => 7) := fun w key l _ _ _ => flat_any key w
theorem hashes13 : Hashes 13 keepHashes.hashI := fun w key l hr hb hl => by
  rcases hr with ⟨b, off, cap, rfl, h2, h3, h4, h5⟩ | ⟨rfl, rfl⟩ | ⟨a, c, rfl, rfl⟩
  · have := keepHashes.usual_any ⟨b, off, none⟩ l.length cap l (Nat.le_refl _) (by omega) w (Lib.hid fun i hi => by
      have hadd : (⟨b, off, none⟩ : Addr).add i = ⟨b, off + i, none⟩ := by unfold Addr.add; split <;> simp_all
      rw [hadd]; exact h5 i hi)
    rw [List.take_length] at this
    exact this
  · exact keepHashes.usual_nil w
  · exact keepHashes.usual_zero a c w
/-- the hash of the first byte. -/
def hash1 : List Int → Int
  | [] => 0
  | a :: _ => a % 2
theorem first_nil (a : Option Addr) (c : Nat) (w : World) : Calls Try.prog 14 #[.slice a 0 c] w fun e w' => e = .returned (.int .u64 0) ∧ w = w' := by
  go_enter Try.func14, Try.ntmps14
  go_wp2
  go_ret
  exact ⟨rfl, rfl⟩
theorem first_cons (b off n cap : Nat) (x : Int) (hx : 0 ≤ x ∧ x < 256) (w : World) (hc : w.cell? ⟨b, off, none⟩ = some (.int .u8 x)) : Calls Try.prog 14 #[.slice (some ⟨b, off, none⟩) (n + 1) cap] w fun e w' => e = .returned (.int .u64 (x % 2)) ∧ w = w' := by
  have h1 : (((n + 1 : Nat) : Int) == 0) = false := by simp; omega
  have h2 : (0 : Int) < (n + 1 : Nat) := by omega
  have h3 : x.tmod 2 = x % 2 := Int.tmod_eq_emod_of_nonneg hx.1
  have h4 : IntKind.u8.wrap (x % 2) = x % 2 := by rw [IntKind.wrap_u8]; omega
  have h5 : IntKind.u64.wrap (x % 2) = x % 2 := by rw [IntKind.wrap_u64]; omega
  go_enter Try.func14, Try.ntmps14
  go_wp2
  go_ret
  exact ⟨by simp [h3, h4, h5], rfl⟩
theorem hashes14 : Hashes 14 hash1 := fun w key l hr hb hl => by
  rcases hr with ⟨b, off, cap, rfl, h2, h3, h4, h5⟩ | ⟨rfl, rfl⟩ | ⟨a, c, rfl, rfl⟩
  · cases l with
    | nil => exact first_nil _ _ w
    | cons a l =>
      have := first_cons b off l.length cap a (hb a (by simp)) w (by have := h5 0 (by simp); simpa using this)
      exact this
  · exact first_nil _ _ w
  · exact first_nil _ _ w
theorem equalIn_fn14 (d : Nat) (w : World) : (Op.equalIn (d + 1) 39 (.func (.func 14) #[] #[]) .nilFunc).run Try.prog w = .ok false w := by
  simp [Op.equalIn, run_underlying Try.underlying39]
@[go_sem] theorem eq_fn14 (w : World) : (binOp .eql 39 (.func (.func 14) #[] #[]) .nilFunc).run Try.prog w = .ok (.bool false) w := by
  simp only [binOp]
  simp [Op.equal, Op.maxDepth, equalIn_fn14 9999]
theorem equalIn_nofn (d : Nat) (w : World) : (Op.equalIn (d + 1) 39 .nilFunc .nilFunc).run Try.prog w = .ok true w := by
  simp [Op.equalIn, run_underlying Try.underlying39]
@[go_sem] theorem eq_nofn (w : World) : (binOp .eql 39 .nilFunc .nilFunc).run Try.prog w = .ok (.bool true) w := by
  simp only [binOp]
  simp [Op.equal, Op.maxDepth, equalIn_nofn 9999]
/-- what New lays. -/
def Laid (w w' : World) (mo : Int) (N : Nat) : Prop := KeepG w' (w.heap.size + 1) w.heap.size mo N 0 0 0 0 #[] 0 ∧ Below w.heap.size w w' ∧ w'.heap.size = w.heap.size + 2
theorem laid_new (w : World) (mo : Int) (N : Nat) : Laid w ((w.alloc (.map #[] 0)).alloc (.cells #[.int .i64 mo, .func (.func N) #[] #[], .map (some w.heap.size), .int .i64 0, .int .i64 0, .int .i64 0, .int .i64 0] 51)) mo N := by
  refine ⟨⟨?_, ?_, by omega⟩, ((Below.refl _ _).alloc (Nat.le_refl _) _).alloc (by simp) _, by simp⟩
  · have := heap_alloc_new (w.alloc (.map #[] 0)) (.cells #[.int .i64 mo, .func (.func N) #[] #[], .map (some w.heap.size), .int .i64 0, .int .i64 0, .int .i64 0, .int .i64 0] 51)
    rw [World.size_alloc] at this
    exact this
  · rw [Below.heap_alloc _ _ _ (by simp)]
    exact heap_alloc_new w _
theorem new_ok9 (w : World) (mo : Int) (h : 1 ≤ mo ∧ mo ≤ 65536) : Calls Try.prog 8 #[.int .i64 mo, .func (.func 9) #[] #[]] w fun e w' => e = .returned (.tuple #[.pointer (some ⟨w.heap.size + 1, 0, none⟩), .int .i64 0]) ∧ Laid w w' mo 9 := by
  have h1 : ¬ mo < 1 := by omega
  have h2 : ¬ 65536 < mo := by omega
  go_enter Try.func8, Try.ntmps8
  go_wp2
  go_ret2
  exact ⟨rfl, laid_new w mo 9⟩
theorem new_ok14 (w : World) (mo : Int) (h : 1 ≤ mo ∧ mo ≤ 65536) : Calls Try.prog 8 #[.int .i64 mo, .func (.func 14) #[] #[]] w fun e w' => e = .returned (.tuple #[.pointer (some ⟨w.heap.size + 1, 0, none⟩), .int .i64 0]) ∧ Laid w w' mo 14 := by
  have h1 : ¬ mo < 1 := by omega
  have h2 : ¬ 65536 < mo := by omega
  go_enter Try.func8, Try.ntmps8
  go_wp2
  go_ret2
  exact ⟨rfl, laid_new w mo 14⟩
theorem new_ok13 (w : World) (mo : Int) (h : 1 ≤ mo ∧ mo ≤ 65536) : Calls Try.prog 8 #[.int .i64 mo, .nilFunc] w fun e w' => e = .returned (.tuple #[.pointer (some ⟨w.heap.size + 1, 0, none⟩), .int .i64 0]) ∧ Laid w w' mo 13 := by
  have h1 : ¬ mo < 1 := by omega
  have h2 : ¬ 65536 < mo := by omega
  go_enter Try.func8, Try.ntmps8
  go_wp2
  go_ret2
  exact ⟨rfl, laid_new w mo 13⟩
theorem new_no (w : World) (mo : Int) (fv : Value) (h : mo < 1 ∨ 65536 < mo) : Calls Try.prog 8 #[.int .i64 mo, fv] w fun e w' => e = .returned (.tuple #[.pointer none, .int .i64 1]) ∧ w = w' := by
  by_cases h1 : mo < 1
  · go_enter Try.func8, Try.ntmps8
    go_wp2
    go_ret2
    exact ⟨rfl, rfl⟩
  · have h2 : 65536 < mo := by omega
    go_enter Try.func8, Try.ntmps8
    go_wp2
    go_ret2
    exact ⟨rfl, rfl⟩
/-- a keep as New lays it shows nothing. -/
theorem Laid.ks {w w' : World} {mo : Int} {N : Nat} (h : Laid w w' mo N) (H : List Int → Int) (base : Nat) (hb : base ≤ w.heap.size) : KS w' base (fun k => w.heap.size ≤ k ∧ k < w'.heap.size) (w.heap.size + 1) mo N H 0 0 0 [] := by
  obtain ⟨h1, h2, h3⟩ := h
  refine ⟨w.heap.size, #[], 0, [], [], ?_, rfl⟩
  exact {
    kg := h1
    bK := by omega
    bM := hb
    bw := by omega
    fK := ⟨by omega, by omega⟩
    fM := ⟨by omega, by omega⟩
    fl := fun k hk => hk.2
    old := by simp
    nd := by simp
    map := by simp
    bok := by simp
    hs := by simp
    bl := by simp
    ent := by simp
    perm := by simp
    asc := by simp
    dif := by simp
    lst := by simp }
theorem len_ks (w : World) (base : Nat) (F : Nat → Prop) (K : Nat) (mo : Int) (N : Nat) (H : List Int → Int) (now f m : Int) (P : List (List Int × Int)) (h : KS w base F K mo N H now f m P) : Calls Try.prog 12 #[.pointer (some ⟨K, 0, none⟩)] w fun e w' => e = .returned (.int .i64 P.length) ∧ w = w' := by
  obtain ⟨M, hk⟩ := h.len
  have h3 := hk.c3
  clear h hk
  go_enter Try.func12, Try.ntmps12
  go_wp2
  go_ret
  exact ⟨rfl, rfl⟩
theorem hits_ks (w : World) (base : Nat) (F : Nat → Prop) (K : Nat) (mo : Int) (N : Nat) (H : List Int → Int) (now f m : Int) (P : List (List Int × Int)) (h : KS w base F K mo N H now f m P) : Calls Try.prog 17 #[.pointer (some ⟨K, 0, none⟩)] w fun e w' => e = .returned (.tuple #[.int .i64 f, .int .i64 m]) ∧ Below w.heap.size w w' ∧ w'.heap = w.heap := by
  obtain ⟨M, hk⟩ := h.len
  have h5 := hk.c5
  have h6 := hk.c6
  clear h hk
  go_enter Try.func17, Try.ntmps17
  go_upto_region 3 with (fail)
  go_quiet (fail)
  go_wp2
  go_ret2
  exact ⟨rfl, drewN_below _ _ _, rfl⟩
theorem drop_ks (w : World) (base : Nat) (F : Nat → Prop) (K : Nat) (mo : Int) (N : Nat) (H : List Int → Int) (now f m : Int) (P : List (List Int × Int)) (h : KS w base F K mo N H now f m P) : Calls Try.prog 16 #[.pointer (some ⟨K, 0, none⟩)] w fun e w' => e = .returned (.tuple #[]) ∧ ∃ F', KS w' base F' K mo N H now f m [] ∧ Left base F w F' w' := by
  obtain ⟨M, es, c, BL, L, hp, rfl⟩ := h
  have HP := Lib.hid hp
  have c2 := hp.kg.1.c2
  have c3 := hp.kg.1.c3
  have f2 := hp.kg.1.fr 2
  have f3 := hp.kg.1.fr 3
  have hKl := hp.kg.1.lt
  have hne : K ≠ w.heap.size := by omega
  clear hp
  go_enter Try.func16, Try.ntmps16
  go_wp2
  go_end0
  have hp := HP.out
  obtain ⟨w1, hw1⟩ : ∃ w1, w1 = (w.setCell ⟨K, 2, none⟩ (.map (some w.heap.size))).setCell ⟨K, 3, none⟩ (.int .i64 0) := ⟨_, rfl⟩
  have hk1 : (w.setCell ⟨K, 2, none⟩ (.map (some w.heap.size))).heap[K]? = some (.cells #[.int .i64 mo, .func (.func N) #[] #[], .map (some w.heap.size), .int .i64 (L.length : Int), .int .i64 now, .int .i64 f, .int .i64 m] 51 (0, 0)) := heap_setCell_same _ K 2 _ 51 _ hp.kg.1
  have hk2 : KC w1 K w.heap.size mo N 0 now f m := by rw [hw1]; exact heap_setCell_same _ K 3 _ 51 _ hk1
  have hs1 : w1.heap.size = w.heap.size := by rw [hw1]; simp [World.setCell]
  have hoff : ∀ k, k ≠ K → w1.heap[k]? = w.heap[k]? := fun k h2 => by
    rw [hw1, Below.heap_setCell _ _ _ _ (by simpa using h2), Below.heap_setCell _ _ _ _ (by simpa using h2)]
  have hB1 : Below base w w1 := by rw [hw1]; exact ((Below.refl base w).setCell (p := ⟨K, 2, none⟩) hp.bK _).setCell (p := ⟨K, 3, none⟩) hp.bK _
  rw [← hw1]
  have hk3 : KC (w1.alloc (.map #[] 0)) K w.heap.size mo N 0 now f m := (Below.heap_alloc w1 _ K (by omega)).trans hk2
  refine ⟨rfl, fun k => F k ∨ (w.heap.size ≤ k ∧ k < w.heap.size + 1), ⟨w.heap.size, #[], 0, [], [], ?_, rfl⟩, ?_, ?_, ?_⟩
  · exact {
      kg := ⟨hk3, by rw [← hs1]; exact heap_alloc_new w1 _, hne⟩
      bK := hp.bK
      bM := hp.bw
      bw := by have := hp.bw; simp; omega
      fK := Or.inl hp.fK
      fM := Or.inr ⟨Nat.le_refl _, by omega⟩
      fl := fun k hk => by
        rw [World.size_alloc, hs1]
        rcases hk with h1 | h1
        · have := hp.fl k h1; omega
        · exact h1.2
      old := by simp
      nd := by simp
      map := by simp
      bok := by simp
      hs := by simp
      bl := by simp
      ent := by simp
      perm := by simp
      asc := by simp
      dif := by simp
      lst := by simp }
  · exact hB1.alloc (by rw [hs1]; exact hp.bw) _
  · exact fun k h1 h2 => (Below.heap_alloc w1 _ k (by omega)).trans (hoff k (fun e => h2 (by rw [e]; exact hp.fK)))
  · intro k hk
    rcases hk with h1 | h1
    · exact Or.inl h1
    · exact Or.inr h1.1
end Go.Proofs.Ytebldhppnacdjab
