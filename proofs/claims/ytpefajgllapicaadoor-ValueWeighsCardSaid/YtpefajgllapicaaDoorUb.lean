/- A value as it lies, with its weight; both weights are that; Record at any kids. -/
import Derived.Test.YtpefajgllapicaaDoorUa
import Derived.Test.YtpefajgllapicaaDoorTc
set_option linter.unusedVariables false
namespace Go.Proofs.YtpefajgllapicaaDoor
open Go.RowKit
/-- a value, all of whose kids lie in the blocks F, and its weight. -/
inductive VT (w : World) (F : Nat → Prop) : Kid → Nat → Prop
  | leaf (k : Kid) (hs : k.kt.size ≤ 100000) (ha : k.ka = none) (hn : k.kn = 0) (hc : k.kc = 0) (hv : k.hv = 0 ∨ k.hv = (own9 k.kd k.kt : Nat)) : VT w F k (own9 k.kd k.kt)
  | kids (k : Kid) (g : Nat) (H : Nat → Nat) (K : Nat → Kid) (hs : k.kt.size ≤ 100000) (ha : k.ka = some ⟨g, 0, none⟩) (hg : F g) (hn : k.kn ≤ 100000) (hnc : k.kn ≤ k.kc) (ht : own9 k.kd k.kt + sumH H k.kn ≤ 1000000000) (hv : k.hv = 0 ∨ k.hv = (own9 k.kd k.kt + sumH H k.kn : Nat))
      (hc : ∀ j i u, j < k.kn → (K j).cells[i]? = some u → w.cell? ⟨g, j * 8 + i, none⟩ = some u) (hk : ∀ j, j < k.kn → VT w F (K j) (H j)) : VT w F k (own9 k.kd k.kt + sumH H k.kn)
theorem VT.on {w w' : World} {F F' : Nat → Prop} {k : Kid} {h : Nat} (hv : VT w F k h) (hF : ∀ b, F b → F' b) (hb : ∀ b, F b → w'.heap[b]? = w.heap[b]?) : VT w' F' k h := by
  induction hv with
  | leaf k hs ha hn hc hv => exact .leaf k hs ha hn hc hv
  | kids k g H K hs ha hg hn hnc ht hv hc hk ih =>
    refine .kids k g H K hs ha (hF g hg) hn hnc ht hv (fun j i u hj hi => ?_) ih
    rw [← hc j i u hj hi]
    exact World.cell?_of_block (hb g hg)
theorem own9_pos (kd : Int) (s : ByteArray) : 1 ≤ own9 kd s := by unfold own9; omega
theorem VT.pos {w : World} {F : Nat → Prop} {k : Kid} {h : Nat} (hv : VT w F k h) : 1 ≤ h := by
  cases hv with
  | leaf hs ha hn hc hv => exact own9_pos _ _
  | kids g H K hs ha hg hn hnc ht hv hc hk => have := own9_pos k.kd k.kt; omega
theorem VT.weighs {w : World} {F : Nat → Prop} {k : Kid} {h : Nat} (hv : VT w F k h) (hF : ∀ b, F b → b < w.heap.size) : Weighs w k.val h ∧ WeighsL w k.val h := by
  induction hv with
  | leaf k hs ha hn hc hv =>
    obtain ⟨kd, ki, kb, kt, na, nn, nc, ka, kn, kc, fp, hv'⟩ := k
    simp only at hs ha hn hc hv
    subst ha hn hc
    unfold Kid.val
    have h9 : own9 kd kt ≤ 100001 := by unfold own9; split <;> omega
    refine ⟨?_, ?_⟩
    · rcases hv with rfl | rfl
      · by_cases h2 : kd = 2
        · subst h2
          exact weigh_leaf2 w _ _ _ _ kt hs
        · exact weigh_leaf w kd _ _ _ _ kt h2 hs
      · exact weigh_heavy w _ _ _ _ _ _ _ _ (own9_pos _ _) (by omega)
    · by_cases h2 : kd = 2
      · subst h2
        exact lweigh_leaf2 w _ _ _ _ _ kt hs
      · exact lweigh_leaf w kd _ _ _ _ _ kt h2 hs
  | kids k g H K hs ha hg hn hnc ht hv hc hk ih =>
    obtain ⟨kd, ki, kb, kt, na, nn, nc, ka, kn, kc, fp, hv'⟩ := k
    simp only at hs ha hn hnc ht hv hc ih
    subst ha
    unfold Kid.val
    have hKW : ∀ j, j < kn → KidW w g j (H j) := fun j hj => ⟨_, _, _, _, _, _, _, _, _, _, _, _, ⟨hc j 0 _ hj rfl, hc j 1 _ hj rfl, hc j 2 _ hj rfl, hc j 3 _ hj rfl, hc j 4 _ hj rfl, hc j 5 _ hj rfl, hc j 6 _ hj rfl, hc j 7 _ hj rfl⟩, (ih j hj).1⟩
    have hKL : ∀ j, j < kn → KidL w g j (H j) := fun j hj => ⟨_, _, _, _, _, _, _, _, _, _, _, _, ⟨hc j 0 _ hj rfl, hc j 1 _ hj rfl, hc j 2 _ hj rfl, hc j 3 _ hj rfl, hc j 4 _ hj rfl, hc j 5 _ hj rfl, hc j 6 _ hj rfl, hc j 7 _ hj rfl⟩, (ih j hj).2⟩
    have h1 := own9_pos kd kt
    refine ⟨?_, ?_⟩
    · rcases hv with rfl | rfl
      · by_cases h2 : kd = 2
        · subst h2
          exact weigh_kids2 w _ _ _ _ kt hs g kn kc H hn hnc (hF g hg) hKW ht
        · exact weigh_kids w kd _ _ _ _ kt h2 hs g kn kc H hn hnc (hF g hg) hKW ht
      · exact weigh_heavy w _ _ _ _ _ _ _ _ (by omega) (by omega)
    · by_cases h2 : kd = 2
      · subst h2
        exact lweigh_kids2 w _ _ _ _ _ kt hs g kn kc H hn hnc (hF g hg) hKL ht
      · exact lweigh_kids w kd _ _ _ _ _ kt h2 hs g kn kc H hn hnc (hF g hg) hKL ht
/-- names and kids, by turns. -/
def zipK (NS : List ByteArray) (KL : List Kid) : List Ent := NS.zip KL
def kRowK (KL : List Kid) : List Ent := KL.map fun k => ((⟨#[]⟩ : ByteArray), k)
def sumE (f : Kid → Nat) (E : List Ent) : Nat := (E.map fun e => f e.2).sum
theorem sumE_ins (f : Kid → Nat) (E : List Ent) (x : ByteArray) (k : Kid) : sumE f (insE E x k) ≤ sumE f E + f k := by
  induction E with
  | nil => simp [insE, sumE]
  | cons e l ih =>
    rw [insE_cons]
    unfold sumE at *
    split
    · simp only [List.map_cons, List.sum_cons]
      omega
    · split <;> simp only [List.map_cons, List.sum_cons] <;> omega
theorem sumE_up (f : Kid → Nat) (P : List Ent) : sumE f (upE P P.length) ≤ sumE f P := by
  unfold upE
  rw [List.take_of_length_le (Nat.le_refl _)]
  have : ∀ (l E : List Ent), sumE f (l.foldl (fun E e => insE E e.1 e.2) E) ≤ sumE f E + sumE f l := by
    intro l
    induction l with
    | nil => intro E; simp [sumE]
    | cons e l ih =>
      intro E
      have h1 := ih (insE E e.1 e.2)
      have h2 := sumE_ins f E e.1 e.2
      have h3 : sumE f (e :: l) = f e.2 + sumE f l := rfl
      simp only [List.foldl_cons]
      omega
  have := this P []
  have h0 : sumE f [] = 0 := rfl
  omega
theorem sumE_zip (f : Kid → Nat) : ∀ (NS : List ByteArray) (KL : List Kid), sumE f (zipK NS KL) ≤ (KL.map f).sum
  | [], KL => by simp [zipK, sumE]
  | _ :: _, [] => by simp [zipK, sumE]
  | n :: NS, k :: KL => by
    have := sumE_zip f NS KL
    unfold zipK sumE at *
    simp only [List.zip_cons_cons, List.map_cons, List.sum_cons]
    omega
theorem sumH_shift (H : Nat → Nat) (n : Nat) : sumH H (n + 1) = H 0 + sumH (fun j => H (j + 1)) n := by
  induction n with
  | zero => simp [sumH]
  | succ n ih =>
    rw [show sumH H (n + 1 + 1) = sumH H (n + 1) + H (n + 1) from rfl, ih, show sumH (fun j => H (j + 1)) (n + 1) = sumH (fun j => H (j + 1)) n + H (n + 1) from rfl]
    omega
theorem sumH_hAt (f : Kid → Nat) : ∀ E : List Ent, sumH (hAt f E) E.length = sumE f E
  | [] => rfl
  | e :: E => by
    have := sumH_hAt f E
    rw [List.length_cons, sumH_shift]
    have h0 : hAt f (e :: E) 0 = f e.2 := rfl
    have h1 : (fun j => hAt f (e :: E) (j + 1)) = hAt f E := rfl
    rw [h0, h1, this]
    rfl
def RecPostK (w : World) (f : Kid → Nat) (E : List Ent) (e : Ending) (w' : World) : Prop := ∃ (aN : Option Addr) (cN : Nat) (aK : Option Addr) (cK : Nat), e = .returned (.agg #[.int .i64 4, .int .i64 0, .int .u64 0, .string ⟨#[]⟩, .slice aN E.length cN, .slice aK E.length cK, .pointer none, .int .i64 ((1 + sumE f E : Nat) : Int)]) ∧ RecOf w' w.heap.size aN cN aK cK E ∧ Below w.heap.size w w'
theorem zipK_inv (NS : List ByteArray) (KL : List Kid) (j : Nat) (e : Ent) (h : (zipK NS KL)[j]? = some e) : NS[j]? = some e.1 ∧ KL[j]? = some e.2 := List.getElem?_zip_eq_some.1 h
theorem zipK_len (NS : List ByteArray) (KL : List Kid) : (zipK NS KL).length = min NS.length KL.length := by simp [zipK]
theorem rec_gen (w : World) (base : Nat) (an : Option Addr) (n cn : Nat) (NS : List ByteArray) (vk : Value) (KL : List Kid) (f : Kid → Nat) (hN : NamesAt w an n NS) (hcn : n ≤ cn) (h20 : n ≤ 20) (hk20 : KL.length ≤ 20)
    (hk : w.ownsRow base 28 8 vk KL.length (cells (kRowK KL))) (hnil : KL = [] → vk = .slice none 0 0) (hW' : ∀ k ∈ KL, Weighs w k.val (f k)) (hB' : ∀ k ∈ KL, f k ≤ 100000) :
    Calls Tryd.prog 11 #[.slice an n cn, vk] w (RecPostK w f (upE (zipK NS KL) (zipK NS KL).length)) := by
  obtain ⟨hn, hN⟩ := hN
  have hlen := zipK_len NS KL
  have hmem : ∀ e ∈ zipK NS KL, e.2 ∈ KL := fun e he => by
    obtain ⟨j, hj⟩ := List.getElem?_of_mem he
    exact List.mem_of_getElem? (zipK_inv NS KL j e hj).2
  have hW : ∀ e ∈ zipK NS KL, Weighs w e.2.val (f e.2) := fun e he => hW' _ (hmem e he)
  have hB : ∀ e ∈ zipK NS KL, f e.2 ≤ 100000 := fun e he => hB' _ (hmem e he)
  rcases hk.2 with ⟨rfl, h0⟩ | ⟨g, cap, cur, rfl, e2, e3, e4, e5, e6, e7⟩
  · refine (record_C w an 0 0 n cn 0 0 0 0 (zipK NS KL) f (by omega) (by omega) ⟨fun j e h => ?_, fun j e i u h => ?_⟩ (by omega) (by omega) hcn (by omega) (by omega) rfl True.intro (by omega) (by omega) hW hB).mono ?_
    · have := (List.getElem?_eq_some_iff.1 (zipK_inv NS KL j e h).2).1
      omega
    · have := (List.getElem?_eq_some_iff.1 (zipK_inv NS KL j e h).2).1
      omega
    · rintro e w' ⟨aN, cN, aK, cK, rfl, r1, r2, r3⟩
      rw [show (zipK NS KL).length = 0 by omega]
      exact ⟨aN, cN, aK, cK, by rw [sumH_hAt], ⟨r1, r2, upE_rises _ _⟩, r3⟩
  · unfold maxLen at e5
    have hkc : ∀ j k, KL[j]? = some k → ∀ p u, k.cells[p]? = some u → w.cell? ⟨g, j * 8 + p, none⟩ = some u := fun j k hi p u hu => by
      rw [cell_of_row w g _ _ 28 _ e3]
      exact row_at e7 (cellE (kRowK KL) j (⟨#[]⟩, k) p u (by unfold kRowK; rw [List.getElem?_map, hi]; rfl) hu)
    have hgs := (Array.getElem?_eq_some_iff.1 e3).1
    rcases hN with rfl | ⟨gn, on, rfl, hgn, hc⟩
    · have hlk : 0 < KL.length := by
        rcases Nat.eq_zero_or_pos KL.length with h | h
        · have := hnil (List.eq_nil_of_length_eq_zero h); cases this
        · exact h
      refine (record_D w an 0 0 0 cn g KL.length cap 0 (zipK NS KL) f (by omega) (by omega) ⟨fun j e h => ?_, fun j e i u h => ?_⟩ (by omega) (by omega) hcn e4 e5 rfl hlk (by omega) (by omega) hW hB).mono ?_
      · have := (List.getElem?_eq_some_iff.1 (zipK_inv NS KL j e h).1).1
        omega
      · have := (List.getElem?_eq_some_iff.1 (zipK_inv NS KL j e h).1).1
        omega
      · rintro e w' ⟨aN, cN, aK, cK, rfl, r1, r2, r3⟩
        rw [show (zipK NS KL).length = 0 by omega]
        exact ⟨aN, cN, aK, cK, by rw [sumH_hAt], ⟨r1, r2, upE_rises _ _⟩, r3⟩
    · have hP : PairsIn w gn on g (zipK NS KL) := ⟨fun j e h => hc j _ (zipK_inv NS KL j e h).1, fun j e p u h hu => hkc j _ (zipK_inv NS KL j e h).2 p u hu⟩
      rcases Nat.lt_or_ge n KL.length with hlt | hge
      · refine (record_B w gn on n cn g KL.length cap n (zipK NS KL) f (by omega) (by omega) hP (by omega) (by omega) hcn e4 e5 hlt rfl (fun _ => hgn) (fun _ => hgs) hW hB).mono ?_
        rintro e w' ⟨aN, cN, aK, cK, rfl, r1, r2, r3⟩
        rw [show (zipK NS KL).length = n by omega]
        exact ⟨aN, cN, aK, cK, by rw [sumH_hAt], ⟨r1, r2, upE_rises _ _⟩, r3⟩
      · refine (record_A w gn on n cn g KL.length cap KL.length (zipK NS KL) f (by omega) (by omega) hP (by omega) (by omega) hcn e4 e5 hge rfl (fun _ => hgn) (fun _ => hgs) hW hB).mono ?_
        rintro e w' ⟨aN, cN, aK, cK, rfl, r1, r2, r3⟩
        rw [show (zipK NS KL).length = KL.length by omega]
        exact ⟨aN, cN, aK, cK, by rw [sumH_hAt], ⟨r1, r2, upE_rises _ _⟩, r3⟩
/-- what a record that was made is, as a value with its weight. -/
theorem vt_rec {w w' : World} {F : Nat → Prop} {f : Kid → Nat} {E : List Ent} {aN aK : Option Addr} {cN cK : Nat} (hF : ∀ b, F b → b < w.heap.size) (hb : Below w.heap.size w w') (hR : RecOf w' w.heap.size aN cN aK cK E) (hE : E.length ≤ 1000)
    (hv : ∀ e ∈ E, VT w F e.2 (f e.2)) (hs : sumE f E ≤ 100000000) : ∃ F' : Nat → Prop, (∀ b, F b → F' b) ∧ (∀ b, F' b → F b ∨ (w.heap.size ≤ b ∧ b < w'.heap.size)) ∧ VT w' F' ⟨4, 0, 0, ⟨#[]⟩, aN, E.length, cN, aK, E.length, cK, none, ((1 + sumE f E : Nat) : Int)⟩ (1 + sumE f E) := by
  have h9 : own9 4 ⟨#[]⟩ = 1 := by simp [own9]
  rcases hR.kd.2 with ⟨h1, h0⟩ | ⟨g, cap, cur, e1, e2, e3, e4, e5, e6, e7⟩
  · cases E with
    | cons e E => simp at h0
    | nil =>
      simp at h1
      obtain ⟨rfl, rfl⟩ := h1
      refine ⟨F, fun _ h => h, fun _ h => Or.inl h, ?_⟩
      have := VT.leaf (w := w') (F := F) ⟨4, 0, 0, ⟨#[]⟩, aN, 0, cN, none, 0, 0, none, ((1 + sumE f [] : Nat) : Int)⟩ (Nat.zero_le _) rfl rfl rfl (Or.inr (by simp [sumE, own9]))
      simpa [own9, sumE] using this
  · cases e1
    refine ⟨fun b => F b ∨ b = g, fun _ h => Or.inl h, fun b h => ?_, ?_⟩
    · rcases h with h | rfl
      · exact Or.inl h
      · exact Or.inr ⟨e2, (Array.getElem?_eq_some_iff.1 e3).1⟩
    · have hEq : sumH (hAt f E) E.length = sumE f E := sumH_hAt f E
      have := VT.kids (w := w') (F := fun b => F b ∨ b = g) ⟨4, 0, 0, ⟨#[]⟩, aN, E.length, cN, some ⟨g, 0, none⟩, E.length, cK, none, ((1 + sumE f E : Nat) : Int)⟩ g (hAt f E) (fun j => match E[j]? with | some e => e.2 | none => kInt 0) (Nat.zero_le _) rfl (Or.inr rfl) (by simp; omega) e4 (by simp only [h9, hEq]; omega) (Or.inr (by simp only [h9, hEq]))
        (fun j i u hj hi => by
          simp only at hj
          rw [List.getElem?_eq_getElem hj] at hi
          rw [cell_of_row w' g _ _ 28 _ e3]
          exact row_at e7 (cellE E j _ i u (List.getElem?_eq_getElem hj) hi))
        (fun j hj => by
          simp only at hj
          have hh : hAt f E j = f (E[j]).2 := by unfold hAt; rw [List.getElem?_eq_getElem hj]
          rw [hh]
          simp only [List.getElem?_eq_getElem hj]
          exact (hv _ (List.getElem_mem hj)).on (fun _ h => Or.inl h) (fun b hb' => hb.block b (hF b hb')))
      simpa only [h9, hEq] using this
end Go.Proofs.YtpefajgllapicaaDoor
