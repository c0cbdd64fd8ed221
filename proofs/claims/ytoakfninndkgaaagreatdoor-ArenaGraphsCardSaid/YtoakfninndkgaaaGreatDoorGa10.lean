/- A value as it lies, with its weight; both weights are that; Record at any kids. Walks: Tag, and the parts of a float's bits. Walks: Parts; what Made reads and holds. What each kind of value that Made makes weighs. -/
import Derived.Test.YtoakfninndkgaaaGreatDoorGa09
set_option linter.unusedSimpArgs false
set_option linter.unusedVariables false
set_option linter.unusedVariables false
namespace Go.Proofs.YtoakfninndkgaaaGreatDoor.Val
open Go.RowKit
/-- a value, all of whose kids lie in the blocks F, and its weight. -/
inductive VT (w : World) (F : Nat → Prop) : Kid → Nat → Prop
  | leaf (k : Kid) (hs : k.kt.size ≤ 100000) (ha : k.ka = none) (hn : k.kn = 0) (hc : k.kc = 0) (hv : k.hv = 0 ∨ k.hv = (own9 k.kd k.kt : Nat)) : VT w F k (own9 k.kd k.kt)
  | kids (k : Kid) (g : Nat) (H : Nat → Nat) (K : Nat → Kid) (hs : k.kt.size ≤ 100000) (ha : k.ka = some ⟨g, 0, none⟩) (hg : F g) (hn : k.kn ≤ 100000) (hnc : k.kn ≤ k.kc) (ht : own9 k.kd k.kt + sumH H k.kn ≤ 1000000000) (hv : k.hv = 0 ∨ k.hv = (own9 k.kd k.kt + sumH H k.kn : Nat))
      (hc : ∀ j i u, j < k.kn → (K j).cells[i]? = some u → w.cell? ⟨g, j * 8 + i, none⟩ = some u) (hk : ∀ j, j < k.kn → VT w F (K j) (H j)) : VT w F k (own9 k.kd k.kt + sumH H k.kn)
theorem VT.on {w w' : World} {F F' : Nat → Prop} {k : Kid} {h : Nat} (hv : VT w F k h) (hF : ∀ b, F b → F' b) (hb : ∀ b, F b → w'.heap[b]? = w.heap[b]?) : VT w' F' k h := by
  induction hv with
  | leaf k hs ha hn hc hv => exact .leaf k hs ha hn hc hv
  | kids k g H K hs ha hg hn hnc ht hv hc hk ih =>
    refine .kids k g H K hs ha (hF g hg) hn hnc ht hv (fun j i u hj hi => ?_) ih
    rw [← hc j i u hj hi]
    exact World.cell?_of_block (hb g hg)
theorem own9_pos (kd : Int) (s : ByteArray) : 1 ≤ own9 kd s := by unfold own9; omega
theorem VT.pos {w : World} {F : Nat → Prop} {k : Kid} {h : Nat} (hv : VT w F k h) : 1 ≤ h := by
  cases hv with
  | leaf hs ha hn hc hv => exact own9_pos _ _
  | kids g H K hs ha hg hn hnc ht hv hc hk => have := own9_pos k.kd k.kt; omega
theorem VT.weighs {w : World} {F : Nat → Prop} {k : Kid} {h : Nat} (hv : VT w F k h) (hF : ∀ b, F b → b < w.heap.size) : Weighs w k.val h ∧ True := by
  induction hv with
  | leaf k hs ha hn hc hv =>
    obtain ⟨kd, ki, kb, kt, na, nn, nc, ka, kn, kc, fp, hv'⟩ := k
    simp only at hs ha hn hc hv
    subst ha hn hc
    unfold Kid.val
    have h9 : own9 kd kt ≤ 100001 := by unfold own9; split <;> omega
    refine ⟨?_, ?_⟩
    · rcases hv with rfl | rfl
      · by_cases h2 : kd = 2
        · subst h2
          exact weigh_leaf2 w _ _ _ _ kt hs
        · exact weigh_leaf w kd _ _ _ _ kt h2 hs
      · exact weigh_heavy w _ _ _ _ _ _ _ _ (own9_pos _ _) (by omega)
    · trivial
  | kids k g H K hs ha hg hn hnc ht hv hc hk ih =>
    obtain ⟨kd, ki, kb, kt, na, nn, nc, ka, kn, kc, fp, hv'⟩ := k
    simp only at hs ha hn hnc ht hv hc ih
    subst ha
    unfold Kid.val
    have hKW : ∀ j, j < kn → KidW w g j (H j) := fun j hj => ⟨_, _, _, _, _, _, _, _, _, _, _, _, ⟨hc j 0 _ hj rfl, hc j 1 _ hj rfl, hc j 2 _ hj rfl, hc j 3 _ hj rfl, hc j 4 _ hj rfl, hc j 5 _ hj rfl, hc j 6 _ hj rfl, hc j 7 _ hj rfl⟩, (ih j hj).1⟩
    have h1 := own9_pos kd kt
    refine ⟨?_, ?_⟩
    · rcases hv with rfl | rfl
      · by_cases h2 : kd = 2
        · subst h2
          exact weigh_kids2 w _ _ _ _ kt hs g kn kc H hn hnc (hF g hg) hKW ht
        · exact weigh_kids w kd _ _ _ _ kt h2 hs g kn kc H hn hnc (hF g hg) hKW ht
      · exact weigh_heavy w _ _ _ _ _ _ _ _ (by omega) (by omega)
    · trivial
/-- names and kids, by turns. -/
def zipK (NS : List ByteArray) (KL : List Kid) : List Ent := NS.zip KL
def kRowK (KL : List Kid) : List Ent := KL.map fun k => ((⟨#[]⟩ : ByteArray), k)
def sumE (f : Kid → Nat) (E : List Ent) : Nat := (E.map fun e => f e.2).sum
theorem sumE_ins (f : Kid → Nat) (E : List Ent) (x : ByteArray) (k : Kid) : sumE f (insE E x k) ≤ sumE f E + f k := by
  induction E with
  | nil => simp [insE, sumE]
  | cons e l ih =>
    rw [insE_cons]
    unfold sumE at *
    split
    · simp only [List.map_cons, List.sum_cons]
      omega
    · split <;> simp only [List.map_cons, List.sum_cons] <;> omega
theorem sumE_up (f : Kid → Nat) (P : List Ent) : sumE f (upE P P.length) ≤ sumE f P := by
  unfold upE
  rw [List.take_of_length_le (Nat.le_refl _)]
  have : ∀ (l E : List Ent), sumE f (l.foldl (fun E e => insE E e.1 e.2) E) ≤ sumE f E + sumE f l := by
    intro l
    induction l with
    | nil => intro E; simp [sumE]
    | cons e l ih =>
      intro E
      have h1 := ih (insE E e.1 e.2)
      have h2 := sumE_ins f E e.1 e.2
      have h3 : sumE f (e :: l) = f e.2 + sumE f l := rfl
      simp only [List.foldl_cons]
      omega
  have := this P []
  have h0 : sumE f [] = 0 := rfl
  omega
theorem sumE_zip (f : Kid → Nat) : ∀ (NS : List ByteArray) (KL : List Kid), sumE f (zipK NS KL) ≤ (KL.map f).sum
  | [], KL => by simp [zipK, sumE]
  | _ :: _, [] => by simp [zipK, sumE]
  | n :: NS, k :: KL => by
    have := sumE_zip f NS KL
    unfold zipK sumE at *
    simp only [List.zip_cons_cons, List.map_cons, List.sum_cons]
    omega
theorem sumH_shift (H : Nat → Nat) (n : Nat) : sumH H (n + 1) = H 0 + sumH (fun j => H (j + 1)) n := by
  induction n with
  | zero => simp [sumH]
  | succ n ih =>
    rw [show sumH H (n + 1 + 1) = sumH H (n + 1) + H (n + 1) from rfl, ih, show sumH (fun j => H (j + 1)) (n + 1) = sumH (fun j => H (j + 1)) n + H (n + 1) from rfl]
    omega
theorem sumH_hAt (f : Kid → Nat) : ∀ E : List Ent, sumH (hAt f E) E.length = sumE f E
  | [] => rfl
  | e :: E => by
    have := sumH_hAt f E
    rw [List.length_cons, sumH_shift]
    have h0 : hAt f (e :: E) 0 = f e.2 := rfl
    have h1 : (fun j => hAt f (e :: E) (j + 1)) = hAt f E := rfl
    rw [h0, h1, this]
    rfl
def RecPostK (w : World) (f : Kid → Nat) (E : List Ent) (e : Ending) (w' : World) : Prop := ∃ (aN : Option Addr) (cN : Nat) (aK : Option Addr) (cK : Nat), e = .returned (.agg #[.int .i64 4, .int .i64 0, .int .u64 0, .string ⟨#[]⟩, .slice aN E.length cN, .slice aK E.length cK, .pointer none, .int .i64 ((1 + sumE f E : Nat) : Int)]) ∧ RecOf w' w.heap.size aN cN aK cK E ∧ Below w.heap.size w w'
theorem zipK_inv (NS : List ByteArray) (KL : List Kid) (j : Nat) (e : Ent) (h : (zipK NS KL)[j]? = some e) : NS[j]? = some e.1 ∧ KL[j]? = some e.2 := List.getElem?_zip_eq_some.1 h
theorem zipK_len (NS : List ByteArray) (KL : List Kid) : (zipK NS KL).length = min NS.length KL.length := by simp [zipK]
theorem rec_gen (w : World) (base : Nat) (an : Option Addr) (n cn : Nat) (NS : List ByteArray) (vk : Value) (KL : List Kid) (f : Kid → Nat) (hN : NamesAt w an n NS) (hcn : n ≤ cn) (h20 : n ≤ 20) (hk20 : KL.length ≤ 20)
    (hk : w.ownsRow base 70 8 vk KL.length (cells (kRowK KL))) (hnil : KL = [] → vk = .slice none 0 0) (hW' : ∀ k ∈ KL, Weighs w k.val (f k)) (hB' : ∀ k ∈ KL, f k ≤ 100000) :
    Calls Tryz.prog 48 #[.slice an n cn, vk] w (RecPostK w f (upE (zipK NS KL) (zipK NS KL).length)) := by
  obtain ⟨hn, hN⟩ := hN
  have hlen := zipK_len NS KL
  have hmem : ∀ e ∈ zipK NS KL, e.2 ∈ KL := fun e he => by
    obtain ⟨j, hj⟩ := List.getElem?_of_mem he
    exact List.mem_of_getElem? (zipK_inv NS KL j e hj).2
  have hW : ∀ e ∈ zipK NS KL, Weighs w e.2.val (f e.2) := fun e he => hW' _ (hmem e he)
  have hB : ∀ e ∈ zipK NS KL, f e.2 ≤ 100000 := fun e he => hB' _ (hmem e he)
  rcases hk.2 with ⟨rfl, h0⟩ | ⟨g, cap, cur, rfl, e2, e3, e4, e5, e6, e7⟩
  · refine (record_C w an 0 0 n cn 0 0 0 0 (zipK NS KL) f (by omega) (by omega) ⟨fun j e h => ?_, fun j e i u h => ?_⟩ (by omega) (by omega) hcn (by omega) (by omega) rfl True.intro (by omega) (by omega) hW hB).mono ?_
    · have := (List.getElem?_eq_some_iff.1 (zipK_inv NS KL j e h).2).1
      omega
    · have := (List.getElem?_eq_some_iff.1 (zipK_inv NS KL j e h).2).1
      omega
    · rintro e w' ⟨aN, cN, aK, cK, rfl, r1, r2, r3⟩
      rw [show (zipK NS KL).length = 0 by omega]
      exact ⟨aN, cN, aK, cK, by rw [sumH_hAt], ⟨r1, r2, upE_rises _ _⟩, r3⟩
  · unfold maxLen at e5
    have hkc : ∀ j k, KL[j]? = some k → ∀ p u, k.cells[p]? = some u → w.cell? ⟨g, j * 8 + p, none⟩ = some u := fun j k hi p u hu => by
      rw [cell_of_row w g _ _ 70 _ e3]
      exact row_at e7 (cellE (kRowK KL) j (⟨#[]⟩, k) p u (by unfold kRowK; rw [List.getElem?_map, hi]; rfl) hu)
    have hgs := (Array.getElem?_eq_some_iff.1 e3).1
    rcases hN with rfl | ⟨gn, on, rfl, hgn, hc⟩
    · have hlk : 0 < KL.length := by
        rcases Nat.eq_zero_or_pos KL.length with h | h
        · have := hnil (List.eq_nil_of_length_eq_zero h); cases this
        · exact h
      refine (record_D w an 0 0 0 cn g KL.length cap 0 (zipK NS KL) f (by omega) (by omega) ⟨fun j e h => ?_, fun j e i u h => ?_⟩ (by omega) (by omega) hcn e4 e5 rfl hlk (by omega) (by omega) hW hB).mono ?_
      · have := (List.getElem?_eq_some_iff.1 (zipK_inv NS KL j e h).1).1
        omega
      · have := (List.getElem?_eq_some_iff.1 (zipK_inv NS KL j e h).1).1
        omega
      · rintro e w' ⟨aN, cN, aK, cK, rfl, r1, r2, r3⟩
        rw [show (zipK NS KL).length = 0 by omega]
        exact ⟨aN, cN, aK, cK, by rw [sumH_hAt], ⟨r1, r2, upE_rises _ _⟩, r3⟩
    · have hP : PairsIn w gn on g (zipK NS KL) := ⟨fun j e h => hc j _ (zipK_inv NS KL j e h).1, fun j e p u h hu => hkc j _ (zipK_inv NS KL j e h).2 p u hu⟩
      rcases Nat.lt_or_ge n KL.length with hlt | hge
      · refine (record_B w gn on n cn g KL.length cap n (zipK NS KL) f (by omega) (by omega) hP (by omega) (by omega) hcn e4 e5 hlt rfl (fun _ => hgn) (fun _ => hgs) hW hB).mono ?_
        rintro e w' ⟨aN, cN, aK, cK, rfl, r1, r2, r3⟩
        rw [show (zipK NS KL).length = n by omega]
        exact ⟨aN, cN, aK, cK, by rw [sumH_hAt], ⟨r1, r2, upE_rises _ _⟩, r3⟩
      · refine (record_A w gn on n cn g KL.length cap KL.length (zipK NS KL) f (by omega) (by omega) hP (by omega) (by omega) hcn e4 e5 hge rfl (fun _ => hgn) (fun _ => hgs) hW hB).mono ?_
        rintro e w' ⟨aN, cN, aK, cK, rfl, r1, r2, r3⟩
        rw [show (zipK NS KL).length = KL.length by omega]
        exact ⟨aN, cN, aK, cK, by rw [sumH_hAt], ⟨r1, r2, upE_rises _ _⟩, r3⟩
/-- what a record that was made is, as a value with its weight. -/
theorem vt_rec {w w' : World} {F : Nat → Prop} {f : Kid → Nat} {E : List Ent} {aN aK : Option Addr} {cN cK : Nat} (hF : ∀ b, F b → b < w.heap.size) (hb : Below w.heap.size w w') (hR : RecOf w' w.heap.size aN cN aK cK E) (hE : E.length ≤ 1000)
    (hv : ∀ e ∈ E, VT w F e.2 (f e.2)) (hs : sumE f E ≤ 100000000) : ∃ F' : Nat → Prop, (∀ b, F b → F' b) ∧ (∀ b, F' b → F b ∨ (w.heap.size ≤ b ∧ b < w'.heap.size)) ∧ VT w' F' ⟨4, 0, 0, ⟨#[]⟩, aN, E.length, cN, aK, E.length, cK, none, ((1 + sumE f E : Nat) : Int)⟩ (1 + sumE f E) := by
  have h9 : own9 4 ⟨#[]⟩ = 1 := by simp [own9]
  rcases hR.kd.2 with ⟨h1, h0⟩ | ⟨g, cap, cur, e1, e2, e3, e4, e5, e6, e7⟩
  · cases E with
    | cons e E => simp at h0
    | nil =>
      simp at h1
      obtain ⟨rfl, rfl⟩ := h1
      refine ⟨F, fun _ h => h, fun _ h => Or.inl h, ?_⟩
      have := VT.leaf (w := w') (F := F) ⟨4, 0, 0, ⟨#[]⟩, aN, 0, cN, none, 0, 0, none, ((1 + sumE f [] : Nat) : Int)⟩ (Nat.zero_le _) rfl rfl rfl (Or.inr (by simp [sumE, own9]))
      simpa [own9, sumE] using this
  · cases e1
    refine ⟨fun b => F b ∨ b = g, fun _ h => Or.inl h, fun b h => ?_, ?_⟩
    · rcases h with h | rfl
      · exact Or.inl h
      · exact Or.inr ⟨e2, (Array.getElem?_eq_some_iff.1 e3).1⟩
    · have hEq : sumH (hAt f E) E.length = sumE f E := sumH_hAt f E
      have := VT.kids (w := w') (F := fun b => F b ∨ b = g) ⟨4, 0, 0, ⟨#[]⟩, aN, E.length, cN, some ⟨g, 0, none⟩, E.length, cK, none, ((1 + sumE f E : Nat) : Int)⟩ g (hAt f E) (fun j => match E[j]? with | some e => e.2 | none => kInt 0) (Nat.zero_le _) rfl (Or.inr rfl) (by simp; omega) e4 (by simp only [h9, hEq]; omega) (Or.inr (by simp only [h9, hEq]))
        (fun j i u hj hi => by
          simp only at hj
          rw [List.getElem?_eq_getElem hj] at hi
          rw [cell_of_row w' g _ _ 70 _ e3]
          exact row_at e7 (cellE E j _ i u (List.getElem?_eq_getElem hj) hi))
        (fun j hj => by
          simp only at hj
          have hh : hAt f E j = f (E[j]).2 := by unfold hAt; rw [List.getElem?_eq_getElem hj]
          rw [hh]
          simp only [List.getElem?_eq_getElem hj]
          exact (hv _ (List.getElem_mem hj)).on (fun _ h => Or.inl h) (fun b hb' => hb.block b (hF b hb')))
      simpa only [h9, hEq] using this
/-- a value: its kind, its text, its names, its kids. -/
inductive V
  | leaf (kd : Int) (st : ByteArray)
  | tag (st : ByteArray) (kid : V)
  | record (NS : List ByteArray) (kid : Nat → V)
def vEnd : V := .leaf 0 ⟨#[]⟩
/-- a value as it lies, whose kids lie in the blocks F. -/
inductive VS (w : World) (F : Nat → Prop) : Kid → V → Prop
  | leaf (k : Kid) (hz : k.na = none ∧ k.nn = 0 ∧ k.nc = 0) (hs : k.kt.size ≤ 100000) (h4 : k.kd ≠ 4) (h5 : k.kd ≠ 5) : VS w F k (.leaf k.kd k.kt)
  | tag (k : Kid) (g : Nat) (K : Kid) (v : V) (hz : k.na = none ∧ k.nn = 0 ∧ k.nc = 0) (hs : k.kt.size ≤ 100000) (h5 : k.kd = 5) (ha : k.ka = some ⟨g, 0, none⟩) (hg : F g) (hn : k.kn = 1) (hnc : 1 ≤ k.kc) (hc : ∀ i u, K.cells[i]? = some u → w.cell? ⟨g, i, none⟩ = some u) (hv : VS w F K v) : VS w F k (.tag k.kt v)
  | record (k : Kid) (base : Nat) (E : List Ent) (v : Nat → V) (hs : k.kt.size ≤ 100000) (h4 : k.kd = 4) (hn : k.nn = E.length) (hk : k.kn = E.length) (hl : E.length ≤ 1000) (hR : RecOf w base k.na k.nc k.ka k.kc E) (hN : ∀ g, (Value.slice k.na k.nn k.nc).ownBlock = some g → F g) (hK : ∀ g, (Value.slice k.ka k.kn k.kc).ownBlock = some g → F g) (hv : ∀ j e, E[j]? = some e → VS w F e.2 (v j)) : VS w F k (.record (names E) v)
theorem owns_block {w w' : World} {base : Nat} {e : TypeId} {size n : Nat} {v : Value} {xs : List Value} (h : w.ownsRow base e size v n xs) (hb : ∀ g, v.ownBlock = some g → w'.heap[g]? = w.heap[g]?) : w'.ownsRow base e size v n xs := by
  refine ⟨h.1, ?_⟩
  rcases h.2 with h' | ⟨g, cap, cur, e1, e2, e3, e4⟩
  · exact Or.inl h'
  · exact Or.inr ⟨g, cap, cur, e1, e2, by rw [hb g (by rw [e1]; rfl)]; exact e3, e4⟩
theorem VS.on {w w' : World} {F F' : Nat → Prop} {k : Kid} {v : V} (hv : VS w F k v) (hF : ∀ b, F b → F' b) (hb : ∀ b, F b → w'.heap[b]? = w.heap[b]?) : VS w' F' k v := by
  induction hv with
  | leaf k hz hs h4 h5 => exact .leaf k hz hs h4 h5
  | tag k g K v hz hs h5 ha hg hn hnc hc hv ih =>
    refine .tag k g K v hz hs h5 ha (hF g hg) hn hnc (fun i u hi => ?_) ih
    rw [← hc i u hi]
    exact World.cell?_of_block (hb g hg)
  | record k base E v hs h4 hn hk hl hR hN hK hv ih =>
    refine .record k base E v hs h4 hn hk hl ⟨owns_block hR.nm (fun g hg => hb g (hN g (by rw [hn]; exact hg))), owns_block hR.kd (fun g hg => hb g (hK g (by rw [hk]; exact hg))), hR.rises⟩ (fun g hg => hF g (hN g hg)) (fun g hg => hF g (hK g hg)) ih
end Go.Proofs.YtoakfninndkgaaaGreatDoor.Val
set_option linter.unusedVariables false
namespace Go.Proofs.YtoakfninndkgaaaGreatDoor.Val
open Go.RowKit
theorem step_store_row {P : Program} {w : World} {ops : Array Oper} {o : Oper} {a : Act} {K : Act → World → Prop} {Q : Exit → Act → World → Prop} {E : Prop} (hgd : o.guard = none) (ty : TypeId) (x y : Operand) (ho : o.op = .store ty x y)
    (g : Nat) (cells : Array Value) (hx : a.eval x = .pointer (some ⟨g, 0, none⟩)) (hy : a.eval y = .agg cells)
    (t : TypeId) (old : Array Value) (hg : w.heap[g]? = some (.cells old t (0, 0))) (hi : (P.info? ty).map (·.size) = some cells.size)
    (hold : old.size = cells.size) (h1 : cells.all (·.oneCell') = true)
    (h : K (a.put o.dst undef) (w.setRow g cells)) : if Region.wanted o (yielded ops a.tmps) = true then Oper.wp P o a w K Q else E := by
  have hw : Region.wanted o (yielded ops a.tmps) = true := by simp [Region.wanted, hgd]
  rw [if_pos hw]
  exact wp_store_row ty x y ho g cells hx hy t old hg hi hold h1 h
theorem set8 (w5 : World) (Y : Nat) (z0 z1 z2 z3 z4 z5 z6 z7 v0 v1 v2 v3 v4 v5 v6 v7 : Value) (hY : w5.heap[Y]? = some (.cells #[z0, z1, z2, z3, z4, z5, z6, z7] 70 (0, 0))) :
    ((((((((w5.setCell ⟨Y, 0, none⟩ v0).setCell ⟨Y, 1, none⟩ v1).setCell ⟨Y, 2, none⟩ v2).setCell ⟨Y, 3, none⟩ v3).setCell ⟨Y, 4, none⟩ v4).setCell ⟨Y, 5, none⟩ v5).setCell ⟨Y, 6, none⟩ v6).setCell ⟨Y, 7, none⟩ v7).heap[Y]? = some (.cells #[v0, v1, v2, v3, v4, v5, v6, v7] 70 (0, 0)) ∧ w5.grownBy ((((((((w5.setCell ⟨Y, 0, none⟩ v0).setCell ⟨Y, 1, none⟩ v1).setCell ⟨Y, 2, none⟩ v2).setCell ⟨Y, 3, none⟩ v3).setCell ⟨Y, 4, none⟩ v4).setCell ⟨Y, 5, none⟩ v5).setCell ⟨Y, 6, none⟩ v6).setCell ⟨Y, 7, none⟩ v7) (some Y) := by
  have hh := (heap_setCell_same _ Y 7 _ 70 v7 (heap_setCell_same _ Y 6 _ 70 v6 (heap_setCell_same _ Y 5 _ 70 v5 (heap_setCell_same _ Y 4 _ 70 v4 (heap_setCell_same _ Y 3 _ 70 v3 (heap_setCell_same _ Y 2 _ 70 v2 (heap_setCell_same _ Y 1 _ 70 v1 (heap_setCell_same _ Y 0 _ 70 v0 hY))))))))
  refine ⟨by simpa using hh, ?_⟩
  exact (grown_at (grown_at (grown_at (grown_at (grown_at (grown_at (grown_at (grown_at (⟨rfl, rfl, rfl, Nat.le_refl _, fun _ _ _ => rfl⟩ : w5.grownBy w5 (some Y)) ⟨Y, 0, none⟩ rfl v0) ⟨Y, 1, none⟩ rfl v1) ⟨Y, 2, none⟩ rfl v2) ⟨Y, 3, none⟩ rfl v3) ⟨Y, 4, none⟩ rfl v4) ⟨Y, 5, none⟩ rfl v5) ⟨Y, 6, none⟩ rfl v6) ⟨Y, 7, none⟩ rfl v7)
end Go.Proofs.YtoakfninndkgaaaGreatDoor.Val
set_option linter.unusedVariables false
namespace Go.Proofs.YtoakfninndkgaaaGreatDoor.Val
open Go.RowKit
def PartsPost (w : World) (e : Ending) (w' : World) : Prop := ∃ (a : Bool) (c d : Int) (z n : Bool), e = .returned (.tuple #[.bool a, .int .i64 c, .int .u64 d, .bool z, .bool n]) ∧ w = w'
set_option maxHeartbeats 400000 in
theorem parts_any (n : Nat) (hn : n < 2 ^ 64) (w : World) : Calls Tryz.prog 47 #[.int .u64 n] w (PartsPost w) := by
  obtain ⟨S, hs⟩ : ∃ S : Bool, (((n : Int) / 9223372036854775808) == 1) = S := ⟨_, rfl⟩
  obtain ⟨E, hE⟩ : ∃ E, n / 2 ^ 52 % 2048 = E := ⟨_, rfl⟩
  obtain ⟨M, hM⟩ : ∃ M, n % 2 ^ 52 = M := ⟨_, rfl⟩
  have hE1 : (n : Int) / 4503599627370496 % 2048 = (E : Int) := by omega
  have hM1 : (n : Int) % 4503599627370496 = (M : Int) := by omega
  have bE : E < 2048 := by omega
  have bM : M < 4503599627370496 := by omega
  clear hE hM
  by_cases h1 : E = 2047
  · have he : ((E : Int) == 2047) = true := by simp [h1]
    clear h1
    go_enter Tryz.func47, Tryz.ntmps47
    go_wp2
    exact bodyPost_ret (v := .tuple #[.bool S, .int .i64 0, .int .u64 0, .bool ((M : Int) == 0), .bool ((M : Int) != 0)]) (by simp [results, Tryz.results47, go_sem]) rfl ⟨_, _, _, _, _, rfl, rfl⟩
  · by_cases h2 : E = 0
    · have he : ((E : Int) == 2047) = false := by simp; omega
      have he0 : ((E : Int) == 0) = true := by simp [h2]
      clear h1 h2
      go_enter Tryz.func47, Tryz.ntmps47
      go_wp2
      exact bodyPost_ret (v := .tuple #[.bool S, .int .i64 (-1074), .int .u64 M, .bool false, .bool false]) (by simp [results, Tryz.results47, hM1, go_sem]) rfl ⟨_, _, _, _, _, rfl, rfl⟩
    · have he : ((E : Int) == 2047) = false := by simp; omega
      have he0 : ((E : Int) == 0) = false := by simp; omega
      clear h1 h2
      go_enter Tryz.func47, Tryz.ntmps47
      go_wp2
      exact bodyPost_ret (v := .tuple #[.bool S, .int .i64 ((E : Int) - 1075), .int .u64 ((M + 4503599627370496 : Nat) : Int), .bool false, .bool false]) (by simp [results, Tryz.results47, go_sem]) rfl ⟨_, _, _, _, _, rfl, rfl⟩
/-- a shape, as it lies. -/
structure Shp where
  kd : Int
  it : Int
  bt : Nat
  st : ByteArray
  na : Option Addr
  nn : Nat
  nc : Nat
  NS : List ByteArray
  ka : Option Addr
  kn : Nat
  kc : Nat
  KS : List Int
structure ShpIn (w : World) (b off i : Nat) (t : Shp) : Prop where
  c0 : w.cell? ⟨b, off + i * 6, none⟩ = some (.int .i64 t.kd)
  c1 : w.cell? ⟨b, off + i * 6 + 1, none⟩ = some (.int .i64 t.it)
  c2 : w.cell? ⟨b, off + i * 6 + 2, none⟩ = some (.int .u64 (t.bt : Int))
  c3 : w.cell? ⟨b, off + i * 6 + 3, none⟩ = some (.string t.st)
  c4 : w.cell? ⟨b, off + i * 6 + 4, none⟩ = some (.slice t.na t.nn t.nc)
  c5 : w.cell? ⟨b, off + i * 6 + 5, none⟩ = some (.slice t.ka t.kn t.kc)
  lt : b < w.heap.size
  bits : t.bt < 2 ^ 64
  names : NamesAt w t.na t.nn t.NS
  nnc : t.nn ≤ t.nc
  knl : t.kn = t.KS.length
  knc : t.kn ≤ t.kc
  kcc : t.kc ≤ maxLen
  kids : t.kn = 0 ∨ ∃ gk ok, t.ka = some ⟨gk, ok, none⟩ ∧ gk < w.heap.size ∧ ∀ j k, t.KS[j]? = some k → w.cell? ⟨gk, ok + j, none⟩ = some (.int .i64 k)
  kwf : ∀ k ∈ t.KS, (Lit.int .i64 k).wf = true
theorem NamesAt.on {w w' : World} {an : Option Addr} {n : Nat} {NS : List ByteArray} (h : NamesAt w an n NS) (hb : Below w.heap.size w w') : NamesAt w' an n NS := by
  refine ⟨h.1, ?_⟩
  rcases h.2 with h' | ⟨gn, on, e, hg, hc⟩
  · exact Or.inl h'
  · exact Or.inr ⟨gn, on, e, Nat.lt_of_lt_of_le hg hb.size, fun i s hi => by rw [← hc i s hi]; exact hb.cell (p := ⟨gn, on + i, none⟩) hg⟩
theorem ShpIn.on {w w' : World} {b off i : Nat} {t : Shp} (h : ShpIn w b off i t) (hb : Below w.heap.size w w') : ShpIn w' b off i t where
  c0 := by rw [← h.c0]; exact hb.cell (p := ⟨b, _, none⟩) h.lt
  c1 := by rw [← h.c1]; exact hb.cell (p := ⟨b, _, none⟩) h.lt
  c2 := by rw [← h.c2]; exact hb.cell (p := ⟨b, _, none⟩) h.lt
  c3 := by rw [← h.c3]; exact hb.cell (p := ⟨b, _, none⟩) h.lt
  c4 := by rw [← h.c4]; exact hb.cell (p := ⟨b, _, none⟩) h.lt
  c5 := by rw [← h.c5]; exact hb.cell (p := ⟨b, _, none⟩) h.lt
  lt := Nat.lt_of_lt_of_le h.lt hb.size
  bits := h.bits
  names := h.names.on hb
  nnc := h.nnc
  knl := h.knl
  knc := h.knc
  kcc := h.kcc
  kids := by
    rcases h.kids with h' | ⟨gk, ok, e, hg, hc⟩
    · exact Or.inl h'
    · exact Or.inr ⟨gk, ok, e, Nat.lt_of_lt_of_le hg hb.size, fun i s hi => by rw [← hc i s hi]; exact hb.cell (p := ⟨gk, ok + i, none⟩) hg⟩
  kwf := h.kwf
/-- a value made, its weight, its size. -/
structure Mde where
  k : Kid
  h : Nat
  n : Nat
def kidsOf (Z : List Mde) : List Kid := Z.map (·.k)
def sizeOf' (Z : List Mde) : Nat := (Z.map (·.n)).sum
/-- what holds of all that were made. -/
structure OkM (w : World) (F : Nat → Prop) (e : Mde) : Prop where
  vt : VT w F e.k e.h
  vs : ∃ v, VS w F e.k v
  le : e.h ≤ 31 * e.n
  pos : 1 ≤ e.n
  top : e.n ≤ 200
theorem OkM.on {w w' : World} {F F' : Nat → Prop} {e : Mde} (h : OkM w F e) (hF : ∀ b, F b → F' b) (hb : ∀ b, F b → w'.heap[b]? = w.heap[b]?) : OkM w' F' e := ⟨h.vt.on hF hb, h.vs.elim fun v hv => ⟨v, hv.on hF hb⟩, h.le, h.pos, h.top⟩
/-- the row of all that were made. -/
structure OutIn (w : World) (base : Nat) (F : Nat → Prop) (v4 v5 : Value) (Z : List Mde) : Prop where
  out : w.ownsRow base 70 8 v4 Z.length (cells (kRowK (kidsOf Z)))
  size : w.ownsRow base 3 1 v5 Z.length (Z.map fun e => Value.int .i64 (e.n : Int))
  ok : ∀ e ∈ Z, OkM w F e
  lt : ∀ b, F b → b < w.heap.size
  n4 : ∀ b, F b → v4.ownBlock ≠ some b
  n5 : ∀ b, F b → v5.ownBlock ≠ some b
  t28 : ∀ b, F b → base ≤ b
theorem OutIn.on {w w' : World} {base : Nat} {F : Nat → Prop} {v4 v5 : Value} {Z : List Mde} (h : OutIn w base F v4 v5 Z) (hb : Below w.heap.size w w') : OutIn w' base F v4 v5 Z where
  out := h.out.kept (row := none) ⟨hb.os, hb.tape, hb.output, hb.size, fun k hk _ => hb.block k hk⟩ (Classical.em (v4.ownBlock = none))
  size := h.size.kept (row := none) ⟨hb.os, hb.tape, hb.output, hb.size, fun k hk _ => hb.block k hk⟩ (Classical.em (v5.ownBlock = none))
  ok e he := (h.ok e he).on (fun _ h => h) (fun b hF => hb.block b (h.lt b hF))
  lt b hF := Nat.lt_of_lt_of_le (h.lt b hF) hb.size
  n4 := h.n4
  n5 := h.n5
  t28 := h.t28
theorem cells_len (E : List Ent) : (cells E).length = E.length * 8 := by
  induction E with
  | nil => rfl
  | cons e l ih =>
    rw [cells_cons, List.length_append, ih]
    have : e.2.cells.length = 8 := rfl
    simp; omega
theorem cells_snoc (L : List Kid) (k : Kid) : cells (kRowK (L ++ [k])) = cells (kRowK L) ++ k.cells := by
  unfold kRowK cells
  simp
theorem kRowK_at (L : List Kid) (j : Nat) (k : Kid) (h : L[j]? = some k) : (kRowK L)[j]? = some (⟨#[]⟩, k) := by unfold kRowK; rw [List.getElem?_map, h]; rfl
end Go.Proofs.YtoakfninndkgaaaGreatDoor.Val
set_option linter.unusedVariables false
namespace Go.Proofs.YtoakfninndkgaaaGreatDoor.Val
open Go.RowKit
def MadePost (w : World) (e : Ending) (w' : World) : Prop := Below w.heap.size w w' ∧ (e = .returned (.tuple #[.agg #[.int .i64 0, .int .i64 0, .int .u64 0, .string ⟨#[]⟩, .slice none 0 0, .slice none 0 0, .pointer none, .int .i64 0], .bool false]) ∨ ∃ (k : Kid) (F : Nat → Prop) (h : Nat), e = .returned (.tuple #[k.val, .bool true]) ∧ VT w' F k h ∧ (∀ b, F b → b < w'.heap.size) ∧ h ≤ 6200 ∧ ∃ v, VS w' F k v)
theorem results_6 {fn : Func} {p u : Tmp} (h : fn.results = #[.cell p 70, .tmp u]) (tmps : Array Value) (w : World) (g : Nat) (cs : Array Value) (hp : tmps.getD p undef = .pointer (some ⟨g, 0, none⟩)) (hg : w.heap[g]? = some (.cells cs 70 (0, 0))) (hi : cs.size = 8) :
    (results fn tmps).run Tryz.prog w = .ok (.tuple #[.agg cs, tmps.getD u undef]) w :=
  results_28 h tmps w g cs hp hg (by rw [hi]; kernel_rfl)
theorem keep_set {w0 w : World} {Y B : Nat} {cs : Array Value} (hb : Below B w0 w) (hY : B ≤ Y) : Below B w0 (w.setRow Y cs) :=
  ⟨hb.os, hb.tape, hb.output, by rw [setRow_size]; exact hb.size, fun k hk => (setRow_other _ _ _ _ (by omega)).trans (hb.block k hk)⟩
theorem least_w (w : World) (F : Nat → Prop) : ∃ f : Kid → Nat, ∀ k n, VT w F k n → VT w F k (f k) ∧ f k ≤ n := by
  have : ∀ k, ∃ m, ∀ n, VT w F k n → VT w F k m ∧ m ≤ n := fun k => by
    by_cases h : ∃ n, VT w F k n
    · obtain ⟨n0, h0⟩ := h
      have : ∀ N n, n ≤ N → VT w F k n → ∃ m, ∀ n, VT w F k n → VT w F k m ∧ m ≤ n := by
        intro N
        induction N with
        | zero => intro n hn hv; exact ⟨n, fun n' hv' => ⟨hv, by omega⟩⟩
        | succ N ih =>
          intro n hn hv
          by_cases hl : ∃ n', n' ≤ N ∧ VT w F k n'
          · obtain ⟨n', hn', hv'⟩ := hl
            exact ih n' hn' hv'
          · exact ⟨n, fun n' hv' => ⟨hv, by
              rcases Nat.lt_or_ge N n' with h | h
              · omega
              · exact absurd ⟨n', h, hv'⟩ hl⟩⟩
      exact this n0 n0 (Nat.le_refl _) h0
    · exact ⟨0, fun n hn => absurd ⟨n, hn⟩ h⟩
  exact ⟨fun k => (this k).choose, fun k => (this k).choose_spec⟩
theorem sizeOf_snoc (C : List Mde) (e : Mde) : sizeOf' (C ++ [e]) = sizeOf' C + e.n := by simp [sizeOf']
theorem sizeOf_le (C : List Mde) (h : ∀ e ∈ C, e.n ≤ 200) : sizeOf' C ≤ C.length * 200 := by
  induction C with
  | nil => simp [sizeOf']
  | cons e l ih =>
    have h1 := ih (fun x hx => h x (List.mem_cons_of_mem _ hx))
    have h2 := h e (List.mem_cons_self ..)
    simp only [sizeOf', List.map_cons, List.sum_cons, List.length_cons] at *
    omega
theorem sum_w (w : World) (F : Nat → Prop) (f : Kid → Nat) (hf : ∀ k n, VT w F k n → VT w F k (f k) ∧ f k ≤ n) (C : List Mde) (h : ∀ e ∈ C, OkM w F e) : ((kidsOf C).map f).sum ≤ 31 * sizeOf' C := by
  induction C with
  | nil => simp [kidsOf, sizeOf']
  | cons e l ih =>
    have h1 := ih (fun x hx => h x (List.mem_cons_of_mem _ hx))
    have h2 := h e (List.mem_cons_self ..)
    have h3 := (hf e.k e.h h2.vt).2
    have h4 := h2.le
    simp only [kidsOf, sizeOf', List.map_cons, List.sum_cons] at *
    omega
theorem kids_in {C : List Mde} {k : Kid} (h : k ∈ kidsOf C) : ∃ e ∈ C, e.k = k := by
  obtain ⟨e, he, rfl⟩ := List.mem_map.1 h
  exact ⟨e, he, rfl⟩
theorem own9_0 (kd : Int) (s : ByteArray) (h : kd ≠ 2) : own9 kd s = 1 := by unfold own9; rw [if_neg h]
theorem ok_leaf (w : World) (F : Nat → Prop) (kd ki kb : Int) (kt : ByteArray) (fp : Option Addr) (n : Nat) (hs : kt.size ≤ 30) (h1 : 1 ≤ n) (h2 : n ≤ 200) (h45 : kd ≠ 4 ∧ kd ≠ 5 := by decide) : OkM w F ⟨⟨kd, ki, kb, kt, none, 0, 0, none, 0, 0, fp, 0⟩, own9 kd kt, n⟩ where
  vt := .leaf ⟨kd, ki, kb, kt, none, 0, 0, none, 0, 0, fp, 0⟩ (by show kt.size ≤ _; omega) rfl rfl rfl (Or.inl rfl)
  vs := ⟨_,   .leaf _ ⟨rfl, rfl, rfl⟩ (by show kt.size ≤ _; omega) h45.1 h45.2⟩
  le := by
    show own9 kd kt ≤ 31 * n
    unfold own9
    split <;> omega
  pos := h1
  top := h2
theorem ok_tag (w : World) (F : Nat → Prop) (st : ByteArray) (g cap : Nat) (e : Mde) (n : Nat) (hs : st.size ≤ 30) (hF : F g) (he : OkM w F e) (hc : ∀ i u, e.k.cells[i]? = some u → w.cell? ⟨g, i, none⟩ = some u) (h1 : 1 + e.n ≤ n) (h2 : n ≤ 200) (hcap : 1 ≤ cap) :
    OkM w F ⟨⟨5, 0, 0, st, none, 0, 0, some ⟨g, 0, none⟩, 1, cap, none, 0⟩, 1 + e.h, n⟩ where
  vt := by
    have h9 : own9 5 st = 1 := own9_0 5 st (by decide)
    have hl := he.le
    have ht := he.top
    have := VT.kids (w := w) (F := F) ⟨5, 0, 0, st, none, 0, 0, some ⟨g, 0, none⟩, 1, cap, none, 0⟩ g (fun _ => e.h) (fun _ => e.k) (by show st.size ≤ _; omega) rfl hF (by show 1 ≤ _; omega) hcap (by show own9 5 st + (0 + e.h) ≤ _; omega) (Or.inl rfl) (fun j i u hj hi => by
      have hj0 : j = 0 := by simp only at hj; omega
      subst hj0
      rw [Nat.zero_mul, Nat.zero_add]
      exact hc i u hi) (fun j hj => he.vt)
    have hh : own9 5 st + sumH (fun _ => e.h) 1 = 1 + e.h := by rw [h9]; show 1 + (0 + e.h) = _; omega
    rw [← hh]
    exact this
  vs := he.vs.elim fun v hv => ⟨_, .tag ⟨5, 0, 0, st, none, 0, 0, some ⟨g, 0, none⟩, 1, cap, none, 0⟩ g e.k v ⟨rfl, rfl, rfl⟩ (by show st.size ≤ _; omega) rfl rfl hF rfl hcap hc hv⟩
  le := by have := he.le; show 1 + e.h ≤ 31 * n; omega
  pos := by show 1 ≤ n; omega
  top := h2
theorem ok_rec {w w' : World} {F : Nat → Prop} {f : Kid → Nat} (hf : ∀ k n, VT w F k n → VT w F k (f k) ∧ f k ≤ n) (C : List Mde) (hC : ∀ e ∈ C, OkM w F e) (NS : List ByteArray) {aN aK : Option Addr} {cN cK : Nat} (hF : ∀ b, F b → b < w.heap.size) (hb : Below w.heap.size w w')
    (hR : RecOf w' w.heap.size aN cN aK cK (upE (zipK NS (kidsOf C)) (zipK NS (kidsOf C)).length)) (hl : NS.length ≤ 5) (n : Nat) (hn : n = 1 + sizeOf' C) (h2 : n ≤ 200) :
    ∃ F' : Nat → Prop, (∀ b, F b → F' b) ∧ (∀ b, F' b → F b ∨ (w.heap.size ≤ b ∧ b < w'.heap.size)) ∧ OkM w' F' ⟨⟨4, 0, 0, ⟨#[]⟩, aN, (upE (zipK NS (kidsOf C)) (zipK NS (kidsOf C)).length).length, cN, aK, (upE (zipK NS (kidsOf C)) (zipK NS (kidsOf C)).length).length, cK, none, ((1 + sumE f (upE (zipK NS (kidsOf C)) (zipK NS (kidsOf C)).length) : Nat) : Int)⟩, 1 + sumE f (upE (zipK NS (kidsOf C)) (zipK NS (kidsOf C)).length), n⟩ := by
  have hs := sumE_up f (zipK NS (kidsOf C))
  have hs2 := sumE_zip f NS (kidsOf C)
  have hs3 := sum_w w F f hf C hC
  have hlen := upE_len (zipK NS (kidsOf C)) _ (Nat.le_refl _)
  have hzl := zipK_len NS (kidsOf C)
  have hv : ∀ e ∈ upE (zipK NS (kidsOf C)) (zipK NS (kidsOf C)).length, VT w F e.2 (f e.2) := fun e he => by
    have hm := upE_mem _ _ (Nat.le_refl _) e he
    obtain ⟨j, hj⟩ := List.getElem?_of_mem hm
    obtain ⟨x, hx, hxe⟩ := kids_in (List.mem_of_getElem? (zipK_inv NS (kidsOf C) j e hj).2)
    rw [← hxe]
    exact (hf _ _ (hC x hx).vt).1
  obtain ⟨F', f1, f2, f3⟩ := vt_rec hF hb hR (by omega) hv (by omega)
  have hown : ∀ (e : TypeId) (sz : Nat) (u : Value) (n : Nat) (xs : List Value), w'.ownsRow w.heap.size e sz u n xs → ∀ g, u.ownBlock = some g → w.heap.size ≤ g ∧ g < w'.heap.size := fun e sz u n xs h g hg => h.lt g hg
  have hvs : ∃ vf : Nat → V, ∀ (j : Nat) (e : Ent), (upE (zipK NS (kidsOf C)) (zipK NS (kidsOf C)).length)[j]? = some e → VS w F e.2 (vf j) := by
    have : ∀ j : Nat, ∃ v : V, ∀ e : Ent, (upE (zipK NS (kidsOf C)) (zipK NS (kidsOf C)).length)[j]? = some e → VS w F e.2 v := fun j => by
      cases hj : (upE (zipK NS (kidsOf C)) (zipK NS (kidsOf C)).length)[j]? with
      | none => exact ⟨vEnd, fun e h => by cases h⟩
      | some e =>
        have hm := upE_mem _ _ (Nat.le_refl _) e (List.mem_of_getElem? hj)
        obtain ⟨j', hj'⟩ := List.getElem?_of_mem hm
        obtain ⟨x, hx, hxe⟩ := kids_in (List.mem_of_getElem? (zipK_inv NS (kidsOf C) j' e hj').2)
        obtain ⟨v, hv'⟩ := (hC x hx).vs
        exact ⟨v, fun e' h => by cases h; rw [← hxe]; exact hv'⟩
    exact ⟨fun j => (this j).choose, fun j => (this j).choose_spec⟩
  obtain ⟨vf, hvf⟩ := hvs
  refine ⟨fun b => F' b ∨ (w.heap.size ≤ b ∧ b < w'.heap.size), fun b h => Or.inl (f1 b h), fun b h => h.elim (f2 b) Or.inr, f3.on (fun _ h => Or.inl h) (fun _ _ => rfl), ⟨_, .record ⟨4, 0, 0, ⟨#[]⟩, aN, (upE (zipK NS (kidsOf C)) (zipK NS (kidsOf C)).length).length, cN, aK, (upE (zipK NS (kidsOf C)) (zipK NS (kidsOf C)).length).length, cK, none, ((1 + sumE f (upE (zipK NS (kidsOf C)) (zipK NS (kidsOf C)).length) : Nat) : Int)⟩ w.heap.size _ vf (Nat.zero_le _) rfl rfl rfl (by omega) hR (fun g hg => Or.inr (hown _ _ _ _ _ hR.nm g hg)) (fun g hg => Or.inr (hown _ _ _ _ _ hR.kd g hg)) (fun j e h => (hvf j e h).on (fun b h => Or.inl (f1 b h)) (fun b hb' => hb.block b (hF b hb')))⟩, by show 1 + _ ≤ 31 * n; omega, by show 1 ≤ n; omega, h2⟩
/-- one more is laid behind the row of all that were made. -/
theorem out_grow {wc w5 w6 : World} {base R j c4 c5 g4 p4 g5 p5 : Nat} {F F' : Nat → Prop} {a4 a5 : Option Addr} {Z : List Mde} {e : Mde} {o1 o2 : Obj} (hz : Z.length = j) (ho : OutIn wc base F (.slice a4 j c4) (.slice a5 j c5) Z)
    (h1 : w5.ownsRow base 70 8 (.slice (some ⟨g4, 0, none⟩) (j + 1) p4) (j + 1) (cells (kRowK (kidsOf Z)) ++ e.k.cells)) (hg1 : (wc.alloc o1).grownBy w5 (Value.slice a4 j c4).ownBlock) (hw1 : (Value.slice a4 j c4).ownBlock = some g4 ∨ g4 = wc.heap.size + 1)
    (h2 : w6.ownsRow base 3 1 (.slice (some ⟨g5, 0, none⟩) (j + 1) p5) (j + 1) ((Z.map fun e => Value.int .i64 (e.n : Int)) ++ [.int .i64 (e.n : Int)])) (hg2 : (w5.alloc o2).grownBy w6 (Value.slice a5 j c5).ownBlock) (hw2 : (Value.slice a5 j c5).ownBlock = some g5 ∨ g5 = w5.heap.size + 1)
    (he : OkM wc F' e) (hF : ∀ b, F b → F' b) (hF' : ∀ b, F' b → F b ∨ (R ≤ b ∧ b < wc.heap.size)) (h4 : ∀ g, (Value.slice a4 j c4).ownBlock = some g → g < R) (h5 : ∀ g, (Value.slice a5 j c5).ownBlock = some g → g < R) (hR : base ≤ R) :
    OutIn w6 base F' (.slice (some ⟨g4, 0, none⟩) (j + 1) p4) (.slice (some ⟨g5, 0, none⟩) (j + 1) p5) (Z ++ [e]) := by
  have s1 : wc.heap.size + 1 ≤ w5.heap.size := by have := hg1.size; simpa using this
  have s2 : w5.heap.size + 1 ≤ w6.heap.size := by have := hg2.size; simpa using this
  have hlt : ∀ b, F' b → b < wc.heap.size := fun b hb => by
    rcases hF' b hb with h | h
    · exact ho.lt b h
    · exact h.2
  have hn4 : ∀ b, F' b → (Value.slice a4 j c4).ownBlock ≠ some b := fun b hb e' => by
    rcases hF' b hb with h | h
    · exact ho.n4 b h e'
    · have := h4 b e'; omega
  have hn5 : ∀ b, F' b → (Value.slice a5 j c5).ownBlock ≠ some b := fun b hb e' => by
    rcases hF' b hb with h | h
    · exact ho.n5 b h e'
    · have := h5 b e'; omega
  have hsame : ∀ b, F' b → w6.heap[b]? = wc.heap[b]? := fun b hb => by
    have := hlt b hb
    rw [hg2.block b (by simp; omega) (fun e' => hn5 b hb e'.symm), Below.heap_alloc _ _ _ (by omega), hg1.block b (by simp; omega) (fun e' => hn4 b hb e'.symm), Below.heap_alloc _ _ _ this]
  have hs5 : w5.ownsRow base 3 1 (.slice a5 j c5) Z.length (Z.map fun e => Value.int .i64 (e.n : Int)) := (ho.size.alloc o1).kept hg1 (own_two ho.size ho.out (by decide))
  have ho6 : w6.ownsRow base 70 8 (.slice (some ⟨g4, 0, none⟩) (j + 1) p4) (j + 1) (cells (kRowK (kidsOf Z)) ++ e.k.cells) := (h1.alloc o2).kept hg2 (own_two h1 hs5 (by decide))
  have hlen : (Z ++ [e]).length = j + 1 := by simp [hz]
  refine ⟨?_, ?_, fun x hx => ?_, fun b hb => by have := hlt b hb; omega, fun b hb e' => ?_, fun b hb e' => ?_, fun b hb => ?_⟩
  · rw [hlen]
    have : kidsOf (Z ++ [e]) = kidsOf Z ++ [e.k] := by simp [kidsOf]
    rw [this, cells_snoc]
    exact ho6
  · rw [hlen, List.map_append]
    exact h2
  · rcases List.mem_append.1 hx with h | h
    · exact (ho.ok x h).on hF (fun b hb => hsame b (hF b hb))
    · rw [List.mem_singleton.1 h]
      exact he.on (fun _ h => h) hsame
  · have e2 : g4 = b := by simpa [Value.ownBlock] using e'
    rcases hw1 with h | h
    · exact hn4 b hb (by rw [h, e2])
    · have := hlt b hb; omega
  · have e2 : g5 = b := by simpa [Value.ownBlock] using e'
    rcases hw2 with h | h
    · exact hn5 b hb (by rw [h, e2])
    · have := hlt b hb; omega
  · rcases hF' b hb with h | h
    · exact ho.t28 b h
    · omega
end Go.Proofs.YtoakfninndkgaaaGreatDoor.Val
