/- Plain facts on rows of binary digits, the lowest first. -/
namespace Fl
/-- the digits of a number. -/
def dg (n : Nat) : List Int := if h : n = 0 then [] else ((n % 2 : Nat) : Int) :: dg (n / 2)
termination_by n
decreasing_by omega
theorem dg_zero : dg 0 = [] := by rw [dg]; simp
theorem dg_pos {n : Nat} (h : n ≠ 0) : dg n = ((n % 2 : Nat) : Int) :: dg (n / 2) := by rw [dg]; simp [h]
/-- the number of digits. -/
def vl : List Int → Nat
  | [] => 0
  | b :: l => b.toNat + 2 * vl l
def Bits (l : List Int) : Prop := ∀ x ∈ l, x = 0 ∨ x = 1
theorem vl_dg (n : Nat) : vl (dg n) = n := by
  induction n using Nat.strongRecOn with
  | _ n ih =>
    by_cases h : n = 0
    · subst h; rw [dg_zero]; rfl
    · rw [dg_pos h, vl, ih (n / 2) (by omega)]; omega
theorem bits_dg (n : Nat) : Bits (dg n) := by
  induction n using Nat.strongRecOn with
  | _ n ih =>
    by_cases h : n = 0
    · subst h; rw [dg_zero]; intro x hx; cases hx
    · rw [dg_pos h]
      intro x hx
      rcases List.mem_cons.1 hx with rfl | hx
      · omega
      · exact ih (n / 2) (by omega) x hx
theorem dg_one : dg 1 = [1] := by rw [dg_pos (by decide)]; simp [dg_zero]
theorem vl_append (a b : List Int) : vl (a ++ b) = vl a + 2 ^ a.length * vl b := by
  induction a with
  | nil => simp [vl]
  | cons x a ih => simp only [List.cons_append, vl, ih, List.length_cons, Nat.pow_succ]; rw [Nat.mul_add, Nat.mul_comm (2 ^ a.length) 2, Nat.mul_assoc]; omega
theorem vl_zeros (k : Nat) : vl (List.replicate k 0) = 0 := by
  induction k with
  | zero => rfl
  | succ k ih => rw [List.replicate_succ, vl, ih]; rfl
theorem bits_append {a b : List Int} (ha : Bits a) (hb : Bits b) : Bits (a ++ b) := fun x hx => by
  rcases List.mem_append.1 hx with h | h
  · exact ha x h
  · exact hb x h
theorem bits_one {x : Int} (h : x = 0 ∨ x = 1) : Bits [x] := fun y hy => by
  have : y = x := by simpa using hy
  subst this; exact h
theorem bits_zeros (k : Nat) : Bits (List.replicate k 0) := fun _ hx => Or.inl (List.mem_replicate.1 hx).2
theorem bits_take {l : List Int} (h : Bits l) (k : Nat) : Bits (l.take k) := fun x hx => h x (List.mem_of_mem_take hx)
theorem bits_drop {l : List Int} (h : Bits l) (k : Nat) : Bits (l.drop k) := fun x hx => h x (List.mem_of_mem_drop hx)
theorem bits_getD {l : List Int} (h : Bits l) (k : Nat) : l.getD k 0 = 0 ∨ l.getD k 0 = 1 := by
  rw [List.getD_eq_getElem?_getD]
  by_cases hk : k < l.length
  · rw [List.getElem?_eq_getElem hk]; exact h _ (List.getElem_mem hk)
  · rw [List.getElem?_eq_none (by omega)]; exact Or.inl rfl
/-- digits whose last is 1 are those of their number. -/
theorem dg_vl : ∀ (l : List Int), Bits l → (l = [] ∨ l.getD (l.length - 1) 0 = 1) → dg (vl l) = l ∧ (l ≠ [] → vl l ≠ 0) := by
  intro l
  induction l with
  | nil => intro _ _; exact ⟨dg_zero, fun h => absurd rfl h⟩
  | cons b l ih =>
    intro hb he
    have hb0 : b = 0 ∨ b = 1 := hb b (by simp)
    have hl : Bits l := fun x hx => hb x (by simp [hx])
    rcases he with he | he
    · cases he
    · cases l with
      | nil =>
        have h1 : b = 1 := by simpa using he
        subst h1
        exact ⟨dg_one, fun _ => by decide⟩
      | cons c l =>
        have h2 : (c :: l).getD ((c :: l).length - 1) 0 = 1 := by simpa using he
        obtain ⟨e1, e2⟩ := ih hl (Or.inr h2)
        have e3 := e2 (by simp)
        generalize hv : vl (c :: l) = v at *
        have e4 : vl (b :: c :: l) = b.toNat + 2 * v := by rw [vl, hv]
        rw [e4]
        refine ⟨?_, fun _ => by omega⟩
        rw [dg_pos (by omega), show (b.toNat + 2 * v) / 2 = v by rcases hb0 with rfl | rfl <;> simp <;> omega, e1]
        congr 1
        rcases hb0 with rfl | rfl <;> simp <;> omega
theorem trim_eq {l : List Int} (h : Bits l) (k : Nat) (hk : k ≤ l.length) (hz : ∀ j, k ≤ j → j < l.length → l.getD j 0 = 0) (he : k = 0 ∨ l.getD (k - 1) 0 = 1) : l.take k = dg (vl l) := by
  have hlen : (l.take k).length = k := by simp; omega
  have e : vl l = vl (l.take k) := by
    have e1 : l.drop k = List.replicate (l.length - k) 0 := by
      apply List.ext_getElem
      · simp
      · intro i h1 h2
        have := hz (k + i) (by omega) (by simp at h1; omega)
        simp at h1 ⊢
        rw [List.getD_eq_getElem?_getD, List.getElem?_eq_getElem (by omega)] at this
        simpa using this
    have e2 := vl_append (l.take k) (l.drop k)
    rw [List.take_append_drop, e1, vl_zeros] at e2
    omega
  rw [e]
  refine ((dg_vl (l.take k) (bits_take h k) ?_).1).symm
  rcases he with he | he
  · left; subst he; rfl
  · by_cases h0 : k = 0
    · left; subst h0; rfl
    · right
      rw [hlen, List.getD_eq_getElem?_getD, List.getElem?_take, if_pos (by omega), ← List.getD_eq_getElem?_getD, he]
theorem dg_getD (n i : Nat) : (dg n).getD i 0 = ((n / 2 ^ i % 2 : Nat) : Int) := by
  induction i generalizing n with
  | zero =>
    by_cases h : n = 0
    · subst h; rw [dg_zero]; rfl
    · rw [dg_pos h]; simp
  | succ i ih =>
    by_cases h : n = 0
    · subst h; rw [dg_zero]; simp
    · rw [dg_pos h]
      show (dg (n / 2)).getD i 0 = _
      rw [ih, Nat.div_div_eq_div_mul, Nat.pow_succ, Nat.mul_comm 2]
theorem dg_length (n : Nat) : (dg n).length = if n = 0 then 0 else n.log2 + 1 := by
  induction n using Nat.strongRecOn with
  | _ n ih =>
    by_cases h : n = 0
    · subst h; rw [dg_zero]; rfl
    · rw [dg_pos h, List.length_cons, ih (n / 2) (by omega), if_neg h]
      rw [Nat.log2_def n]
      by_cases h2 : 2 ≤ n
      · rw [if_pos h2, if_neg (by omega)]
      · rw [if_neg h2, if_pos (by omega)]
theorem dg_lt (n : Nat) : n < 2 ^ (dg n).length := by
  rw [dg_length]
  split
  · subst_vars; decide
  · exact Nat.lt_log2_self
theorem dg_ge {n : Nat} (h : n ≠ 0) : 2 ^ ((dg n).length - 1) ≤ n := by
  rw [dg_length, if_neg h]; exact Nat.log2_self_le h
theorem dg_len_le {n k : Nat} (h : n < 2 ^ k) : (dg n).length ≤ k := by
  rw [dg_length]
  split
  · omega
  · rename_i h0; exact (Nat.log2_lt h0).2 h
theorem vl_lt {l : List Int} (h : Bits l) : vl l < 2 ^ l.length := by
  induction l with
  | nil => decide
  | cons b l ih =>
    have h1 := ih fun x hx => h x (by simp [hx])
    have h0 := h b (by simp)
    rw [vl, List.length_cons, Nat.pow_succ]
    rcases h0 with rfl | rfl <;> simp <;> omega
theorem vl_snoc (l : List Int) (x : Int) : vl (l ++ [x]) = vl l + 2 ^ l.length * x.toNat := by
  rw [vl_append]; simp [vl]
theorem mod_succ (n i : Nat) : n % 2 ^ (i + 1) = n % 2 ^ i + 2 ^ i * (n / 2 ^ i % 2) := by
  rw [Nat.pow_succ, Nat.mod_mul]
theorem div_succ (n i : Nat) : n / 2 ^ i = 2 * (n / 2 ^ (i + 1)) + n / 2 ^ i % 2 := by
  rw [Nat.pow_succ, ← Nat.div_div_eq_div_mul]; omega
theorem vl_shift (n k : Nat) : vl (List.replicate k 0 ++ dg n) = n * 2 ^ k := by
  rw [vl_append, vl_zeros, vl_dg, List.length_replicate]; rw [Nat.mul_comm]; omega
end Fl
