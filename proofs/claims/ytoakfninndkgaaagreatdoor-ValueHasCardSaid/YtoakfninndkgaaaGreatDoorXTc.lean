/- Walks: Record, at the names and numbers of ValueRecords. -/
import Derived.Test.YtoakfninndkgaaaGreatDoorXTa
import Derived.Test.YtoakfninndkgaaaGreatDoorXTb
import Derived.Maps.AppendAt
set_option linter.unusedVariables false
namespace Go.Proofs.YtoakfninndkgaaaGreatDoor.Val
open Go.RowKit
def kRow (IS : List Int) : List Ent := IS.map fun i => ((⟨#[]⟩ : ByteArray), kInt i)
def zipP (NS : List ByteArray) (IS : List Int) : List Ent := (NS.zip IS).map fun p => (p.1, kInt p.2)
def NamesAt (w : World) (an : Option Addr) (n : Nat) (NS : List ByteArray) : Prop := n = NS.length ∧ (n = 0 ∨ ∃ gn on, an = some ⟨gn, on, none⟩ ∧ gn < w.heap.size ∧ ∀ i s, NS[i]? = some s → w.cell? ⟨gn, on + i, none⟩ = some (.string s))
def RecPost (w : World) (E : List Ent) (e : Ending) (w' : World) : Prop := ∃ (aN : Option Addr) (cN : Nat) (aK : Option Addr) (cK : Nat) (H : Int), e = .returned (.agg #[.int .i64 4, .int .i64 0, .int .u64 0, .string ⟨#[]⟩, .slice aN E.length cN, .slice aK E.length cK, .pointer none, .int .i64 H]) ∧ RecOf w' w.heap.size aN cN aK cK E ∧ Below w.heap.size w w'
theorem zipP_at (NS : List ByteArray) (IS : List Int) (j : Nat) (s : ByteArray) (i : Int) (hs : NS[j]? = some s) (hi : IS[j]? = some i) : (zipP NS IS)[j]? = some (s, kInt i) := by
  unfold zipP
  rw [List.getElem?_map, show (NS.zip IS)[j]? = some (s, i) from List.getElem?_zip_eq_some.2 ⟨hs, hi⟩]
  rfl
theorem zipP_inv (NS : List ByteArray) (IS : List Int) (j : Nat) (e : Ent) (h : (zipP NS IS)[j]? = some e) : ∃ s i, NS[j]? = some s ∧ IS[j]? = some i ∧ e = (s, kInt i) := by
  unfold zipP at h
  rw [List.getElem?_map] at h
  cases hz : (NS.zip IS)[j]? with
  | none => rw [hz] at h; cases h
  | some p =>
    obtain ⟨s, i⟩ := p
    rw [hz] at h
    obtain ⟨h1, h2⟩ := List.getElem?_zip_eq_some.1 hz
    exact ⟨s, i, h1, h2, (Option.some.inj h).symm⟩
theorem zipP_len (NS : List ByteArray) (IS : List Int) : (zipP NS IS).length = min NS.length IS.length := by simp [zipP]
theorem rec_any (w : World) (base : Nat) (an : Option Addr) (n cn : Nat) (NS : List ByteArray) (vk : Value) (IS : List Int) (hN : NamesAt w an n NS) (hcn : n ≤ cn) (h20 : n ≤ 20) (hk20 : IS.length ≤ 20)
    (hk : w.ownsRow base 70 8 vk IS.length (cells (kRow IS))) (hnil : IS = [] → vk = .slice none 0 0) :
    Calls Tryz.prog 48 #[.slice an n cn, vk] w (RecPost w (upE (zipP NS IS) (zipP NS IS).length)) := by
  obtain ⟨hn, hN⟩ := hN
  have hlen := zipP_len NS IS
  have hW : ∀ e ∈ zipP NS IS, Weighs w e.2.val ((fun _ => 1 : Kid → Nat) e.2) := fun e he => by
    obtain ⟨j, hj⟩ := List.getElem?_of_mem he
    obtain ⟨s, i, -, -, rfl⟩ := zipP_inv NS IS j e hj
    exact kid_one w i
  have hB : ∀ e ∈ zipP NS IS, ((fun _ => 1 : Kid → Nat) e.2) ≤ 100000 := fun e _ => by simp
  rcases hk.2 with ⟨rfl, h0⟩ | ⟨g, cap, cur, rfl, e2, e3, e4, e5, e6, e7⟩
  · refine (record_C w an 0 0 n cn 0 0 0 0 (zipP NS IS) (fun _ => 1) (by omega) (by omega) ⟨fun j e h => ?_, fun j e i u h => ?_⟩ (by omega) (by omega) hcn (by omega) (by omega) rfl True.intro (by omega) (by omega) hW hB).mono ?_
    · obtain ⟨s, i, -, h2, -⟩ := zipP_inv NS IS j e h
      have := (List.getElem?_eq_some_iff.1 h2).1
      omega
    · obtain ⟨s, i, -, h2, -⟩ := zipP_inv NS IS j e h
      have := (List.getElem?_eq_some_iff.1 h2).1
      omega
    · rintro e w' ⟨aN, cN, aK, cK, rfl, r1, r2, r3⟩
      rw [show (zipP NS IS).length = 0 by omega]
      exact ⟨aN, cN, aK, cK, _, rfl, ⟨r1, r2, upE_rises _ _⟩, r3⟩
  · unfold maxLen at e5
    have hkc : ∀ j s i, NS[j]? = some s → IS[j]? = some i → ∀ p u, (kInt i).cells[p]? = some u → w.cell? ⟨g, j * 8 + p, none⟩ = some u := fun j s i _ hi p u hu => by
      rw [cell_of_row w g _ _ 70 _ e3]
      exact row_at e7 (cellE (kRow IS) j (⟨#[]⟩, kInt i) p u (by unfold kRow; rw [List.getElem?_map, hi]; rfl) hu)
    have hgs := (Array.getElem?_eq_some_iff.1 e3).1
    rcases hN with rfl | ⟨gn, on, rfl, hgn, hc⟩
    · have hlk : 0 < IS.length := by
        rcases Nat.eq_zero_or_pos IS.length with h | h
        · have := hnil (List.eq_nil_of_length_eq_zero h); cases this
        · exact h
      refine (record_D w an 0 0 0 cn g IS.length cap 0 (zipP NS IS) (fun _ => 1) (by omega) (by omega) ⟨fun j e h => ?_, fun j e i u h => ?_⟩ (by omega) (by omega) hcn e4 e5 rfl hlk (by omega) (by omega) hW hB).mono ?_
      · obtain ⟨s, i, h1, h2, -⟩ := zipP_inv NS IS j e h
        have := (List.getElem?_eq_some_iff.1 h1).1
        omega
      · obtain ⟨s, i, h1, h2, -⟩ := zipP_inv NS IS j e h
        have := (List.getElem?_eq_some_iff.1 h1).1
        omega
      · rintro e w' ⟨aN, cN, aK, cK, rfl, r1, r2, r3⟩
        rw [show (zipP NS IS).length = 0 by omega]
        exact ⟨aN, cN, aK, cK, _, rfl, ⟨r1, r2, upE_rises _ _⟩, r3⟩
    · have hP : PairsIn w gn on g (zipP NS IS) := ⟨fun j e h => by
        obtain ⟨s, i, h1, h2, rfl⟩ := zipP_inv NS IS j e h
        exact hc j s h1, fun j e p u h hu => by
        obtain ⟨s, i, h1, h2, rfl⟩ := zipP_inv NS IS j e h
        exact hkc j s i h1 h2 p u hu⟩
      rcases Nat.lt_or_ge n IS.length with hlt | hge
      · refine (record_B w gn on n cn g IS.length cap n (zipP NS IS) (fun _ => 1) (by omega) (by omega) hP (by omega) (by omega) hcn e4 e5 hlt rfl (fun _ => hgn) (fun _ => hgs) hW hB).mono ?_
        rintro e w' ⟨aN, cN, aK, cK, rfl, r1, r2, r3⟩
        rw [show (zipP NS IS).length = n by omega]
        exact ⟨aN, cN, aK, cK, _, rfl, ⟨r1, r2, upE_rises _ _⟩, r3⟩
      · refine (record_A w gn on n cn g IS.length cap IS.length (zipP NS IS) (fun _ => 1) (by omega) (by omega) hP (by omega) (by omega) hcn e4 e5 hge rfl (fun _ => hgn) (fun _ => hgs) hW hB).mono ?_
        rintro e w' ⟨aN, cN, aK, cK, rfl, r1, r2, r3⟩
        rw [show (zipP NS IS).length = IS.length by omega]
        exact ⟨aN, cN, aK, cK, _, rfl, ⟨r1, r2, upE_rises _ _⟩, r3⟩
end Go.Proofs.YtoakfninndkgaaaGreatDoor.Val
