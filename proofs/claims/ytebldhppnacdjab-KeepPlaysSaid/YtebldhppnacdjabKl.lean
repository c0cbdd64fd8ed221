/- Walks: slices.Delete of one entry that is not the last. -/
import Derived.Test.YtebldhppnacdjabKk
import Derived.Deep.DeepCutAuto
import Derived.Deep.CutBlock
import Derived.Deep.RegionLaw
import Derived.Deep.MidRow
set_option linter.unusedVariables false
namespace Go.Proofs.Ytebldhppnacdjab
open Go.RowKit
set_option maxRecDepth 20000 in
set_option maxHeartbeats 2000000 in
theorem del_mid (w : World) (g n cap i base : Nat) (xs : List Value) (hi : i + 1 < n) (hn : n ≤ 100000) (hcap : n ≤ cap) (hcm : cap ≤ maxLen) (hone : ∀ u ∈ xs, u.oneCell' = true) (hown : w.ownsRow base 55 3 (.slice (some ⟨g, 0, none⟩) n cap) n xs) :
    Calls Try.prog 24 #[.slice (some ⟨g, 0, none⟩) n cap, .int .i64 (i : Int), .int .i64 ((i : Int) + 1)] w fun e w' => e = .returned (.slice (some ⟨g, 0, none⟩) (n - 1) cap) ∧ Below base w w' ∧ w'.ownsRow base 55 3 (.slice (some ⟨g, 0, none⟩) (n - 1) cap) (n - 1) (xs.take (i * 3) ++ xs.drop ((i + 1) * 3)) ∧ (∀ k, k ≠ g → w'.heap[k]? = w.heap[k]?) := by
  have i1 : (i : Int) < n := by omega
  have i2 : (i : Int) + 1 ≤ n := by omega
  have i3 : (n : Int) ≤ cap := by omega
  have i4 : (i : Int) ≤ cap := by omega
  have i5 : (0 : Int) ≤ (i : Int) + 1 := by omega
  have i6 : ¬ cap = i + 1 := by omega
  have i7 : (i : Int) + 1 ≤ cap := by omega
  have t1 : ((i : Int) == (i : Int) + 1) = false := by simp; omega
  obtain ⟨i0, hi0, hz0, hz1, hz2⟩ := info_parts Try.info55
  have hxl : xs.length = n * 3 := hown.1
  obtain ⟨news, hnews⟩ : ∃ l, l = xs.drop ((i + 1) * 3) := ⟨_, rfl⟩
  have hnl : news.length = (n - (i + 1)) * 3 := by rw [hnews, List.length_drop, hxl]; omega
  have hc : ∀ (w' : World), w'.heap[g]? = w.heap[g]? → ∀ j u, news[j]? = some u → w'.cell? ((⟨g, (i + 1) * 3, none⟩ : Addr).add j) = some u := fun w' hw j u hu => by
    rw [Addr.add_mid]
    have hlt : j < news.length := (List.getElem?_eq_some_iff.1 hu).1
    have : w'.ownsRow base 55 3 (.slice (some ⟨g, 0, none⟩) n cap) n xs := ownsRow_mono hown (fun g' hg => by cases hg; exact hw)
    rw [this.cellAt ((i + 1) * 3 + j) (by omega), ← hu, hnews, List.getElem?_drop]
  have h1c : ∀ u ∈ news, u.oneCell' = true := fun u hu => hone u (by rw [hnews] at hu; exact List.mem_of_mem_drop hu)
  have hsp : ∀ (w' : World), w'.heap[g]? = w.heap[g]? → ∀ j, j < news.length → (w'.cell? ⟨g, 0 + i * 3 + j, none⟩).isSome = true ∧ w'.frozen? ⟨g, 0 + i * 3 + j, none⟩ = false := fun w' hw j hj => by
    have : w'.ownsRow base 55 3 (.slice (some ⟨g, 0, none⟩) n cap) n xs := ownsRow_mono hown (fun g' hg => by cases hg; exact hw)
    refine ⟨?_, this.frozenAt _⟩
    rw [this.cellAt (0 + i * 3 + j) (by omega), List.getElem?_eq_getElem (by omega)]
    rfl
  have HNews := Lib.hid hnews
  have HC := Lib.hid hc
  have HSP := Lib.hid hsp
  have H1C := Lib.hid h1c
  have HNL := Lib.hid hnl
  have HO := Lib.hid hown
  clear hc hsp h1c hnl hown hnews
  go_enter Try.func24, Try.ntmps24
  go_upto_region 5 with (fail)
  go_region_law (refine step_append_room rfl (.tmp 22) (.tmp 25) 53 rfl 55 i0 3 Try.underlying53 hi0 hz1 g 0 i cap (by simp [Act.eval, Act.put]) ⟨g, (i + 1) * 3, none⟩ (n - (i + 1)) (cap - (i + 1)) news (by simp [Act.eval, Act.put]) HNL.out (HC.out _ rfl) H1C.out (by omega) (HSP.out _ rfl) ?_)
  have hgb := ownsRow_ge HO.out g rfl
  have hn1 : i + (n - (i + 1)) = n - 1 := by omega
  rw [hn1]
  have ho5 := ownsRow_setCells news w.drew xs (i * 3) (ownsRow_mono (w' := w.drew) HO.out (fun _ _ => rfl))
  generalize hw5 : (w.drew.setCells g (i * 3) news) = w5 at *
  have hB5 : Below base w w5 := by rw [← hw5]; exact setCells_below hgb news _ _ (Below.refl base w).drew
  have hF5 : ∀ k, k ≠ g → w5.heap[k]? = w.heap[k]? := fun k hk => by rw [← hw5]; exact setCells_off g news _ _ k hk
  have th : w5.there g ((n - 1) * 3) 3 := fun j hj => by
    have h1 : w5.ownsRow base 55 3 (.slice (some ⟨g, 0, none⟩) n cap) n (sets xs (i * 3) news) := ownsRow_mono ho5 (fun _ _ => rfl)
    refine ⟨?_, h1.frozenAt _⟩
    rw [h1.cellAt ((n - 1) * 3 + j) (by omega), List.getElem?_eq_getElem (by rw [sets_length]; omega)]
    rfl
  have hcl := fun ty => run_clear1 w5 g ((n - 1) * 3) (cap - (n - 1)) ty th
  have ho6 := ownsRow_less (m := n - 1) (ownsRow_setCells [.slice none 0 0, .int .i64 0, .int .i64 0] w5 _ ((n - 1) * 3) (ho5)) (by omega)
  have j1 : ((n - 1 : Nat) : Int) ≤ n := by omega
  have j2 : ((n - 1 : Nat) : Int) ≤ cap := by omega
  have j3 : n - (n - 1) = 1 := by omega
  have j4 : ¬ cap = n - 1 := by omega
  have HEnd : Hid (sets xs (i * 3) news = sets xs (i * 3) news) := Lib.hid rfl
  have hfin : (sets (sets xs (i * 3) news) ((n - 1) * 3) [.slice none 0 0, .int .i64 0, .int .i64 0]).take ((n - 1) * 3) = xs.take (i * 3) ++ xs.drop ((i + 1) * 3) := by
    have hl := HO.out.1
    have hnl := HNL.out
    rw [sets_eq _ _ _ (by rw [sets_length]; simp; omega), sets_eq _ _ _ (by omega), List.append_assoc, List.take_append_of_le_length (by simp; omega), List.take_take, Nat.min_self, List.take_append_of_le_length (by simp; omega), ← HNews.out, List.take_of_length_le (by simp; omega)]
  rw [hfin] at ho6
  have hF6 : ∀ k, k ≠ g → (w5.setCells g ((n - 1) * 3) [.slice none 0 0, .int .i64 0, .int .i64 0]).heap[k]? = w.heap[k]? := fun k hk => (setCells_off g _ _ _ k hk).trans (hF5 k hk)
  have hB6 := setCells_below hgb [.slice none 0 0, .int .i64 0, .int .i64 0] w5 ((n - 1) * 3) hB5
  have HE := Lib.hid (And.intro hB6 (And.intro ho6 hF6))
  clear th hfin ho6 hF6 hB6 hF5 hB5 ho5 hw5
  go_wp2
  go_ret
  exact ⟨rfl, HE.out.1, HE.out.2.1, HE.out.2.2⟩
end Go.Proofs.Ytebldhppnacdjab
