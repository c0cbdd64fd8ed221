/- Walks and plain facts. -/
import Derived.Test.YtifilhkkgkihpaaGreatDoorAs30
import Derived.Test.YtifilhkkgkihpaaGreatDoorBm04
import Derived.Test.YtifilhkkgkihpaaGreatDoorBm01
import Derived.Test.YtifilhkkgkihpaaGreatDoorBm02
import Derived.Deep.RegionHeld3
set_option linter.unusedSimpArgs false
set_option linter.unusedVariables false
namespace Go.Proofs.YtifilhkkgkihpaaGreatDoor
open Go.RowKit
def SameF {α : Type} (F F' : Option (List α)) : Prop := (F = none ∧ F' = none) ∨ ∃ m m', F = some m ∧ F' = some m' ∧ ∀ q, q ∈ m ↔ q ∈ m'
theorem StpPost.conv {α : Type} [DecidableEq α] {K : AK α} {w0 wl : World} {R M : Nat} {C0 C1 : Value} {SL : List α × List α} {w : World} {F F' : Option (List α)} {e : Ending} {w' : World} (h : StpPost K w0 wl R M C0 C1 SL w F e w') (s : SameF F F') : StpPost K w0 wl R M C0 C1 SL w F' e w' := by
  obtain ⟨h1, qs, h2, h3, h4, h5⟩ := h
  rcases s with ⟨rfl, rfl⟩ | ⟨m, m', rfl, rfl, hm⟩
  · exact ⟨h1, qs, h2, h3, h4, h5⟩
  · refine ⟨h1, qs, h2, h3, h4, fun m2 e2 => ?_⟩
    cases e2
    obtain ⟨a, b⟩ := h5 m rfl
    exact ⟨fun q hq => (hm q).1 (a q hq), fun q hq => b q ((hm q).2 hq)⟩
theorem StpPost.from' {α : Type} [DecidableEq α] {K : AK α} {w0 wl : World} {R M : Nat} {C0 C1 : Value} {SL : List α × List α} {w wa : World} {F : Option (List α)} {e : Ending} {w' : World} (h : StpPost K w0 wl R M C0 C1 SL wa F e w') (k : Kp K.TP R w wa) : StpPost K w0 wl R M C0 C1 SL w F e w' := by
  obtain ⟨h1, qs, h2, h3, h4, h5⟩ := h
  exact ⟨h1, qs, h2, k.trans h3, h4, h5⟩
/-- names that rise: each stands for its own kid. -/
theorem find_own {NS : List ByteArray} {KS : List Int} (hr : risesB NS = true) {p : Nat} {s : ByteArray} {x : Int} (h1 : NS[p]? = some s) (h2 : KS[p]? = some x) : findK NS KS s = x := by
  refine findK_at NS KS s p x h1 h2 (fun q hq e => ?_)
  have h3 := rises_at NS hr _ _ _ _ hq e h1
  rw [bl_irrefl] at h3
  cases h3
theorem find_mem {NS : List ByteArray} {KS : List Int} {s : ByteArray} (hl : NS.length = KS.length) (h : 0 ≤ findK NS KS s) : ∃ (p : Nat) (x : Int), NS[p]? = some s ∧ KS[p]? = some x ∧ findK NS KS s = x := by
  rcases findK_cases NS KS s hl with ⟨h1, _⟩ | ⟨p, k, h1, h2, h3, _⟩
  · omega
  · exact ⟨p, k, h1, h2, h3⟩
theorem find_ge {NS : List ByteArray} {KS : List Int} {s : ByteArray} (hl : NS.length = KS.length) (hk : ∀ k ∈ KS, (0 : Int) ≤ k) (hs : s ∈ NS) : 0 ≤ findK NS KS s := by
  rcases findK_cases NS KS s hl with ⟨_, h2⟩ | ⟨p, k, _, h2, h3, _⟩
  · obtain ⟨p, hp⟩ := List.getElem?_of_mem hs
    exact absurd hp (h2 p)
  · rw [h3]; exact hk k (List.mem_of_getElem? h2)
theorem mem_own {NS : List ByteArray} {KS : List Int} (hr : risesB NS = true) (hl : NS.length = KS.length) (x : Int) : x ∈ KS ↔ ∃ s ∈ NS, findK NS KS s = x := by
  constructor
  · intro h
    obtain ⟨p, hp⟩ := List.getElem?_of_mem h
    obtain ⟨s, hs⟩ : ∃ s, NS[p]? = some s := ⟨_, List.getElem?_eq_getElem (by rw [hl]; exact (List.getElem?_eq_some_iff.1 hp).1)⟩
    exact ⟨s, List.mem_of_getElem? hs, find_own hr hs hp⟩
  · rintro ⟨s, hs, rfl⟩
    obtain ⟨p, hp⟩ := List.getElem?_of_mem hs
    obtain ⟨x, hx⟩ : ∃ x, KS[p]? = some x := ⟨_, List.getElem?_eq_getElem (by rw [← hl]; exact (List.getElem?_eq_some_iff.1 hp).1)⟩
    rw [find_own hr hp hx]
    exact List.mem_of_getElem? hx
theorem var_ask {L : List Hd} {dyn : Nat} {h k : Hd} {n : Int} (okh : headB h.kd h.op n h.NS h.KS = true) (okk : headB k.kd k.op n k.NS k.KS = true) (h9 : h.kd = 9 ∨ h.kd = 4) (k9 : k.kd = 9 ∨ k.kd = 4) (hn : h.kd = 9 ∨ k.kd = 9) : SameF (varF L dyn h k) (askA L dyn h k) := by
  obtain ⟨a1, a2, a3, a4, a5, a6, a7⟩ := head_kind okh
  obtain ⟨b1, b2, b3, b4, b5, b6, b7⟩ := head_kind okk
  unfold varF askA
  rw [if_neg (show ¬ (h.kd = 6 ∨ k.kd = 5) by omega), if_neg (show ¬ h.kd = 5 by omega)]
  by_cases e4 : h.kd = 4
  · have ek : k.kd = 9 := by omega
    have hop : h.op = false := by
      cases ho : h.op with
      | false => rfl
      | true => have := a7 ho; omega
    have hkl := b4 (.inr ek)
    rw [if_pos e4, if_neg (show ¬ k.kd = 7 by omega), if_pos (show k.kd = 8 ∨ k.kd = 9 from .inr ek), hop]
    simp only [Bool.false_and, Bool.false_eq_true, if_false]
    rw [if_pos]
    · refine .inr ⟨_, _, rfl, rfl, fun q => ?_⟩
      unfold varNames
      rw [if_pos e4]
      simp only [List.mem_filterMap, List.mem_map]
      constructor
      · rintro ⟨s, hs, he⟩
        unfold varG kidD at he
        rw [if_neg (show ¬ k.kd = 4 by omega), if_pos e4] at he
        split at he
        · cases he
          exact ⟨findK k.NS k.KS s, (mem_own b2 hkl _).2 ⟨s, hs, rfl⟩, by simp⟩
        · cases he
      · rintro ⟨x, hx, rfl⟩
        obtain ⟨s, hs, he⟩ := (mem_own b2 hkl x).1 hx
        refine ⟨s, hs, ?_⟩
        unfold varG kidD
        rw [if_neg (show ¬ k.kd = 4 by omega), if_pos e4, he, if_pos (b3 x hx).1]
        simp
    · refine List.all_eq_true.2 (fun e he => ?_)
      unfold okE kidD
      rw [if_pos e4]
      simp
  · have eh : h.kd = 9 := by omega
    have hhl := a4 (.inr eh)
    rw [if_neg e4]
    by_cases f4 : k.kd = 4
    · rw [if_pos f4, if_neg (show ¬ h.kd = 7 by omega), if_neg (show ¬ h.kd = 8 by omega), if_pos eh]
      cases ho : h.op with
      | true => simp [f4, SameF]
      | false =>
        have hkn := b6 (by omega)
        have hk0 : k.NS = [] := List.eq_nil_of_length_eq_zero hkn.1
        simp only [Bool.false_and, Bool.false_eq_true, if_false, hk0, List.zip_nil_left, List.all_nil, if_true]
        refine .inr ⟨_, _, rfl, rfl, fun q => ?_⟩
        unfold varNames
        rw [if_neg e4]
        simp only [List.mem_filterMap, List.mem_map]
        constructor
        · rintro ⟨s, hs, he⟩
          unfold varG kidD at he
          rw [if_pos f4, if_neg e4, if_pos (by omega)] at he
          cases he
          exact ⟨findK h.NS h.KS s, (mem_own a2 hhl _).2 ⟨s, hs, rfl⟩, by simp⟩
        · rintro ⟨x, hx, rfl⟩
          obtain ⟨s, hs, he⟩ := (mem_own a2 hhl x).1 hx
          refine ⟨s, hs, ?_⟩
          unfold varG kidD
          rw [if_pos f4, if_neg e4, he, if_pos (by omega)]
          simp
    · have ek : k.kd = 9 := by omega
      have hkl := b4 (.inr ek)
      rw [if_neg f4, if_neg (show ¬ h.kd ≠ k.kd by omega), if_neg (show ¬ h.kd = 7 by omega), if_neg (show ¬ h.kd = 8 by omega), if_pos eh]
      have hd4 : decide (k.kd = 4) = false := decide_eq_false f4
      simp only [hd4, Bool.and_false, Bool.false_eq_true, if_false]
      have hkd : ∀ s, kidD dyn h s = findK h.NS h.KS s := fun s => by unfold kidD; rw [if_neg e4]
      have hke : ∀ s, kidD dyn k s = findK k.NS k.KS s := fun s => by unfold kidD; rw [if_neg f4]
      have hany : anyK L h k = (k.NS.zip k.KS).all (okE L dyn h) := by
        unfold anyK
        congr 1
        funext e
        unfold okE
        rw [hkd]
        first | done | rfl
      unfold varA
      rw [hany]
      by_cases hall : (k.NS.zip k.KS).all (okE L dyn h) = true
      · rw [if_pos hall, if_pos hall]
        refine .inr ⟨_, _, rfl, rfl, fun q => ?_⟩
        unfold varNames
        rw [if_neg e4]
        simp only [List.mem_filterMap]
        constructor
        · rintro ⟨s, hs, he⟩
          unfold varG at he
          rw [hkd, hke] at he
          split at he
          · rename_i h0
            cases he
            obtain ⟨p, x, h1, h2, h3⟩ := find_mem hkl h0
            refine ⟨(s, x), List.mem_of_getElem? (zip_at h1 h2), ?_⟩
            simp only
            rw [if_pos (find_ge hhl (fun k hk => (a3 k hk).1) hs), h3]
          · cases he
        · rintro ⟨e, he, hq⟩
          obtain ⟨s, x⟩ := e
          simp only at hq
          split at hq
          · rename_i h0
            cases hq
            obtain ⟨p, hp⟩ := List.getElem?_of_mem he
            rw [List.getElem?_zip_eq_some] at hp
            obtain ⟨p2, x2, g1, g2, g3⟩ := find_mem hhl h0
            refine ⟨s, List.mem_of_getElem? g1, ?_⟩
            unfold varG
            have hx : findK k.NS k.KS s = x := find_own b2 hp.1 hp.2
            rw [hkd, hke, hx, if_pos (b3 x (List.mem_of_getElem? hp.2)).1]
          · cases hq
      · rw [if_neg hall, if_neg hall]
        exact .inl ⟨rfl, rfl⟩
end Go.Proofs.YtifilhkkgkihpaaGreatDoor
namespace Go.Proofs.YtifilhkkgkihpaaGreatDoor
open Go.RowKit
theorem HeadsIn.ok {w : World} {la : Option Addr} {ln : Nat} {HS : List Hd} (hH : HeadsIn w la ln HS) {j : Nat} {h : Hd} (hj : HS[j]? = some h) : HdOk w h := by
  obtain ⟨g, o, e, hg, hc⟩ := hH.2.resolve_left (by rw [hH.1]; have := (List.getElem?_eq_some_iff.1 hj).1; omega)
  exact (hc j _ hj).ok
theorem AkT.heads_at {w0 wl w : World} {R M N : Nat} {la : Option Addr} {OS : List Hd} (HL : ∀ w', Lk wl R M w' → HeadsIn w' la N OS) {i : Nat} {h : Hd} (hi : OS[i]? = some h) : ∀ w', Lk wl R M w' → HdOk w' h := fun w' k => (HL w' k).ok hi
theorem two_of {l : List Int} (h : l.length = 2) : ∃ a b, l = [a, b] := by
  match l, h with
  | [a, b], _ => exact ⟨a, b, rfl⟩
end Go.Proofs.YtifilhkkgkihpaaGreatDoor
