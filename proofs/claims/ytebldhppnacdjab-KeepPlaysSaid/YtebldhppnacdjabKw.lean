/- A keep that shows a list: which bucket a new key goes into; all that Put asks behind it. -/
import Derived.Test.YtebldhppnacdjabKv
set_option linter.unusedVariables false
namespace Go.Proofs.Ytebldhppnacdjab
open Go.RowKit
/-- what a keep holds behind Put. -/
def aPut (mo : Int) (P : List (List Int × Int)) (l : List Int) (x : Int) : List (List Int × Int) :=
  match aFind P l with
  | some _ => aDel P l ++ [(l, x)]
  | none => (if mo ≤ P.length then P.tail else P) ++ [(l, x)]
/-- the bucket of a key that is not there. -/
def Choice (H : List Int → Int) (es : Array MapEntry) (c : Nat) (BL : List Bk) (l : List Int) (v : Value) (nE : Nat) (xs : List Value) (es' : Value → Array MapEntry) (c' : Nat) : Prop :=
  (∃ b ∈ BL, b.h = H l ∧ v = b.v ∧ nE = b.E.length ∧ xs = b.E.flatMap Ent.cells ∧ ∃ (j : Nat) (me : MapEntry), es.toList[j]? = some me ∧ me.key = .int .u64 b.h ∧ me.val = b.v ∧ (es' = fun v' => es.modify j fun e => { e with key := .int .u64 b.h, val := v' }) ∧ c' = c) ∨
  ((∀ b ∈ BL, b.h ≠ H l) ∧ v = .slice none 0 0 ∧ nE = 0 ∧ xs = [] ∧ (es' = fun v' => es.push ⟨.int .u64 (H l), v', c⟩) ∧ c' = c + 1)
theorem choose_bucket {H : List Int → Int} {es : Array MapEntry} {c : Nat} {BL : List Bk} (hmap : es.toList.map (fun e => (e.key, e.val)) = BL.map (fun b => (.int .u64 b.h, b.v))) (l : List Int) : ∃ v nE xs es' c', Choice H es c BL l v nE xs es' c' := by
  by_cases h : ∃ b ∈ BL, b.h = H l
  · obtain ⟨b, hb, hh⟩ := h
    obtain ⟨me, hme, h1, h2⟩ := me_of hmap hb
    obtain ⟨j, hj⟩ := List.getElem?_of_mem hme
    exact ⟨_, _, _, _, _, Or.inl ⟨b, hb, hh, rfl, rfl, rfl, j, me, hj, h1, h2, rfl, rfl⟩⟩
  · exact ⟨_, _, _, _, _, Or.inr ⟨fun b hb hc => h ⟨b, hb, hc⟩, rfl, rfl, rfl, rfl, rfl⟩⟩
section
variable {w w' : World} {base : Nat} {F : Nat → Prop} {K M : Nat} {mo : Int} {N : Nat} {H : List Int → Int} {now f f' m m' : Int} {es : Array MapEntry} {c : Nat} {BL : List Bk} {L : List Ent}
theorem KParts.look (h : KParts w base F K M mo N H now f m es c BL L) {l : List Int} {v : Value} {nE : Nat} {xs : List Value} {es' : Value → Array MapEntry} {c' : Nat} (hc : Choice H es c BL l v nE xs es' c') :
    ∀ w' : World, w'.heap[M]? = some (.map es c) → (Instr.lookup 49 (.map (some M)) (.int .u64 (H l)) false).run Try.prog w' = .ok v w' := fun w' hm => by
  rcases hc with ⟨b, hb, hh, rfl, rfl, rfl, j, me, hj, hk, hv, rfl, rfl⟩ | ⟨hno, rfl, rfl, rfl, rfl, rfl⟩
  · rw [← hh, ← hv]
    exact lk_some w' M c' es h.keys b.h hj hk hm
  · exact lk_none w' M c es h.keys _ (h.no_key hno) hm
theorem KParts.put_in (h : KParts w base F K M mo N H now f m es c BL L) {l : List Int} {v : Value} {nE : Nat} {xs : List Value} {es' : Value → Array MapEntry} {c' : Nat} (hc : Choice H es c BL l v nE xs es' c') :
    ∀ (w' : World) (v' : Value), w'.heap[M]? = some (.map es c) → (Instr.mapUpdate 49 (.map (some M)) (.int .u64 (H l)) v').run Try.prog w' = .ok () (putMap w' M (.map (es' v') c')) := fun w' v' hm => by
  rcases hc with ⟨b, hb, hh, rfl, rfl, rfl, j, me, hj, hk, hv, rfl, rfl⟩ | ⟨hno, rfl, rfl, rfl, rfl, rfl⟩
  · rw [← hh]
    exact up_some w' M c' es h.keys b.h v' hj hk hm
  · exact up_none w' M c es h.keys _ v' (h.no_key hno) hm
theorem KParts.none_at (h : KParts w base F K M mo N H now f m es c BL L) (hlen : L.length ≤ 99999) {l : List Int} (hl : Byt l) (hnew : ∀ e ∈ L, e.kb ≠ l) {v : Value} {nE : Nat} {xs : List Value} {es' : Value → Array MapEntry} {c' : Nat} (hc : Choice H es c BL l v nE xs es' c')
    (hf : ∀ k, F k → k ≠ K → w'.heap[k]? = w.heap[k]?) (hsz : w.heap.size ≤ w'.heap.size) {key : Value} (hkr : Row w' key l) : Calls Try.prog 18 #[v, key] w' fun e w'' => e = .returned (.int .i64 (-1)) ∧ Below w'.heap.size w' w'' := by
  rcases hc with ⟨b, hb, hh, rfl, rfl, rfl, j, me, hj, hk, hv, rfl, rfl⟩ | ⟨hno, rfl, rfl, rfl, rfl, rfl⟩
  · have := h.at_call hlen hb hf hsz hkr
    rw [h.idx_gone hb hl hnew] at this
    exact this
  · exact at_any w' _ key l [] (by simp) (Or.inl ⟨rfl, rfl⟩) hkr
theorem KParts.ready (h : KParts w base F K M mo N H now f m es c BL L) (hlen : L.length ≤ 99998) {l : List Int} {v : Value} {nE : Nat} {xs : List Value} {es' : Value → Array MapEntry} {c' : Nat} (hc : Choice H es c BL l v nE xs es' c') {key : Value} (hkr : Row w key l) :
    Ready base K M mo N (L.length : Int) now f m (H l) key l w es c v nE xs es' c' := by
  have h1 := h.look hc
  have h2 := h.put_in hc
  refine ⟨h.kg, h.bM, h.bw, hkr, ?_, ?_, ?_, ?_, ?_, ⟨by omega, by omega⟩, h2, h1⟩ <;> rcases hc with ⟨b, hb, hh, rfl, rfl, rfl, j, me, hj, hk, hv, rfl, rfl⟩ | ⟨hno, rfl, rfl, rfl, rfl, rfl⟩
  · have := len_le b BL hb
    rw [← h.perm.length_eq] at this
    omega
  · omega
  · obtain ⟨g, cap, i1, i2, i3, i4, i5, i6⟩ := h.bok b hb
    exact i6
  · exact World.ownsRow_nil _ _ _ _
  · obtain ⟨g, cap, i1, i2, i3, i4, i5, i6⟩ := h.bok b hb
    rw [i1]; exact fun e => i3 (Option.some.inj e)
  · simp [Value.ownBlock]
  · obtain ⟨g, cap, i1, i2, i3, i4, i5, i6⟩ := h.bok b hb
    rw [i1]; exact fun e => i4 (Option.some.inj e)
  · simp [Value.ownBlock]
  · obtain ⟨g, cap, i1, i2, i3, i4, i5, i6⟩ := h.bok b hb
    rw [i1]; intro g' hg'; cases hg'; exact h.fl g i2
  · intro g hg; cases hg
/-- where Put ends, the keep shows one more. -/
theorem KParts.put_done (h : KParts w base F K M mo N H now f m es c BL L) {l : List Int} (hl : Byt l) (hnew : ∀ e ∈ L, e.kb ≠ l) (hlast : ∀ e ∈ L, e.last < now) {v : Value} {nE : Nat} {xs : List Value} {es' : Value → Array MapEntry} {c' : Nat} (hc : Choice H es c BL l v nE xs es' c') {x : Int}
    (PE : PutEnd base K M mo N (L.length : Int) now f m x l w v nE xs es' c' w') :
    KS w' base (fun k => F k ∨ (w.heap.size ≤ k ∧ k < w'.heap.size)) K mo N H now f m (L.map pr ++ [(l, x)]) := by
  rcases hc with ⟨b, hb, hh, rfl, rfl, rfl, j, me, hj, hk, hv, rfl, rfl⟩ | ⟨hno, rfl, rfl, rfl, rfl, rfl⟩
  · obtain ⟨es2, BL2, L2, h2, h3⟩ := h.addA hb hh hl hnew hj hk hlast PE
    exact ⟨M, es2, c', BL2, L2, h2, h3.symm⟩
  · obtain ⟨es2, BL2, L2, h2, h3⟩ := h.addB hno hl hnew hlast PE
    exact ⟨M, es2, c + 1, BL2, L2, h2, h3.symm⟩
theorem KParts.put_left (h : KParts w base F K M mo N H now f m es c BL L) {l : List Int} {v : Value} {nE : Nat} {xs : List Value} {es' : Value → Array MapEntry} {c' : Nat} (hc : Choice H es c BL l v nE xs es' c') {x n : Int}
    (PE : PutEnd base K M mo N n now f m x l w v nE xs es' c' w') : Left base F w (fun k => F k ∨ (w.heap.size ≤ k ∧ k < w'.heap.size)) w' := by
  refine ⟨PE.1, fun k h1 h2 => PE.2.1 k h1 (fun e => h2 (by rw [e]; exact h.fK)) (fun e => h2 (by rw [e]; exact h.fM)) ?_, fun k hk => ?_⟩
  · rcases hc with ⟨b, hb, hh, rfl, rfl, rfl, j, me, hj, hk, hv, rfl, rfl⟩ | ⟨hno, rfl, rfl, rfl, rfl, rfl⟩
    · obtain ⟨g, cap, i1, i2, i3, i4, i5, i6⟩ := h.bok b hb
      rw [i1]
      intro e
      exact h2 (by rw [← (Option.some.inj (show some g = some k from e))]; exact i2)
    · simp [Value.ownBlock]
  · rcases hk with hk | hk
    · exact Or.inl hk
    · exact Or.inr hk.1
end
theorem Left.trans {base : Nat} {F F2 F3 : Nat → Prop} {w w2 w3 : World} (h : Left base F w F2 w2) (h' : Left base F2 w2 F3 w3) : Left base F w F3 w3 := by
  have hs := h.1.size
  refine ⟨h.1.trans h'.1, fun k h1 h2 => ?_, fun k hk => ?_⟩
  · rw [h'.2.1 k (by omega) (fun hc => by rcases h.2.2 k hc with h3 | h3; exact h2 h3; omega)]
    exact h.2.1 k h1 h2
  · rcases h'.2.2 k hk with h3 | h3
    · exact h.2.2 k h3
    · exact Or.inr (by omega)
end Go.Proofs.Ytebldhppnacdjab
