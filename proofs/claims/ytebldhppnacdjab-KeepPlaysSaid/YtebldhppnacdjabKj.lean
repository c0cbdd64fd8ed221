/- A keep's map, whatever its entries: look-up and update; Clone of a nil key. -/
import Derived.Test.YtebldhppnacdjabKe
set_option linter.unusedVariables false
namespace Go.Proofs.Ytebldhppnacdjab
open Go.RowKit Go.MapKept
theorem clone_nil (w : World) : Calls Try.prog 20 #[.slice none 0 0] w fun e w' => e = .returned (.slice none 0 0) ∧ w = w' := by
  have h := Lib.run_eql_slice_nil (P := Try.prog) w 29 5 none 0 0 0 0 Try.underlying29
  go_enter Try.func20, Try.ntmps20
  go_wp2
  go_ret
  exact ⟨rfl, rfl⟩
/-- every key a number, no two the same. -/
def Keys (es : Array MapEntry) : Prop := (∀ e ∈ es.toList, IsKey (.int .u64) e.key) ∧ ∀ (i j : Nat) (e e' : MapEntry), es.toList[i]? = some e → es.toList[j]? = some e' → e.key = e'.key → i = j
theorem isKeyH (hh : Int) : IsKey (.int .u64) (.int .u64 hh) := by simp [IsKey]
theorem find_none {es : Array MapEntry} (hK : Keys es) (hh : Int) (hn : ∀ e ∈ es.toList, e.key ≠ .int .u64 hh) : Instr.findNow (.int .u64) (.int .u64 hh) es.toList 0 = some none := by
  rcases findNow_spec (isKeyH hh) es.toList 0 hK.1 with ⟨h1, h2⟩ | ⟨j, e, h1, h2, h3⟩
  · exact h1
  · exact absurd h3 (hn e (List.mem_of_getElem? h2))
theorem find_some {es : Array MapEntry} (hK : Keys es) (hh : Int) {j : Nat} {e : MapEntry} (he : es.toList[j]? = some e) (hk : e.key = .int .u64 hh) : Instr.findNow (.int .u64) (.int .u64 hh) es.toList 0 = some (some (j, e.val)) := by
  rcases findNow_spec (isKeyH hh) es.toList 0 hK.1 with ⟨h1, h2⟩ | ⟨j', e', h1, h2, h3⟩
  · exact absurd hk (h2 e (List.mem_of_getElem? he))
  · have hj : j' = j := hK.2 j' j e' e h2 he (by rw [h3, hk])
    subst hj
    rw [he] at h2
    cases h2
    rw [h1, Nat.zero_add]
theorem lk_none (w' : World) (M c : Nat) (es : Array MapEntry) (hK : Keys es) (hh : Int) (hn : ∀ e ∈ es.toList, e.key ≠ .int .u64 hh) (h : w'.heap[M]? = some (.map es c)) : (Instr.lookup 49 (.map (some M)) (.int .u64 hh) false).run Try.prog w' = .ok (.slice none 0 0) w' := by
  have hz : (zeroValue 53).run Try.prog w' = .ok (.slice none 0 0) w' := by rfl
  simp [Instr.lookup, run_underlying Try.underlying49, MapKept.run_getObj_map h, run_checkKey Try.underlying37 (isKeyH hh), run_findKey (P := Try.prog) Try.underlying37 (find_none hK hh hn), hz, Result.andThen]
theorem lk_some (w' : World) (M c : Nat) (es : Array MapEntry) (hK : Keys es) (hh : Int) {j : Nat} {e : MapEntry} (he : es.toList[j]? = some e) (hk : e.key = .int .u64 hh) (h : w'.heap[M]? = some (.map es c)) : (Instr.lookup 49 (.map (some M)) (.int .u64 hh) false).run Try.prog w' = .ok e.val w' := by
  simp [Instr.lookup, run_underlying Try.underlying49, MapKept.run_getObj_map h, run_checkKey Try.underlying37 (isKeyH hh), run_findKey (P := Try.prog) Try.underlying37 (find_some hK hh he hk), Result.andThen]
theorem up_none (w' : World) (M c : Nat) (es : Array MapEntry) (hK : Keys es) (hh : Int) (v : Value) (hn : ∀ e ∈ es.toList, e.key ≠ .int .u64 hh) (h : w'.heap[M]? = some (.map es c)) : (Instr.mapUpdate 49 (.map (some M)) (.int .u64 hh) v).run Try.prog w' = .ok () (putMap w' M (.map (es.push ⟨.int .u64 hh, v, c⟩) (c + 1))) := by
  simp [Instr.mapUpdate, run_underlying Try.underlying49, MapKept.run_getObj_map h, run_checkKey Try.underlying37 (isKeyH hh), run_findKey (P := Try.prog) Try.underlying37 (find_none hK hh hn), MapKept.run_setObj_map _ h, Result.andThen, putMap]
theorem up_some (w' : World) (M c : Nat) (es : Array MapEntry) (hK : Keys es) (hh : Int) (v : Value) {j : Nat} {e : MapEntry} (he : es.toList[j]? = some e) (hk : e.key = .int .u64 hh) (h : w'.heap[M]? = some (.map es c)) :
    (Instr.mapUpdate 49 (.map (some M)) (.int .u64 hh) v).run Try.prog w' = .ok () (putMap w' M (.map (es.modify j fun e => { e with key := .int .u64 hh, val := v }) c)) := by
  have hj : es[j]? = some e := by simpa using he
  simp [Instr.mapUpdate, run_underlying Try.underlying49, MapKept.run_getObj_map h, run_checkKey Try.underlying37 (isKeyH hh), run_findKey (P := Try.prog) Try.underlying37 (find_some hK hh he hk), hj, hk, run_keyThatStays (isKeyH hh), MapKept.run_setObj_map _ h, Result.andThen, putMap]
end Go.Proofs.Ytebldhppnacdjab
