/- Walks: the chapter's example. -/
import Derived.Test.YtebldhppnacdjaaFp
namespace Go.Proofs.Ytebldhppnacdjaa
open Go.RowKit
def sA : ByteArray := ⟨#[102, 39, 51, 102, 98, 57, 57, 57, 57, 57, 57, 57, 57, 57, 57, 57, 57, 97]⟩
def sB : ByteArray := ⟨#[102, 39, 51, 102, 99, 57, 57, 57, 57, 57, 57, 57, 57, 57, 57, 57, 57, 97]⟩
def nA : Nat := 4591870180066957722
def nB : Nat := 4596373779694328218
def nC : Nat := 4599075939470750516
theorem parse_A : parseF sA = (nA, 0) := by decide +kernel
theorem parse_B : parseF sB = (nB, 0) := by decide +kernel
theorem add_AB : Fl.res (Fl.D.add (Fl.canon nA) (Fl.canon nB)) = nC := by decide +kernel
theorem text_AB : (strOfNums (pre (Fl.canon nC) 16)) = ⟨#[102, 39, 51, 102, 100, 51, 51, 51, 51, 51, 51, 51, 51, 51, 51, 51, 51, 52]⟩ := by
  have h : (pre (Fl.canon nC) 16) = [102, 39, 51, 102, 100, 51, 51, 51, 51, 51, 51, 51, 51, 51, 51, 51, 51, 52] := by decide +kernel
  rw [h]; rfl
theorem parse_A_any (w : World) : Calls Try.prog 11 #[.string ⟨#[102, 39, 51, 102, 98, 57, 57, 57, 57, 57, 57, 57, 57, 57, 57, 57, 57, 97]⟩] w fun e w' => e = .returned (.tuple #[.int .u64 (nA : Int), .int .i64 0]) ∧ w = w' := by
  have h := parse_any sA (by decide) w
  rw [parse_A] at h
  exact h
theorem parse_B_any (w : World) : Calls Try.prog 11 #[.string ⟨#[102, 39, 51, 102, 99, 57, 57, 57, 57, 57, 57, 57, 57, 57, 57, 57, 57, 97]⟩] w fun e w' => e = .returned (.tuple #[.int .u64 (nB : Int), .int .i64 0]) ∧ w = w' := by
  have h := parse_any sB (by decide) w
  rw [parse_B] at h
  exact h
theorem add_AB_any (w : World) : Calls Try.prog 15 #[.int .u64 (nA : Int), .int .u64 (nB : Int)] w fun e w' => e = .returned (.int .u64 (nC : Int)) ∧ ∃ n, w' = w.drewN n := by
  have h := add_any nA nB w
  rw [add_AB] at h
  exact h
theorem text_AB_any (w : World) : Calls Try.prog 10 #[.int .u64 (nC : Int)] w fun e w' => e = .returned (.string ⟨#[102, 39, 51, 102, 100, 51, 51, 51, 51, 51, 51, 51, 51, 51, 51, 51, 51, 52]⟩) ∧ Below w.heap.size w w' := by
  have h := text_any nC (by decide) w
  rw [text_AB] at h
  exact h
set_option maxHeartbeats 400000 in
theorem lives_any (w : World) : Calls Try.prog 9 #[] w fun e w' => e = .returned (.bool true) ∧ Below w.heap.size w w' := by
  go_enter Try.func9, Try.ntmps9
  go_wp2_with (first
    | (go_at_call 11; first | ((with_reducible refine (parse_A_any _).mono ?_); rintro e w' ⟨rfl, rfl⟩) | ((with_reducible refine (parse_B_any _).mono ?_); rintro e w' ⟨rfl, rfl⟩))
    | (go_at_call 15; ((with_reducible refine (add_AB_any _).mono ?_); rintro e w' ⟨rfl, n, rfl⟩))
    | (go_at_call 10; ((with_reducible refine (text_AB_any _).mono ?_); rintro e w' ⟨rfl, hb⟩)))
  go_ret
  exact ⟨rfl, hb.os, hb.tape, hb.output, hb.size, hb.block⟩
end Go.Proofs.Ytebldhppnacdjaa
