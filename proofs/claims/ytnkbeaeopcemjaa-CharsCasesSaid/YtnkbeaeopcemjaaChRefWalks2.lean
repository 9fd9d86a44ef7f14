/-
  The walks of package sextantref01's functions of one character, second text: Up, Down, Letter, Digit, Blank compute the document's plain functions; what they make lies above all that was there. The only condition: the character is an int32.
-/
import Derived.Test.YtnkbeaeopcemjaaChRefWalks
import Derived.WalkKit
import Derived.WalkSpells
import Derived.WalkLawsBesides
import Derived.Handy
namespace Go.Proofs.Ytnkbeaeopcemjaa
open Go.RowKit

set_option maxHeartbeats 1000000 in
theorem Ch.upR_any (r : Int) (w : World) :
    Calls Try.prog 12 #[.int .i32 r] w fun e w' => e = .returned (.int .i32 (Ch.upR r)) ∧ w = w' := by
  go_enter Try.func12, Try.ntmps12
  go_wp2_with (go_at_call 23; refine (Ch.cap_any _ _).mono ?_; rintro e w' ⟨rfl, rfl⟩)
  all_goals
    go_ret
    refine ⟨?_, rfl⟩
    simp_all [Ch.upR]

set_option maxHeartbeats 1000000 in
theorem Ch.downR_any (r : Int) (w : World) :
    Calls Try.prog 13 #[.int .i32 r] w fun e w' => e = .returned (.int .i32 (Ch.downR r)) ∧ Below w.heap.size w w' := by
  go_enter Try.func13, Try.ntmps13
  go_wp2_with (go_at_call 24; refine (Ch.small_any _ _).mono ?_; rintro e w1 ⟨rfl, hb1⟩)
  all_goals
    go_ret
    refine ⟨?_, by go_grown⟩
    simp_all [Ch.downR]

set_option maxHeartbeats 4000000 in
theorem Ch.letterR_any (r : Int) (w : World) :
    Calls Try.prog 14 #[.int .i32 r] w fun e w' => e = .returned (.bool (Ch.letterR r)) ∧ Below w.heap.size w w' := by
  go_enter Try.func14, Try.ntmps14
  go_wp2
  refine wp_loop_rounds 13 ?_
  repeat any_goals (rw [rounds_succ]; go_wp2_with (first | (go_at_call 23; refine (Ch.cap_any _ _).mono ?_; rintro e w' ⟨rfl, rfl⟩) | (go_at_call 24; refine (Ch.small_any _ _).mono ?_; rintro e w1 ⟨rfl, hb1⟩)))
  all_goals
    go_ret
    refine ⟨Ch.retB ?_, by first | (go_grown; done) | exact ((Below.refl _ _).alloc (Nat.le_refl _) _).trans (Below.mono ‹Below _ _ _› (by simp))⟩
    simp_all [Ch.letterR, Ch.oddLetter]

set_option maxHeartbeats 4000000 in
theorem Ch.digitR_any (r : Int) (w : World) :
    Calls Try.prog 16 #[.int .i32 r] w fun e w' => e = .returned (.int .i64 (Ch.digitR r)) ∧ w = w' := by
  go_enter Try.func16, Try.ntmps16
  go_wp2
  refine wp_loop_rounds 11 ?_
  repeat any_goals (rw [rounds_succ]; go_wp2)
  all_goals
    go_ret
    refine ⟨Ch.retI ?_, rfl⟩
    try simp only [beq_iff_eq, beq_eq_false_iff_ne] at *
    unfold Ch.digitR
    first
      | rw [if_pos (by omega)]; omega
      | rw [if_neg (by omega), if_pos (by omega)]; omega
      | rw [if_neg (by omega), if_neg (by omega)]

set_option maxHeartbeats 1000000 in
theorem Ch.blankR_any (r : Int) (w : World) :
    Calls Try.prog 18 #[.int .i32 r] w fun e w' => e = .returned (.bool (Ch.blankR r)) ∧ w = w' := by
  go_enter Try.func18, Try.ntmps18
  go_wp2
  all_goals
    go_ret
    refine ⟨Ch.retB ?_, rfl⟩
    unfold Ch.blankR
    by_cases hd : 9 ≤ r ∧ r ≤ 13
    · rw [decide_eq_true hd]
      first | rfl | (exfalso; omega) | (clear hd; simp_all; done)
    · rw [decide_eq_false hd]
      first | rfl | (exfalso; omega) | (have hq : ¬ r ≤ 13 := (by omega); clear hd; simp [*]; done) | (clear hd; simp_all; done)
end Go.Proofs.Ytnkbeaeopcemjaa
