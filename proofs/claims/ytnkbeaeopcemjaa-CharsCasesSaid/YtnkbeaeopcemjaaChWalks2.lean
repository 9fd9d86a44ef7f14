/-
  The walks of package chars' functions of one character, second text: Up, Down, Letter, Digit, Blank compute the plain functions. The only condition: the character is an int32.
-/
import Derived.Test.YtnkbeaeopcemjaaChWalks
import Derived.Test.YtnkbeaeopcemjaaChPlain
import Derived.WalkKit
import Derived.WalkSpells
import Derived.WalkLawsBesides
import Derived.Handy
namespace Go.Proofs.Ytnkbeaeopcemjaa
open Go.RowKit

theorem Ch.retI {k : IntKind} {a b : Int} (h : a = b) : Ending.returned (.int k a) = .returned (.int k b) := by rw [h]
theorem Ch.retB {a b : Bool} (h : a = b) : Ending.returned (.bool a) = .returned (.bool b) := by rw [h]

set_option maxHeartbeats 1000000 in
theorem Ch.up_any (r : Int) (w : World) :
    Calls Try.prog 6 #[.int .i32 r] w fun e w' => e = .returned (.int .i32 (Ch.upZ r)) ∧ w = w' := by
  go_enter Try.func6, Try.ntmps6
  go_wp2_with (go_at_call 19; refine (Ch.pair_any _ _).mono ?_; rintro e w' ⟨rfl, rfl⟩)
  all_goals
    go_ret
    refine ⟨?_, rfl⟩
    simp_all [Ch.upZ]

set_option maxHeartbeats 1000000 in
theorem Ch.down_any (r : Int) (w : World) :
    Calls Try.prog 7 #[.int .i32 r] w fun e w' => e = .returned (.int .i32 (Ch.downZ r)) ∧ w = w' := by
  go_enter Try.func7, Try.ntmps7
  go_wp2_with (go_at_call 19; refine (Ch.pair_any _ _).mono ?_; rintro e w' ⟨rfl, rfl⟩)
  all_goals
    go_ret
    refine ⟨?_, rfl⟩
    simp_all [Ch.downZ]

set_option maxHeartbeats 1000000 in
theorem Ch.letter_any (r : Int) (w : World) :
    Calls Try.prog 9 #[.int .i32 r] w fun e w' => e = .returned (.bool (Ch.letterB r)) ∧ w = w' := by
  go_enter Try.func9, Try.ntmps9
  go_wp2_with (go_at_call 19; refine (Ch.pair_any _ _).mono ?_; rintro e w' ⟨rfl, rfl⟩)
  all_goals
    go_ret
    refine ⟨?_, rfl⟩
    simp_all [Ch.letterB, Ch.oddLetter]

set_option maxHeartbeats 1000000 in
theorem Ch.digit_any (r : Int) (w : World) :
    Calls Try.prog 15 #[.int .i32 r] w fun e w' => e = .returned (.int .i64 (Ch.digitZ r)) ∧ w = w' := by
  go_enter Try.func15, Try.ntmps15
  go_wp2
  all_goals
    go_ret
    refine ⟨Ch.retI ?_, rfl⟩
    unfold Ch.digitZ
    first
      | rw [if_pos (by omega)]
      | rw [if_neg (by omega), if_pos (by omega)]
      | rw [if_neg (by omega), if_neg (by omega)]

set_option maxHeartbeats 1000000 in
theorem Ch.blank_any (r : Int) (w : World) :
    Calls Try.prog 17 #[.int .i32 r] w fun e w' => e = .returned (.bool (Ch.blankB r)) ∧ w = w' := by
  go_enter Try.func17, Try.ntmps17
  go_wp2
  all_goals
    go_ret
    refine ⟨?_, rfl⟩
    simp_all [Ch.blankB]
end Go.Proofs.Ytnkbeaeopcemjaa
