/-
  The walks of package chars' functions of one character, second text: Up, Down, Letter compute the plain functions. The only condition: the character is an int32.
-/
import Derived.Test.YtnkbeaeopcemjaaDoorChWalks
import Derived.Test.YtnkbeaeopcemjaaDoorChPlain
import Derived.WalkKit
import Derived.WalkSpells
import Derived.WalkLawsBesides
import Derived.Handy
namespace Go.Proofs.YtnkbeaeopcemjaaDoor
open Go.RowKit

theorem Ch.retI {k : IntKind} {a b : Int} (h : a = b) : Ending.returned (.int k a) = .returned (.int k b) := by rw [h]
theorem Ch.retB {a b : Bool} (h : a = b) : Ending.returned (.bool a) = .returned (.bool b) := by rw [h]

set_option maxHeartbeats 1000000 in
theorem Ch.up_any (r : Int) (w : World) :
    Calls Tryd.prog 15 #[.int .i32 r] w fun e w' => e = .returned (.int .i32 (Ch.upZ r)) ∧ w = w' := by
  go_enter Tryd.func15, Tryd.ntmps15
  go_wp2_with (go_at_call 26; refine (Ch.pair_any _ _).mono ?_; rintro e w' ⟨rfl, rfl⟩)
  all_goals
    go_ret
    refine ⟨?_, rfl⟩
    simp_all [Ch.upZ]

set_option maxHeartbeats 1000000 in
theorem Ch.down_any (r : Int) (w : World) :
    Calls Tryd.prog 23 #[.int .i32 r] w fun e w' => e = .returned (.int .i32 (Ch.downZ r)) ∧ w = w' := by
  go_enter Tryd.func23, Tryd.ntmps23
  go_wp2_with (go_at_call 26; refine (Ch.pair_any _ _).mono ?_; rintro e w' ⟨rfl, rfl⟩)
  all_goals
    go_ret
    refine ⟨?_, rfl⟩
    simp_all [Ch.downZ]

set_option maxHeartbeats 1000000 in
theorem Ch.letter_any (r : Int) (w : World) :
    Calls Tryd.prog 21 #[.int .i32 r] w fun e w' => e = .returned (.bool (Ch.letterB r)) ∧ w = w' := by
  go_enter Tryd.func21, Tryd.ntmps21
  go_wp2_with (go_at_call 26; refine (Ch.pair_any _ _).mono ?_; rintro e w' ⟨rfl, rfl⟩)
  all_goals
    go_ret
    refine ⟨?_, rfl⟩
    simp_all [Ch.letterB, Ch.oddLetter]

end Go.Proofs.YtnkbeaeopcemjaaDoor
