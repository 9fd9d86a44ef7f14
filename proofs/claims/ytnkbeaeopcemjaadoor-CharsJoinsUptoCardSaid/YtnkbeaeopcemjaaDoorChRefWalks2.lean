/-
  The walks of package sextantref01's functions of one character, second text: Up, Down, Letter compute the document's plain functions; what they make lies above all that was there. The only condition: the character is an int32.
-/
import Derived.Test.YtnkbeaeopcemjaaDoorChRefWalks
import Derived.WalkKit
import Derived.WalkSpells
import Derived.WalkLawsBesides
import Derived.Handy
namespace Go.Proofs.YtnkbeaeopcemjaaDoor
open Go.RowKit

set_option maxHeartbeats 1000000 in
theorem Ch.upR_any (r : Int) (w : World) :
    Calls Tryd.prog 19 #[.int .i32 r] w fun e w' => e = .returned (.int .i32 (Ch.upR r)) ∧ w = w' := by
  go_enter Tryd.func19, Tryd.ntmps19
  go_wp2_with (go_at_call 29; refine (Ch.cap_any _ _).mono ?_; rintro e w' ⟨rfl, rfl⟩)
  all_goals
    go_ret
    refine ⟨?_, rfl⟩
    simp_all [Ch.upR]

set_option maxHeartbeats 1000000 in
theorem Ch.downR_any (r : Int) (w : World) :
    Calls Tryd.prog 24 #[.int .i32 r] w fun e w' => e = .returned (.int .i32 (Ch.downR r)) ∧ Below w.heap.size w w' := by
  go_enter Tryd.func24, Tryd.ntmps24
  go_wp2_with (go_at_call 31; refine (Ch.small_any _ _).mono ?_; rintro e w1 ⟨rfl, hb1⟩)
  all_goals
    go_ret
    refine ⟨?_, by go_grown⟩
    simp_all [Ch.downR]

set_option maxHeartbeats 4000000 in
theorem Ch.letterR_any (r : Int) (w : World) :
    Calls Tryd.prog 25 #[.int .i32 r] w fun e w' => e = .returned (.bool (Ch.letterR r)) ∧ Below w.heap.size w w' := by
  go_enter Tryd.func25, Tryd.ntmps25
  go_wp2
  refine wp_loop_rounds 13 ?_
  repeat any_goals (rw [rounds_succ]; go_wp2_with (first | (go_at_call 29; refine (Ch.cap_any _ _).mono ?_; rintro e w' ⟨rfl, rfl⟩) | (go_at_call 31; refine (Ch.small_any _ _).mono ?_; rintro e w1 ⟨rfl, hb1⟩)))
  all_goals
    go_ret
    refine ⟨Ch.retB ?_, by first | (go_grown; done) | exact ((Below.refl _ _).alloc (Nat.le_refl _) _).trans (Below.mono ‹Below _ _ _› (by simp))⟩
    simp_all [Ch.letterR, Ch.oddLetter]

end Go.Proofs.YtnkbeaeopcemjaaDoor
