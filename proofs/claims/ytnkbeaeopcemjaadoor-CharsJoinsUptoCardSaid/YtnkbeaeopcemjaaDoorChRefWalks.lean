/-
  The walks of package sextantref01's functions of one character: Capital, Small, Up, Down, Letter, Digit, Blank compute the document's plain functions; a slice that Small and Letter make lies above all that was there. The only condition: the character is an int32.
-/
import Derived.Test.YtnkbeaeopcemjaaDoorChWalks2
import Derived.Test.YtnkbeaeopcemjaaDoorChRefPlain
import Derived.WalkKit
import Derived.WalkSpells
import Derived.WalkLawsBesides
import Derived.Handy
namespace Go.Proofs.YtnkbeaeopcemjaaDoor
open Go.RowKit

set_option maxHeartbeats 4000000 in
set_option maxRecDepth 100000 in
theorem Ch.cap_any (r : Int) (w : World) :
    Calls Tryd.prog 29 #[.int .i32 r] w fun e w' => e = .returned (.int .i32 (Ch.capZ r)) ∧ w = w' := by
  go_enter Tryd.func29, Tryd.ntmps29
  go_wp2
  all_goals
    go_ret
    refine ⟨?_, rfl⟩
    simp only [ne_eq, beq_iff_eq, beq_eq_false_iff_ne] at *
    first
      | exact Ch.retI (Ch.capZ_1 (by unfold Ch.p1; omega)).symm
      | exact Ch.retI (Ch.capZ_3 (by unfold Ch.p1; omega) (by unfold Ch.p3; omega)).symm
      | exact Ch.retI (Ch.capZ_c2 (by unfold Ch.p1; omega) (by unfold Ch.p3; omega) (by unfold Ch.c2; omega)).symm
      | exact Ch.retI (Ch.capZ_c3 (by unfold Ch.p1; omega) (by unfold Ch.p3; omega) (by unfold Ch.c2; omega) (by unfold Ch.c3; omega)).symm
      | exact Ch.retI (Ch.capZ_0 (by unfold Ch.p1; omega) (by unfold Ch.p3; omega) (by unfold Ch.c2; omega) (by unfold Ch.c3; omega)).symm


set_option maxHeartbeats 4000000 in
theorem Ch.small_any (r : Int) (w : World) :
    Calls Tryd.prog 31 #[.int .i32 r] w fun e w' => e = .returned (.int .i32 (Ch.smallZ r)) ∧ Below w.heap.size w w' := by
  go_enter Tryd.func31, Tryd.ntmps31
  go_wp2
  refine wp_loop_rounds 4 ?_
  repeat any_goals (rw [rounds_succ]; go_wp2_with (go_at_call 29; refine (Ch.cap_any _ _).mono ?_; rintro e w' ⟨rfl, rfl⟩))
  all_goals
    go_ret
    refine ⟨Ch.retI ?_, by go_grown⟩
    simp_all [Ch.smallZ, Ch.hitB]
end Go.Proofs.YtnkbeaeopcemjaaDoor
