/-
  The walk of the layer's fixed fact ('awake'): it is true; nothing that was there is changed. No conditions.
-/
import Derived.Test.YtnkbeaeopcemjaaDoorChTextWalks
import Derived.WalkKit
import Derived.WalkSpells
import Derived.WalkLawsBesides
import Derived.Handy
namespace Go.Proofs.YtnkbeaeopcemjaaDoor
open Go.RowKit

theorem Ch.up_q : Ch.upZ 113 = 81 := by decide +kernel
theorem Ch.up_a : Ch.upL [97, 195, 159] = [65, 83, 83] := by decide +kernel

set_option maxHeartbeats 1000000 in
theorem Ch.awake_any (w : World) :
    Calls Tryd.prog 5 #[] w fun e w' => e = .returned (.bool true) ∧ Below w.heap.size w w' := by
  have e1 := Ch.up_q
  have e2 : Ch.upL (ByteArray.mk #[97, 195, 159]).data.toList = [65, 83, 83] := Ch.up_a
  go_enter Tryd.func5, Tryd.ntmps5
  go_wp2_with (first | (go_at_call 15; refine (Ch.up_any _ _).mono ?_; rintro e w' ⟨rfl, rfl⟩) | (go_at_call 6; refine (Ch.upcase_any _ _ (by decide)).mono ?_; rintro e w1 ⟨rfl, hb1⟩))
  go_ret
  exact ⟨rfl, hb1⟩
end Go.Proofs.YtnkbeaeopcemjaaDoor
