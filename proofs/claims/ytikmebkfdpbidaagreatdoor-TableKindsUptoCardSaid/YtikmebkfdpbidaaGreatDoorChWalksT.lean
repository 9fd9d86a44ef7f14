/-
  The walks of package chars' functions of one character: pair, Up, Down, Letter, Digit, Blank compute the plain functions. No conditions but that the character is an int32.
-/
import Derived.Test.YtikmebkfdpbidaaGreatDoorRows
import Derived.WalkKit
import Derived.WalkSpells
import Derived.WalkLawsBesides
import Derived.Handy
import Derived.Test.YtikmebkfdpbidaaGreatDoorTg
namespace Go.Proofs.YtikmebkfdpbidaaGreatDoor
open Go.RowKit

theorem Ch.ret3 {a b c d : Int} {x y : Bool} (p : Int × Int × Bool) (hp : p = (c, d, y)) (h1 : a = c) (h2 : b = d) (h3 : x = y) :
    Ending.returned (.tuple #[.int .i32 a, .int .i32 b, .bool x]) = .returned (.tuple #[.int .i32 p.1, .int .i32 p.2.1, .bool p.2.2]) := by
  subst hp h1 h2 h3; rfl

set_option maxHeartbeats 4000000 in
set_option maxRecDepth 100000 in
theorem Ch.pair_any (r : Int) (w : World) :
    Calls Tryz.prog 83 #[.int .i32 r] w fun e w' => e = .returned (.tuple #[.int .i32 (Ch.pairZ r).1, .int .i32 (Ch.pairZ r).2.1, .bool (Ch.pairZ r).2.2]) ∧ w = w' := by
  go_enter Tryz.func83, Tryz.ntmps83
  go_wp2
  all_goals
    go_ret3
    refine ⟨?_, rfl⟩
    simp only [bne_iff_ne, bne_eq_false_iff_eq, ne_eq] at *
    first
      | exact Ch.ret3 _ (Ch.pairZ_1 (by unfold Ch.p1; omega)) rfl rfl rfl
      | exact Ch.ret3 _ (Ch.pairZ_2 (by unfold Ch.p1; omega) (by unfold Ch.p2; omega)) rfl rfl rfl
      | exact Ch.ret3 _ (Ch.pairZ_3 (by unfold Ch.p1; omega) (by unfold Ch.p2; omega) (by unfold Ch.p3; omega)) rfl rfl rfl
      | exact Ch.ret3 _ (Ch.pairZ_4 (by unfold Ch.p1; omega) (by unfold Ch.p2; omega) (by unfold Ch.p3; omega) (by unfold Ch.p4; omega)) rfl rfl rfl
      | exact Ch.ret3 _ (Ch.pairZ_5 (by unfold Ch.p1; omega) (by unfold Ch.p2; omega) (by unfold Ch.p3; omega) (by unfold Ch.p4; omega) (by unfold Ch.p5; omega)) (Ch.or_1 _ (by omega) (by omega)) (Ch.andNot_1 _ (by omega) (by omega)) rfl
      | exact Ch.ret3 _ (Ch.pairZ_6 (by unfold Ch.p1; omega) (by unfold Ch.p2; omega) (by unfold Ch.p3; omega) (by unfold Ch.p4; omega) (by unfold Ch.p5; omega) (by unfold Ch.p6; omega)) (by rw [Ch.and_1 _ (by omega) (by omega)]; unfold wrap32; omega) (by rw [Ch.and_1 _ (by omega) (by omega)]; unfold wrap32; omega) rfl
      | exact Ch.ret3 _ (Ch.pairZ_0 (by unfold Ch.p1; omega) (by unfold Ch.p2; omega) (by unfold Ch.p3; omega) (by unfold Ch.p4; omega) (by unfold Ch.p5; omega) (by unfold Ch.p6; omega)) rfl rfl rfl

end Go.Proofs.YtikmebkfdpbidaaGreatDoor
