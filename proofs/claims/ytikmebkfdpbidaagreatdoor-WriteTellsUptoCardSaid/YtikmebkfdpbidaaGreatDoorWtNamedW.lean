/-
  The document's names of characters.
-/
import Derived.Lib.Hide
import Derived.Test.YtikmebkfdpbidaaGreatDoorWh
namespace Go.Proofs.YtikmebkfdpbidaaGreatDoor
open Go.RowKit
set_option linter.unusedVariables false
set_option linter.unusedSimpArgs false

set_option maxHeartbeats 2000000 in
set_option maxRecDepth 1000000 in
theorem Wt.Named_nul (w : World) : Calls Tryz.prog 163 #[.string ⟨#[110, 117, 108]⟩] w fun e w' => e = .returned (.int .i64 0) ∧ Below w.heap.size w w' := by
  have HB : Below w.heap.size w w := Below.refl _ _
  go_enter Tryz.func163, Tryz.ntmps163
  go_wp2
  refine wp_loop_rounds 13 ?_
  repeat any_goals (rw [rounds_succ]; go_wp2)
  all_goals
    go_ret
    exact ⟨rfl, ((Below.refl _ _).alloc (Nat.le_refl _) _).alloc (by simp) _⟩
set_option maxHeartbeats 2000000 in
set_option maxRecDepth 1000000 in
theorem Wt.Named_alarm (w : World) : Calls Tryz.prog 163 #[.string ⟨#[97, 108, 97, 114, 109]⟩] w fun e w' => e = .returned (.int .i64 7) ∧ Below w.heap.size w w' := by
  have HB : Below w.heap.size w w := Below.refl _ _
  go_enter Tryz.func163, Tryz.ntmps163
  go_wp2
  refine wp_loop_rounds 13 ?_
  repeat any_goals (rw [rounds_succ]; go_wp2)
  all_goals
    go_ret
    exact ⟨rfl, ((Below.refl _ _).alloc (Nat.le_refl _) _).alloc (by simp) _⟩
set_option maxHeartbeats 2000000 in
set_option maxRecDepth 1000000 in
theorem Wt.Named_backspace (w : World) : Calls Tryz.prog 163 #[.string ⟨#[98, 97, 99, 107, 115, 112, 97, 99, 101]⟩] w fun e w' => e = .returned (.int .i64 8) ∧ Below w.heap.size w w' := by
  have HB : Below w.heap.size w w := Below.refl _ _
  go_enter Tryz.func163, Tryz.ntmps163
  go_wp2
  refine wp_loop_rounds 13 ?_
  repeat any_goals (rw [rounds_succ]; go_wp2)
  all_goals
    go_ret
    exact ⟨rfl, ((Below.refl _ _).alloc (Nat.le_refl _) _).alloc (by simp) _⟩
set_option maxHeartbeats 2000000 in
set_option maxRecDepth 1000000 in
theorem Wt.Named_tab (w : World) : Calls Tryz.prog 163 #[.string ⟨#[116, 97, 98]⟩] w fun e w' => e = .returned (.int .i64 9) ∧ Below w.heap.size w w' := by
  have HB : Below w.heap.size w w := Below.refl _ _
  go_enter Tryz.func163, Tryz.ntmps163
  go_wp2
  refine wp_loop_rounds 13 ?_
  repeat any_goals (rw [rounds_succ]; go_wp2)
  all_goals
    go_ret
    exact ⟨rfl, ((Below.refl _ _).alloc (Nat.le_refl _) _).alloc (by simp) _⟩
set_option maxHeartbeats 2000000 in
set_option maxRecDepth 1000000 in
theorem Wt.Named_newline (w : World) : Calls Tryz.prog 163 #[.string ⟨#[110, 101, 119, 108, 105, 110, 101]⟩] w fun e w' => e = .returned (.int .i64 10) ∧ Below w.heap.size w w' := by
  have HB : Below w.heap.size w w := Below.refl _ _
  go_enter Tryz.func163, Tryz.ntmps163
  go_wp2
  refine wp_loop_rounds 13 ?_
  repeat any_goals (rw [rounds_succ]; go_wp2)
  all_goals
    go_ret
    exact ⟨rfl, ((Below.refl _ _).alloc (Nat.le_refl _) _).alloc (by simp) _⟩
set_option maxHeartbeats 2000000 in
set_option maxRecDepth 1000000 in
theorem Wt.Named_vtab (w : World) : Calls Tryz.prog 163 #[.string ⟨#[118, 116, 97, 98]⟩] w fun e w' => e = .returned (.int .i64 11) ∧ Below w.heap.size w w' := by
  have HB : Below w.heap.size w w := Below.refl _ _
  go_enter Tryz.func163, Tryz.ntmps163
  go_wp2
  refine wp_loop_rounds 13 ?_
  repeat any_goals (rw [rounds_succ]; go_wp2)
  all_goals
    go_ret
    exact ⟨rfl, ((Below.refl _ _).alloc (Nat.le_refl _) _).alloc (by simp) _⟩
set_option maxHeartbeats 2000000 in
set_option maxRecDepth 1000000 in
theorem Wt.Named_page (w : World) : Calls Tryz.prog 163 #[.string ⟨#[112, 97, 103, 101]⟩] w fun e w' => e = .returned (.int .i64 12) ∧ Below w.heap.size w w' := by
  have HB : Below w.heap.size w w := Below.refl _ _
  go_enter Tryz.func163, Tryz.ntmps163
  go_wp2
  refine wp_loop_rounds 13 ?_
  repeat any_goals (rw [rounds_succ]; go_wp2)
  all_goals
    go_ret
    exact ⟨rfl, ((Below.refl _ _).alloc (Nat.le_refl _) _).alloc (by simp) _⟩
set_option maxHeartbeats 2000000 in
set_option maxRecDepth 1000000 in
theorem Wt.Named_return (w : World) : Calls Tryz.prog 163 #[.string ⟨#[114, 101, 116, 117, 114, 110]⟩] w fun e w' => e = .returned (.int .i64 13) ∧ Below w.heap.size w w' := by
  have HB : Below w.heap.size w w := Below.refl _ _
  go_enter Tryz.func163, Tryz.ntmps163
  go_wp2
  refine wp_loop_rounds 13 ?_
  repeat any_goals (rw [rounds_succ]; go_wp2)
  all_goals
    go_ret
    exact ⟨rfl, ((Below.refl _ _).alloc (Nat.le_refl _) _).alloc (by simp) _⟩
set_option maxHeartbeats 2000000 in
set_option maxRecDepth 1000000 in
theorem Wt.Named_esc (w : World) : Calls Tryz.prog 163 #[.string ⟨#[101, 115, 99]⟩] w fun e w' => e = .returned (.int .i64 27) ∧ Below w.heap.size w w' := by
  have HB : Below w.heap.size w w := Below.refl _ _
  go_enter Tryz.func163, Tryz.ntmps163
  go_wp2
  refine wp_loop_rounds 13 ?_
  repeat any_goals (rw [rounds_succ]; go_wp2)
  all_goals
    go_ret
    exact ⟨rfl, ((Below.refl _ _).alloc (Nat.le_refl _) _).alloc (by simp) _⟩
set_option maxHeartbeats 2000000 in
set_option maxRecDepth 1000000 in
theorem Wt.Named_space (w : World) : Calls Tryz.prog 163 #[.string ⟨#[115, 112, 97, 99, 101]⟩] w fun e w' => e = .returned (.int .i64 32) ∧ Below w.heap.size w w' := by
  have HB : Below w.heap.size w w := Below.refl _ _
  go_enter Tryz.func163, Tryz.ntmps163
  go_wp2
  refine wp_loop_rounds 13 ?_
  repeat any_goals (rw [rounds_succ]; go_wp2)
  all_goals
    go_ret
    exact ⟨rfl, ((Below.refl _ _).alloc (Nat.le_refl _) _).alloc (by simp) _⟩
set_option maxHeartbeats 2000000 in
set_option maxRecDepth 1000000 in
theorem Wt.Named_delete (w : World) : Calls Tryz.prog 163 #[.string ⟨#[100, 101, 108, 101, 116, 101]⟩] w fun e w' => e = .returned (.int .i64 127) ∧ Below w.heap.size w w' := by
  have HB : Below w.heap.size w w := Below.refl _ _
  go_enter Tryz.func163, Tryz.ntmps163
  go_wp2
  refine wp_loop_rounds 13 ?_
  repeat any_goals (rw [rounds_succ]; go_wp2)
  all_goals
    go_ret
    exact ⟨rfl, ((Below.refl _ _).alloc (Nat.le_refl _) _).alloc (by simp) _⟩
end Go.Proofs.YtikmebkfdpbidaaGreatDoor
