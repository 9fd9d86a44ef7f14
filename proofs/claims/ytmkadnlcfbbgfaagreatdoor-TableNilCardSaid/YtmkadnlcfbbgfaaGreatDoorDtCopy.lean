/-
  datum.Copy of a leaf.
-/
import Derived.Test.YtmkadnlcfbbgfaaGreatDoorDtStore
namespace Go.Proofs.YtmkadnlcfbbgfaaGreatDoor
open Go.RowKit
set_option linter.unusedVariables false

theorem Dt.below4 (w : World) (o1 o2 o3 o4 : Obj) : Below w.heap.size w ((((w.alloc o1).alloc o2).alloc o3).alloc o4) :=
  ((((Below.refl _ _).alloc (Nat.le_refl _) _).alloc (by simp) _).alloc (by simp; omega) _).alloc (by simp; omega) _
set_option maxHeartbeats 4000000 in
set_option maxRecDepth 1000000 in
theorem Dt.Copy_leaf (k : Int) (s : ByteArray) (lst : Value) (hk : Dt.kindOk k s) (hl : ∃ ad cap, lst = .slice ad 0 cap) (w : World) :
    Calls Tryz.prog 13 #[Dt.leaf k s lst] w fun e w' => (∃ ad cap, e = .returned (Dt.leaf k s (.slice ad 0 cap))) ∧ Below w.heap.size w w' := by
  have h3 : (k == 3) = false := by
    rcases hk with ⟨rfl, _⟩ | ⟨rfl, _⟩ | rfl | rfl <;> rfl
  have h8 : (k == 8) = false := by
    rcases hk with ⟨rfl, _⟩ | ⟨rfl, _⟩ | rfl | rfl <;> rfl
  have h3b : ¬ (k = 3) := by
    rcases hk with ⟨rfl, _⟩ | ⟨rfl, _⟩ | rfl | rfl <;> decide
  have h8b : ¬ (k = 8) := by
    rcases hk with ⟨rfl, _⟩ | ⟨rfl, _⟩ | rfl | rfl <;> decide
  obtain ⟨ad, cap, rfl⟩ := hl
  have hmk : ∀ w : World, (Instr.makeSlice 28 (.int .i64 0) (.int .i64 0)).run Tryz.prog w = .ok (.slice (some ⟨w.heap.size, 0, none⟩) 0 0) (w.alloc (.cells #[] 30)) := fun w => by kernel_rfl
  unfold Dt.leaf Dt.cells
  go_enter Tryz.func13, Tryz.ntmps13
  go_wp2_with fail
  go_loopw [4] (fun i wr => i = .pointer (some ⟨w.heap.size + 2, 0, none⟩) ∧ wr = ((w.alloc (.cells #[.int .i64 k, .int .i64 0, .bool false, .slice none 0 0, .slice none 0 0, .bool false, .slice none 0 0, .slice none 0 0, .string s, .slice none 0 0, .slice ad 0 cap] 30)).alloc (.cells #[.int .i64 0, .int .i64 0, .bool false, .slice none 0 0, .slice none 0 0, .bool false, .slice none 0 0, .slice none 0 0, .string ⟨#[]⟩, .slice none 0 0, .slice none 0 0] 30)).alloc (.cells #[.int .i64 k, .int .i64 0, .bool false, .slice none 0 0, .slice none 0 0, .bool false, .slice none 0 0, .slice none 0 0, .string s, .slice none 0 0, .slice ad 0 cap] 30)) (fun _ _ => 0)
  case atStart => exact ⟨rfl, rfl⟩
  case round =>
    obtain ⟨rfl, rfl⟩ := hrel
    go_wp2_with fail
    go_loopw [50] (fun i wr => i = .int .i64 0 ∧ wr = (((w.alloc (.cells #[.int .i64 k, .int .i64 0, .bool false, .slice none 0 0, .slice none 0 0, .bool false, .slice none 0 0, .slice none 0 0, .string s, .slice none 0 0, .slice ad 0 cap] 30)).alloc (.cells #[.int .i64 0, .int .i64 0, .bool false, .slice none 0 0, .slice none 0 0, .bool false, .slice none 0 0, .slice none 0 0, .string ⟨#[]⟩, .slice none 0 0, .slice none 0 0] 30)).alloc (.cells #[.int .i64 k, .int .i64 0, .bool false, .slice none 0 0, .slice none 0 0, .bool false, .slice none 0 0, .slice none 0 0, .string s, .slice none 0 0, .slice ad 0 cap] 30)).alloc (.cells #[] 30)) (fun _ _ => 0)
    case atStart => exact ⟨rfl, rfl⟩
    case round =>
      obtain ⟨rfl, rfl⟩ := hrel
      go_wp2_with fail
      refine bodyPost_ret (v := .agg #[.int .i64 k, .int .i64 0, .bool false, .slice none 0 0, .slice none 0 0, .bool false, .slice none 0 0, .slice none 0 0, .string s, .slice none 0 0, .slice (some ⟨w.heap.size + 1 + 1 + 1, 0, none⟩) 0 0]) ?_ rfl ⟨⟨_, _, rfl⟩, ?_⟩
      · simp [results, Tryz.results13, go_sem]
      · exact Dt.below4 _ _ _ _ _
end Go.Proofs.YtmkadnlcfbbgfaaGreatDoor
