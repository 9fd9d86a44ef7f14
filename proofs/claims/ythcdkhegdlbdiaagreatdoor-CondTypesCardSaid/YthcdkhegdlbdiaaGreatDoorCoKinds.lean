/-
  The types of conditions: cond.kinds, find, under, Under, Name, Parent. No condition.
-/
import Derived.Test.YthcdkhegdlbdiaaGreatDoorProg
import Derived.WalkKit
import Derived.WalkSpells
import Derived.WalkLawsBesides
import Derived.Handy
import Derived.BigCall
import Derived.Lib.Hide
import Derived.Outline
namespace Go.Proofs.YthcdkhegdlbdiaaGreatDoor
open Go.RowKit
set_option linter.unusedVariables false

/-- The table of the types, as the program lays it: name, parent, own fields. -/
def Co.table : List (ByteArray × Int × Int) := [(⟨#[99, 111, 110, 100, 105, 116, 105, 111, 110]⟩, -1, 0), (⟨#[109, 101, 115, 115, 97, 103, 101]⟩, 0, 1), (⟨#[119, 97, 114, 110, 105, 110, 103]⟩, 0, 0), (⟨#[115, 101, 114, 105, 111, 117, 115]⟩, 0, 0), (⟨#[101, 114, 114, 111, 114]⟩, 3, 0), (⟨#[118, 105, 111, 108, 97, 116, 105, 111, 110]⟩, 3, 0), (⟨#[97, 115, 115, 101, 114, 116, 105, 111, 110]⟩, 5, 0), (⟨#[105, 114, 114, 105, 116, 97, 110, 116, 115]⟩, 0, 1), (⟨#[119, 104, 111]⟩, 0, 1), (⟨#[110, 111, 110, 45, 99, 111, 110, 116, 105, 110, 117, 97, 98, 108, 101]⟩, 5, 0), (⟨#[105, 109, 112, 108, 101, 109, 101, 110, 116, 97, 116, 105, 111, 110, 45, 114, 101, 115, 116, 114, 105, 99, 116, 105, 111, 110]⟩, 5, 0), (⟨#[108, 101, 120, 105, 99, 97, 108]⟩, 5, 0), (⟨#[115, 121, 110, 116, 97, 120]⟩, 5, 2), (⟨#[117, 110, 100, 101, 102, 105, 110, 101, 100]⟩, 5, 0), (⟨#[105, 47, 111]⟩, 4, 0), (⟨#[105, 47, 111, 45, 114, 101, 97, 100]⟩, 14, 0), (⟨#[105, 47, 111, 45, 119, 114, 105, 116, 101]⟩, 14, 0), (⟨#[105, 47, 111, 45, 102, 105, 108, 101, 110, 97, 109, 101]⟩, 14, 1), (⟨#[105, 47, 111, 45, 102, 105, 108, 101, 45, 100, 111, 101, 115, 45, 110, 111, 116, 45, 101, 120, 105, 115, 116]⟩, 17, 0), (⟨#[105, 47, 111, 45, 102, 105, 108, 101, 45, 97, 108, 114, 101, 97, 100, 121, 45, 101, 120, 105, 115, 116, 115]⟩, 17, 0)]
def Co.nm (k : Nat) : ByteArray := (Co.table.getD k (.empty, 0, 0)).1
def Co.par (k : Nat) : Int := (Co.table.getD k (.empty, 0, 0)).2.1
def Co.fld (k : Nat) : Int := (Co.table.getD k (.empty, 0, 0)).2.2
def Co.cells : Array Value := #[.string ⟨#[99, 111, 110, 100, 105, 116, 105, 111, 110]⟩, .int .i64 (-1), .int .i64 0, .string ⟨#[109, 101, 115, 115, 97, 103, 101]⟩, .int .i64 0, .int .i64 1, .string ⟨#[119, 97, 114, 110, 105, 110, 103]⟩, .int .i64 0, .int .i64 0, .string ⟨#[115, 101, 114, 105, 111, 117, 115]⟩, .int .i64 0, .int .i64 0, .string ⟨#[101, 114, 114, 111, 114]⟩, .int .i64 3, .int .i64 0, .string ⟨#[118, 105, 111, 108, 97, 116, 105, 111, 110]⟩, .int .i64 3, .int .i64 0, .string ⟨#[97, 115, 115, 101, 114, 116, 105, 111, 110]⟩, .int .i64 5, .int .i64 0, .string ⟨#[105, 114, 114, 105, 116, 97, 110, 116, 115]⟩, .int .i64 0, .int .i64 1, .string ⟨#[119, 104, 111]⟩, .int .i64 0, .int .i64 1, .string ⟨#[110, 111, 110, 45, 99, 111, 110, 116, 105, 110, 117, 97, 98, 108, 101]⟩, .int .i64 5, .int .i64 0, .string ⟨#[105, 109, 112, 108, 101, 109, 101, 110, 116, 97, 116, 105, 111, 110, 45, 114, 101, 115, 116, 114, 105, 99, 116, 105, 111, 110]⟩, .int .i64 5, .int .i64 0, .string ⟨#[108, 101, 120, 105, 99, 97, 108]⟩, .int .i64 5, .int .i64 0, .string ⟨#[115, 121, 110, 116, 97, 120]⟩, .int .i64 5, .int .i64 2, .string ⟨#[117, 110, 100, 101, 102, 105, 110, 101, 100]⟩, .int .i64 5, .int .i64 0, .string ⟨#[105, 47, 111]⟩, .int .i64 4, .int .i64 0, .string ⟨#[105, 47, 111, 45, 114, 101, 97, 100]⟩, .int .i64 14, .int .i64 0, .string ⟨#[105, 47, 111, 45, 119, 114, 105, 116, 101]⟩, .int .i64 14, .int .i64 0, .string ⟨#[105, 47, 111, 45, 102, 105, 108, 101, 110, 97, 109, 101]⟩, .int .i64 14, .int .i64 1, .string ⟨#[105, 47, 111, 45, 102, 105, 108, 101, 45, 100, 111, 101, 115, 45, 110, 111, 116, 45, 101, 120, 105, 115, 116]⟩, .int .i64 17, .int .i64 0, .string ⟨#[105, 47, 111, 45, 102, 105, 108, 101, 45, 97, 108, 114, 101, 97, 100, 121, 45, 101, 120, 105, 115, 116, 115]⟩, .int .i64 17, .int .i64 0]
theorem Co.cells_at : ∀ k, k < 20 → Co.cells[k * 3]? = some (.string (Co.nm k)) ∧ Co.cells[k * 3 + 1]? = some (.int .i64 (Co.par k)) ∧ Co.cells[k * 3 + 2]? = some (.int .i64 (Co.fld k)) := by
  intro k hk
  rcases (show k = 0 ∨ k = 1 ∨ k = 2 ∨ k = 3 ∨ k = 4 ∨ k = 5 ∨ k = 6 ∨ k = 7 ∨ k = 8 ∨ k = 9 ∨ k = 10 ∨ k = 11 ∨ k = 12 ∨ k = 13 ∨ k = 14 ∨ k = 15 ∨ k = 16 ∨ k = 17 ∨ k = 18 ∨ k = 19 by omega) with rfl | rfl | rfl | rfl | rfl | rfl | rfl | rfl | rfl | rfl | rfl | rfl | rfl | rfl | rfl | rfl | rfl | rfl | rfl | rfl
  all_goals exact ⟨rfl, rfl, rfl⟩

set_option maxHeartbeats 4000000 in
set_option maxRecDepth 1000000 in
theorem Co.kinds_any (w : World) : Calls Tryz.prog 16 #[] w fun e w' => e = .returned (.slice (some ⟨w.heap.size, 0, none⟩) 20 20) ∧ w'.heap[w.heap.size]? = some (.cells Co.cells 35 (0, 0)) ∧ Below w.heap.size w w' := by
  go_enter Tryz.func16, Tryz.ntmps16
  go_wp2
  go_ret
  refine ⟨rfl, ?_, (Below.refl _ _).alloc (Nat.le_refl _) _⟩
  exact heap_alloc_new _ _
end Go.Proofs.YthcdkhegdlbdiaaGreatDoor
