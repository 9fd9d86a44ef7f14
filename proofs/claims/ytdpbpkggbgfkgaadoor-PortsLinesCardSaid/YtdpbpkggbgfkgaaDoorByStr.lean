/-
  '[]byte(s)' of a text, in plain Lean over worlds.
-/
import Derived.Test.YtdpbpkggbgfkgaaDoorBy
import Derived.Laws.IdiomStrings
namespace Go.Proofs.YtdpbpkggbgfkgaaDoor
open Go.RowKit
set_option linter.unusedVariables false

theorem By.byt_data (s : ByteArray) (j : Nat) (h : j < s.data.size) : Cd.byt s j = (s.data[j].toNat : Int) := by
  unfold Cd.byt
  have : s.get! j = s.data[j] := by
    exact getElem!_pos s.data j h
  rw [this]
theorem By.In.drew {w : World} {v : Value} {s : ByteArray} (h : By.In w v s) : By.In w.drew v s := h
/-- The row that the conversion lays can be read as the text's bytes. -/
theorem By.In.of_string (w : World) (t : TypeId) (s : ByteArray) (cap : Nat) (fr : Nat × Nat) (hcap : s.size ≤ cap) : By.In (w.alloc (.cells (bytesRow s cap) t fr)) (.slice (some ⟨w.heap.size, 0, none⟩) s.size cap) s := by
  rcases Nat.eq_zero_or_pos s.size with h0 | h0
  · exact .inr (.inl ⟨_, _, by rw [h0], h0⟩)
  · refine .inr (.inr ⟨h0, w.heap.size, 0, cap, rfl, hcap, by simp, fun j hj => ?_⟩)
    rw [Nat.zero_add, World.cell?_alloc_mark, bytesRow_at s cap j hj, By.byt_data s j hj]
end Go.Proofs.YtdpbpkggbgfkgaaDoor
