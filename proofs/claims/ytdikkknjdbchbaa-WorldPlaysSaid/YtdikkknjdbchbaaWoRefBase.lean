/-
  Small things for the reference's walks.
-/
import Derived.Test.YtdikkknjdbchbaaWoFresh
namespace Go.Proofs.Ytdikkknjdbchbaa
open Go.RowKit
set_option linter.unusedVariables false

/-- A world that fits into memory when it is copied. -/
def Wo.Fit (W : Wo.W) : Prop := W.1.length * 40 ≤ 140737488355328 ∧ W.2.1.size ≤ 140737488351232 ∧ W.2.2.size ≤ 140737488351232 ∧ ∀ k, k < W.1.length → (W.1.getD k Wo.e0).2.size ≤ 140737488351232

theorem Wo.own_at {w : World} {B b : Nat} (h : w.heap[b]? = some (.cells #[] 5 (0, 0))) (hB : B ≤ b) : w.ownsRow B 5 1 (.slice (some ⟨b, 0, none⟩) 0 0) 0 [] := ⟨rfl, .inr ⟨b, 0, #[], rfl, hB, h, Nat.le_refl _, Nat.zero_le _, rfl, rfl⟩⟩
theorem Wo.grown_at {w w' : World} {g b : Nat} {C : Array Value} {t : TypeId} (hg : w.grownBy w' (some g)) (h : w.heap[b]? = some (.cells C t (0, 0))) (hne : b ≠ g) : w'.heap[b]? = some (.cells C t (0, 0)) :=
  (hg.block b (Array.getElem?_eq_some_iff.1 h).1 (by simpa using hne)).trans h
theorem Wo.belowA {w0 w : World} (h : Below w0.heap.size w0 w) (o : Obj) : Below w0.heap.size w0 (w.alloc o) := h.alloc h.size o
theorem Wo.belowD {w0 w : World} (h : Below w0.heap.size w0 w) : Below w0.heap.size w0 w.drew := h.drew
theorem Wo.drew_at {w : World} {b : Nat} {x : Obj} (h : w.heap[b]? = some x) : w.drew.heap[b]? = some x := h
theorem Wo.szA (w : World) (o : Obj) : (w.alloc o).heap.size = w.heap.size + 1 := by simp
theorem Wo.szD (w : World) : w.drew.heap.size = w.heap.size := rfl
theorem Wo.viaBox {p q : Prop} (h : p) (k : p → q) : q := k h
theorem Wo.belowT {w0 w w2 : World} (h : Below w0.heap.size w0 w) (h2 : Below w.heap.size w w2) : Below w0.heap.size w0 w2 := h.trans (h2.mono h.size)

end Go.Proofs.Ytdikkknjdbchbaa
