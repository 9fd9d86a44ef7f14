/-
  The list of files that sextantref07.Put builds, beside a box of its own that holds the file that is put.
-/
import Derived.Test.YtdikkknjdbchbaaWoRefDelete
import Derived.Maps.AppendAt
namespace Go.Proofs.Ytdikkknjdbchbaa
open Go.RowKit
set_option linter.unusedVariables false
set_option linter.unusedSimpArgs false

/-- The list 'acc', in a row that the call owns; the box F0 with the file; all that was there before in w0. -/
def Wo.Lst (w0 w : World) (F0 : Nat) (v : Value) (acc : List (Wo.F × Value)) (f : Wo.F) (vd : Value) : Prop :=
  Wo.Own w w0.heap.size v acc ∧ v.ownBlock ≠ some F0 ∧ w.heap[F0]? = some (.cells #[.string f.1, vd] 53 (0, 0)) ∧ Wo.InU w vd f.2 ∧ Below w0.heap.size w0 w

theorem Wo.Lst.below {w0 w w' : World} {F0 : Nat} {v : Value} {acc : List (Wo.F × Value)} {f : Wo.F} {vd : Value} (h : Wo.Lst w0 w F0 v acc f vd) (hb : Below w.heap.size w w') : Wo.Lst w0 w' F0 v acc f vd :=
  ⟨h.1.below hb (Nat.le_refl _), h.2.1, (hb.block F0 (Array.getElem?_eq_some_iff.1 h.2.2.1).1).trans h.2.2.1, h.2.2.2.1.below hb (Nat.le_refl _), Wo.belowT h.2.2.2.2 hb⟩
theorem Wo.Lst.more {w0 w w9 : World} {F0 : Nat} {v v9 vx : Value} {acc : List (Wo.F × Value)} {f x : Wo.F} {vd : Value} (h : Wo.Lst w0 w F0 v acc f vd) (hx : Wo.InU w vx x.2)
    (hown : w9.ownsRow w0.heap.size 53 2 v9 (acc.length + 1) (Wo.cellsG acc ++ [.string x.1, vx])) (hg : w.grownBy w9 v.ownBlock) (hat : v9.ownBlock = v.ownBlock ∨ v9.ownBlock = some w.heap.size) :
    Wo.Lst w0 w9 F0 v9 (acc ++ [(x, vx)]) f vd := by
  obtain ⟨h1, h2, h3, h4, h5⟩ := h
  have hlt := (Array.getElem?_eq_some_iff.1 h3).1
  have hgr := Wo.Own.grow h1 hx hown hg
  refine ⟨hgr.1, ?_, (hg.block F0 hlt (fun e => h2 e.symm)).trans h3, hgr.2.2 _ _ h4, h5.grown hg h5.size (fun q hq => h1.row_ge q hq)⟩
  rcases hat with e | e
  · rw [e]; exact h2
  · rw [e]
    intro e2
    simp only [Option.some.injEq] at e2
    omega
/-- The list when it is empty and the box is there. -/
theorem Wo.Lst.start {w0 w : World} {b F0 : Nat} {f : Wo.F} {vd : Value} (hb : w.heap[b]? = some (.cells #[] 53 (0, 0))) (hb0 : w0.heap.size ≤ b) (hne : b ≠ F0) (hF : w.heap[F0]? = some (.cells #[.string f.1, vd] 53 (0, 0))) (hd : Wo.InU w vd f.2) (hB : Below w0.heap.size w0 w) :
    Wo.Lst w0 w F0 (.slice (some ⟨b, 0, none⟩) 0 0) [] f vd :=
  ⟨⟨⟨rfl, .inr ⟨b, 0, #[], rfl, hb0, hb, Nat.le_refl _, Nat.zero_le _, rfl, rfl⟩⟩, fun x hx => by cases hx⟩, by simp only [Value.ownBlock, ne_eq, Option.some.injEq]; exact hne, hF, hd, hB⟩
theorem Wo.Lst.cells {w0 w : World} {F0 : Nat} {v : Value} {acc : List (Wo.F × Value)} {f : Wo.F} {vd : Value} (h : Wo.Lst w0 w F0 v acc f vd) : w.cell? ⟨F0, 0, none⟩ = some (.string f.1) ∧ w.cell? ⟨F0, 1, none⟩ = some vd := ⟨Dt.cell_of h.2.2.1 0, Dt.cell_of h.2.2.1 1⟩
theorem Wo.Lst.size {w0 w : World} {F0 : Nat} {v : Value} {acc : List (Wo.F × Value)} {f : Wo.F} {vd : Value} (h : Wo.Lst w0 w F0 v acc f vd) : w0.heap.size ≤ w.heap.size := h.2.2.2.2.size
/-- One element of a row of files. -/
theorem Wo.Row.cell {w : World} {v : Value} {g : List (Wo.F × Value)} (h : Wo.Row w v g) (k : Nat) (hk : k < g.length) : ∃ b off cap, v = .slice (some ⟨b, off, none⟩) g.length cap ∧ g.length ≤ cap ∧ w.cell? ⟨b, off + k * 2, none⟩ = some (.string g[k].1.1) ∧ w.cell? ⟨b, off + k * 2 + 1, none⟩ = some g[k].2 ∧ Wo.InU w g[k].2 g[k].1.2 := by
  obtain ⟨ad, cap, hv, h1, h2⟩ := h
  obtain ⟨b, off, rfl, hc, hl, hcell⟩ := h1 (by omega)
  obtain ⟨c0, c1⟩ := hcell k _ (List.getElem?_eq_getElem hk)
  exact ⟨b, off, cap, hv, hc, c0, c1, h2 _ (List.getElem_mem hk)⟩

theorem Wo.insStep_put {α : Type} (p : α → Bool) (f : α) (acc : List α) (x : α) (h : p x = true) : Wo.insStep p f (acc, false) x = (acc ++ [f] ++ [x], true) := by simp [Wo.insStep, h]
theorem Wo.insStep_not {α : Type} (p : α → Bool) (f : α) (acc : List α) (x : α) (h : p x = false) : Wo.insStep p f (acc, false) x = (acc ++ [x], false) := by simp [Wo.insStep, h]
theorem Wo.insStep_done {α : Type} (p : α → Bool) (f : α) (acc : List α) (x : α) : Wo.insStep p f (acc, true) x = (acc ++ [x], true) := by simp [Wo.insStep]
theorem Wo.fold_take {α β : Type} (s : β → α → β) (l : List α) (a : β) (k : Nat) (hk : k < l.length) : (l.take (k + 1)).foldl s a = s ((l.take k).foldl s a) l[k] := by
  rw [List.take_add_one, List.getElem?_eq_getElem hk, List.foldl_append]
  rfl
theorem Wo.insStep_len {α : Type} (p : α → Bool) (f : α) (a : List α × Bool) (x : α) : (Wo.insStep p f a x).1.length + (if (Wo.insStep p f a x).2 = true then 0 else 1) ≤ a.1.length + (if a.2 = true then 0 else 1) + 1 := by
  unfold Wo.insStep
  obtain ⟨l, b⟩ := a
  cases b <;> cases h : p x <;> simp [h]
theorem Wo.fold_len {α : Type} (p : α → Bool) (f : α) : ∀ (l : List α) (a : List α × Bool), (l.foldl (Wo.insStep p f) a).1.length ≤ a.1.length + (if a.2 = true then 0 else 1) + l.length
  | [], a => by simp
  | x :: l, a => by
    have h1 := Wo.insStep_len p f a x
    have h2 := Wo.fold_len p f l (Wo.insStep p f a x)
    rw [List.foldl_cons, List.length_cons]
    omega
end Go.Proofs.Ytdikkknjdbchbaa
