/-
  An argument that is a datum, opened: eleven cells of the known kinds.
-/
import Derived.Test.YtmkadnlcfbbgfaaGreatDoorTbNil
import Derived.OpenShut
import Derived.WideShapes
import Derived.ChangeArms
import Derived.Lib.SmallJoins
namespace Go.Proofs.YtmkadnlcfbbgfaaGreatDoor
open Go.RowKit Go.ChangeShapes Go.WideShapes Go.ChangeAt Go.Joins
set_option linter.unusedVariables false

theorem Dt.array11 {α : Type} {cs : Array α} (h : cs.size = 11) : ∃ c0 c1 c2 c3 c4 c5 c6 c7 c8 c9 c10, cs = #[c0, c1, c2, c3, c4, c5, c6, c7, c8, c9, c10] := by
  obtain ⟨l⟩ := cs
  match l, h with
  | [c0, c1, c2, c3, c4, c5, c6, c7, c8, c9, c10], _ => exact ⟨c0, c1, c2, c3, c4, c5, c6, c7, c8, c9, c10, rfl⟩
theorem Dt.cellsD : Tryz.prog.cellsOf 30 = 11 := by kernel_rfl
theorem Dt.cellsN : Tryz.prog.cellsOf 26 = 6 := by kernel_rfl
theorem Dt.cellsR : Tryz.prog.cellsOf 24 = 3 := by kernel_rfl
theorem Dt.cellsI : Tryz.prog.cellsOf 3 = 1 := by kernel_rfl
theorem Dt.cellsB : Tryz.prog.cellsOf 4 = 1 := by kernel_rfl
theorem Dt.cellsS : Tryz.prog.cellsOf 9 = 1 := by kernel_rfl
theorem Dt.cells32 : Tryz.prog.cellsOf 22 = 1 := by kernel_rfl
theorem Dt.cells8 : Tryz.prog.cellsOf 27 = 1 := by kernel_rfl
theorem Dt.cellsL : Tryz.prog.cellsOf 28 = 1 := by kernel_rfl

theorem Dt.list2 {α : Type} {l : List α} (h : l.length = 2) : ∃ a b, l = [a, b] := by
  match l, h with
  | [a, b], _ => exact ⟨a, b, rfl⟩
theorem Dt.list3 {α : Type} {l : List α} (h : l.length = 3) : ∃ a b c, l = [a, b, c] := by
  match l, h with
  | [a, b, c], _ => exact ⟨a, b, c, rfl⟩
theorem Dt.list6 {α : Type} {l : List α} (h : l.length = 6) : ∃ a b c d e f, l = [a, b, c, d, e, f] := by
  match l, h with
  | [a, b, c, d, e, f], _ => exact ⟨a, b, c, d, e, f, rfl⟩
set_option maxRecDepth 100000 in
theorem Dt.rat_open {H : Type} {enc : TypeId × Value → H} {w : World} {base : Nat} {spare : Nat → Bool} {held : Bool} {fuel : Nat} {c0 c1 c2 : Value} {x : DataW H × List MemPlace} (h : DataW.trod enc Tryz.prog w base spare held fuel 24 [c0, c1, c2] = some x) :
    ∃ (b : Bool) (a1 a2 : Option Addr) (l1 l2 k1 k2 : Nat), c0 = .bool b ∧ c1 = .slice a1 l1 k1 ∧ c2 = .slice a2 l2 k2 := by
  obtain ⟨xs, n, _, _, _, hlen, hf⟩ := DataW.trod_struct Tryz.underlying24 h
  obtain ⟨y0, y1, y2, rfl⟩ := Dt.list3 hlen
  have h0 : DataW.trod enc Tryz.prog w base spare held n 4 (([c0, c1, c2].drop 0).take (Tryz.prog.cellsOf 4)) = some y0 := hf 0 _ rfl
  have h1 : DataW.trod enc Tryz.prog w base spare held n 22 (([c0, c1, c2].drop 1).take (Tryz.prog.cellsOf 22)) = some y1 := hf 1 _ rfl
  have h2 : DataW.trod enc Tryz.prog w base spare held n 22 (([c0, c1, c2].drop 2).take (Tryz.prog.cellsOf 22)) = some y2 := hf 2 _ rfl
  rw [Dt.cellsB] at h0
  rw [Dt.cells32] at h1 h2
  obtain ⟨b, e0, _⟩ := DataW.trod_bool Tryz.underlying4 h0
  obtain ⟨a1, l1, k1, e1⟩ := slice_form Tryz.underlying22 h1
  obtain ⟨a2, l2, k2, e2⟩ := slice_form Tryz.underlying22 h2
  simp only [List.drop_zero, List.take_succ_cons, List.take_zero, List.drop_succ_cons, List.cons.injEq, and_true] at e0 e1 e2
  exact ⟨b, a1, a2, l1, l2, k1, k2, e0, e1, e2⟩
set_option maxRecDepth 100000 in
theorem Dt.shaped_open {H : Type} {enc : TypeId × Value → H} {w : World} {base b0 : Nat} {r : Reach} {spare : Nat → Bool} {held : Bool} {v : Value} {d : DataW H} {p : List MemPlace} (hv : Value.okWide Tryz.prog w r b0 30 v) (h : DataW.Trod enc Tryz.prog w base spare held 30 v d p) : Dt.Shaped v := by
  obtain ⟨cs, rfl, hsz⟩ := okWide_struct Tryz.underlying30 hv
  obtain ⟨c0, c1, c2, c3, c4, c5, c6, c7, c8, c9, c10, rfl⟩ := Dt.array11 (hsz.trans Dt.cellsD)
  obtain ⟨fuel, hf0⟩ := h
  have hf1 : DataW.trod enc Tryz.prog w base spare held fuel 30 [c0, c1, c2, c3, c4, c5, c6, c7, c8, c9, c10] = some (d, p) := hf0
  obtain ⟨xs, n, _, _, _, hlen, hf⟩ := DataW.trod_struct Tryz.underlying30 hf1
  obtain ⟨y0, y1, y2, y3, y4, y5, rfl⟩ := Dt.list6 hlen
  have h0 : DataW.trod enc Tryz.prog w base spare held n 3 (([c0, c1, c2, c3, c4, c5, c6, c7, c8, c9, c10].drop 0).take (Tryz.prog.cellsOf 3)) = some y0 := hf 0 _ rfl
  have h1 : DataW.trod enc Tryz.prog w base spare held n 3 (([c0, c1, c2, c3, c4, c5, c6, c7, c8, c9, c10].drop 1).take (Tryz.prog.cellsOf 3)) = some y1 := hf 1 _ rfl
  have h2 : DataW.trod enc Tryz.prog w base spare held n 26 (([c0, c1, c2, c3, c4, c5, c6, c7, c8, c9, c10].drop 2).take (Tryz.prog.cellsOf 26)) = some y2 := hf 2 _ rfl
  have h3 : DataW.trod enc Tryz.prog w base spare held n 9 (([c0, c1, c2, c3, c4, c5, c6, c7, c8, c9, c10].drop 8).take (Tryz.prog.cellsOf 9)) = some y3 := hf 3 _ rfl
  have h4 : DataW.trod enc Tryz.prog w base spare held n 27 (([c0, c1, c2, c3, c4, c5, c6, c7, c8, c9, c10].drop 9).take (Tryz.prog.cellsOf 27)) = some y4 := hf 4 _ rfl
  have h5 : DataW.trod enc Tryz.prog w base spare held n 28 (([c0, c1, c2, c3, c4, c5, c6, c7, c8, c9, c10].drop 10).take (Tryz.prog.cellsOf 28)) = some y5 := hf 5 _ rfl
  clear hf hf0 hf1
  rw [Dt.cellsI] at h0 h1
  rw [Dt.cellsN] at h2
  rw [Dt.cellsS] at h3
  rw [Dt.cells8] at h4
  rw [Dt.cellsL] at h5
  obtain ⟨k, e0, _⟩ := DataW.trod_int Tryz.underlying3 h0
  obtain ⟨m, e1, _⟩ := DataW.trod_int Tryz.underlying3 h1
  obtain ⟨s, e3, _⟩ := DataW.trod_string Tryz.underlying9 h3
  obtain ⟨a5, l5, k5, e4⟩ := slice_form Tryz.underlying27 h4
  obtain ⟨a6, l6, k6, e5⟩ := slice_form Tryz.underlying28 h5
  have h2b : DataW.trod enc Tryz.prog w base spare held n 26 [c2, c3, c4, c5, c6, c7] = some y2 := h2
  obtain ⟨ys, n2, _, _, _, hlen2, hg⟩ := DataW.trod_struct Tryz.underlying26 h2b
  obtain ⟨z0, z1, rfl⟩ := Dt.list2 hlen2
  have g0 : DataW.trod enc Tryz.prog w base spare held n2 24 (([c2, c3, c4, c5, c6, c7].drop 0).take (Tryz.prog.cellsOf 24)) = some z0 := hg 0 _ rfl
  have g1 : DataW.trod enc Tryz.prog w base spare held n2 24 (([c2, c3, c4, c5, c6, c7].drop 3).take (Tryz.prog.cellsOf 24)) = some z1 := hg 1 _ rfl
  rw [Dt.cellsR] at g0 g1
  obtain ⟨b1, a1, a2, l1, l2, k1, k2, rfl, rfl, rfl⟩ := Dt.rat_open (show DataW.trod enc Tryz.prog w base spare held n2 24 [c2, c3, c4] = some z0 from g0)
  obtain ⟨b2, a3, a4, l3, l4, k3, k4, rfl, rfl, rfl⟩ := Dt.rat_open (show DataW.trod enc Tryz.prog w base spare held n2 24 [c5, c6, c7] = some z1 from g1)
  simp only [List.drop_zero, List.take_succ_cons, List.take_zero, List.drop_succ_cons, List.cons.injEq, and_true] at e0 e1 e3 e4 e5
  subst e0 e1 e3 e4 e5
  exact ⟨k, m, b1, b2, a1, a2, a3, a4, a5, a6, l1, l2, l3, l4, l5, l6, k1, k2, k3, k4, k5, k6, s, rfl⟩
end Go.Proofs.YtmkadnlcfbbgfaaGreatDoor
