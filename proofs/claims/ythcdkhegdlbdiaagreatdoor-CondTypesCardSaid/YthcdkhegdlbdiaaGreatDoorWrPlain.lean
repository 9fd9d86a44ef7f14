/-
  write.Display of a text or a symbol that is short and plain.
-/
import Derived.Test.YthcdkhegdlbdiaaGreatDoorWrBuild
import Derived.Test.YthcdkhegdlbdiaaGreatDoorDtStore
namespace Go.Proofs.YthcdkhegdlbdiaaGreatDoor
open Go.RowKit
set_option linter.unusedVariables false

theorem Wr.strCells_eq (l : List UInt8) : Lib.strCells ⟨l.toArray⟩ = Lib.byteCells l := by
  simp [Lib.strCells, Lib.byteCells]

set_option maxHeartbeats 4000000 in
set_option maxRecDepth 1000000 in
theorem Wr.text_plain (B b : Nat) (l : List UInt8) (hl : l.length ≤ 1000) (w : World) (h : Wr.At B b (.pointer none) false [] w) (hBw : B ≤ w.heap.size) :
    Calls Tryz.prog 56 #[.pointer (some ⟨b, 0, none⟩), .string ⟨l.toArray⟩] w fun e w' => e = .returned (.tuple #[]) ∧ Wr.At B b (.pointer (some ⟨b, 0, none⟩)) false (Lib.byteCells l) w' ∧ Below B w w' := by
  have KW := Lib.hid (Wr.writeString B b false [] ⟨l.toArray⟩ w (.inl h) (by show 0 + l.length ≤ _; omega) hBw)
  rw [List.nil_append, Wr.strCells_eq] at KW
  obtain ⟨c0, c2, z0, _⟩ := h.cells
  clear h
  go_enter Tryz.func56, Tryz.ntmps56
  go_wp2_with fail
  refine KW.out.mono ?_
  rintro x w1 ⟨rfl, hA, hb⟩
  have HA := Lib.hid hA
  have HB := Lib.hid hb
  clear hA hb KW
  go_wp2_with fail
  first | go_end0 | refine bodyPost_ret (results_none rfl _ _ _) rfl ?_
  exact ⟨rfl, HA.out, HB.out⟩
set_option maxHeartbeats 4000000 in
set_option maxRecDepth 1000000 in
theorem Wr.symbol_plain (B b : Nat) (l : List UInt8) (hl : l.length ≤ 1000) (w : World) (h : Wr.At B b (.pointer none) false [] w) (hBw : B ≤ w.heap.size) :
    Calls Tryz.prog 57 #[.pointer (some ⟨b, 0, none⟩), .string ⟨l.toArray⟩] w fun e w' => e = .returned (.tuple #[]) ∧ Wr.At B b (.pointer (some ⟨b, 0, none⟩)) false (Lib.byteCells l) w' ∧ Below B w w' := by
  have KW := Lib.hid (Wr.writeString B b false [] ⟨l.toArray⟩ w (.inl h) (by show 0 + l.length ≤ _; omega) hBw)
  rw [List.nil_append, Wr.strCells_eq] at KW
  obtain ⟨c0, c2, z0, _⟩ := h.cells
  clear h
  go_enter Tryz.func57, Tryz.ntmps57
  go_wp2_with fail
  refine KW.out.mono ?_
  rintro x w1 ⟨rfl, hA, hb⟩
  have HA := Lib.hid hA
  have HB := Lib.hid hb
  clear hA hb KW
  go_wp2_with fail
  first | go_end0 | refine bodyPost_ret (results_none rfl _ _ _) rfl ?_
  exact ⟨rfl, HA.out, HB.out⟩
theorem Wr.At.alloc {B b : Nat} {p : Value} {m : Bool} {bs : List Value} {w : World} (h : Wr.At B b p m bs w) (o : Obj) : Wr.At B b p m bs (w.alloc o) := by
  obtain ⟨hB, v, hb, hown, hne⟩ := h
  have hlt : b < w.heap.size := (Array.getElem?_eq_some_iff.1 hb).1
  exact ⟨hB, v, (Lib.alloc_old w o b hlt).trans hb, hown.kept (World.grownBy_alloc w o none) (by cases hv : v.ownBlock <;> simp), hne⟩
set_option maxHeartbeats 4000000 in
set_option maxRecDepth 1000000 in
theorem Wr.datum_plain (B b : Nat) (k : Int) (hk : k = 5 ∨ k = 6) (l : List UInt8) (hl : l.length ≤ 1000) (lst : Value) (hlst : ∃ ad cap, lst = .slice ad 0 cap) (w : World) (h : Wr.At B b (.pointer none) false [] w) (hBw : B ≤ w.heap.size) :
    Calls Tryz.prog 39 #[.pointer (some ⟨b, 0, none⟩), Dt.leaf k ⟨l.toArray⟩ lst] w fun e w' => e = .returned (.tuple #[]) ∧ Wr.At B b (.pointer (some ⟨b, 0, none⟩)) false (Lib.byteCells l) w' ∧ Below B w w' := by
  have hA := fun o => h.alloc o
  have hb0 : ∀ o, Below B w (w.alloc o) := fun o => (Below.refl _ _).alloc hBw _
  have hz : ∀ o, B ≤ (w.alloc o).heap.size := fun o => (hb0 o).size |> Nat.le_trans hBw
  obtain ⟨ad, cap, rfl⟩ := hlst
  have KT := fun o => Wr.text_plain B b l hl (w.alloc o) (hA o) (hz o)
  have KS := fun o => Wr.symbol_plain B b l hl (w.alloc o) (hA o) (hz o)
  clear h hA
  rcases hk with rfl | rfl
  · unfold Dt.leaf Dt.cells
    go_enter Tryz.func39, Tryz.ntmps39
    go_wp2_with fail
    refine (KT _).mono ?_
    rintro x w1 ⟨rfl, hA, hb⟩
    have HA := Lib.hid hA
    have HB := Lib.hid ((hb0 _).trans hb)
    clear hA hb KT KS
    go_wp2_with fail
    first | go_end0 | refine bodyPost_ret (results_none rfl _ _ _) rfl ?_
    exact ⟨rfl, HA.out, HB.out⟩
  · unfold Dt.leaf Dt.cells
    go_enter Tryz.func39, Tryz.ntmps39
    go_wp2_with fail
    refine (KS _).mono ?_
    rintro x w1 ⟨rfl, hA, hb⟩
    have HA := Lib.hid hA
    have HB := Lib.hid ((hb0 _).trans hb)
    clear hA hb KT KS
    go_wp2_with fail
    first | go_end0 | refine bodyPost_ret (results_none rfl _ _ _) rfl ?_
    exact ⟨rfl, HA.out, HB.out⟩
set_option maxHeartbeats 4000000 in
set_option maxRecDepth 1000000 in
theorem Wr.display_plain (k : Int) (hk : k = 5 ∨ k = 6) (l : List UInt8) (h0 : l ≠ []) (hl : l.length ≤ 1000) (lst : Value) (hlst : ∃ ad cap, lst = .slice ad 0 cap) (hV : Dt.valid ⟨l.toArray⟩) (w : World) :
    Calls Tryz.prog 31 #[Dt.leaf k ⟨l.toArray⟩ lst, .bool false] w fun e w' => e = .returned (.tuple #[.string ⟨l.toArray⟩, .int .i64 0]) ∧ Below w.heap.size w w' := by
  have KS := Lib.hid (fun w => Dt.Sound_leaf k ⟨l.toArray⟩ lst (hk.elim (fun h => .inr (.inr (.inl h))) (fun h => .inr (.inr (.inr h)))) hlst hV w)
  have KD := Lib.hid (fun (B b : Nat) (w : World) h hb => Wr.datum_plain B b k hk l hl lst hlst w h hb)
  have KG := Lib.hid (fun (B b : Nat) (w : World) h => Wr.string B b false l (.pointer (some ⟨b, 0, none⟩)) w h h0)
  obtain ⟨ad, cap, rfl⟩ := hlst
  have hq0 : ∀ o, (w.alloc o).heap[w.heap.size]? = some o := fun o => heap_alloc_new w o
  have hb0 : ∀ o, Below w.heap.size w (w.alloc o) := fun o => (Below.refl _ _).alloc (Nat.le_refl _) _
  have hsz : ∀ o, (w.alloc o).heap.size = w.heap.size + 1 := by intro o; simp
  unfold Dt.leaf Dt.cells at *
  go_enter Tryz.func31, Tryz.ntmps31
  go_wp2_with fail
  refine (KS.out _).mono ?_
  rintro x w1 ⟨rfl, hb1⟩
  have q1 := (hb1.block w.heap.size (by rw [hsz]; omega)).trans (hq0 _)
  have HB1 := Lib.hid ((hb0 _).trans (hb1.mono (by rw [hsz]; omega)))
  have hz1 : w.heap.size < w1.heap.size := (Array.getElem?_eq_some_iff.1 q1).1
  obtain ⟨c0, c1, c2, c3, c4, c5, c6, c7, c8, c9, c10⟩ := Dt.cells11 q1
  clear hb1 q1 hq0 hb0 hsz KS
  have hA : Wr.At w1.heap.size w1.heap.size (.pointer none) false [] (w1.alloc (.cells #[.pointer none, .slice none 0 0, .bool false] 88)) :=
    ⟨Nat.le_refl _, .slice none 0 0, heap_alloc_new _ _, ⟨by simp, .inl ⟨rfl, rfl⟩⟩, by simp [Value.ownBlock]⟩
  have HA := Lib.hid hA
  clear hA
  go_wp2_with fail
  refine (KD.out w1.heap.size w1.heap.size _ HA.out (by simp)).mono ?_
  rintro x w2 ⟨rfl, hA2, hb2⟩
  have HB2 := Lib.hid (HB1.out.trans ((((Below.refl w1.heap.size w1).alloc (Nat.le_refl _) _).trans hb2).mono (Nat.le_of_lt hz1)))
  have HA2 := Lib.hid hA2
  have hz2 : w1.heap.size < w2.heap.size := by
    obtain ⟨_, v, hb, _⟩ := hA2
    exact (Array.getElem?_eq_some_iff.1 hb).1
  clear hA2 hb2 KD HA
  go_wp2_with fail
  refine (KG.out w1.heap.size w1.heap.size _ HA2.out).mono ?_
  rintro x w3 ⟨rfl, hb3⟩
  have HB3 := Lib.hid (HB2.out.trans (hb3.mono (Nat.le_of_lt hz1)))
  clear hb3 KG
  go_wp2_with fail
  go_ret2
  exact ⟨rfl, HB3.out⟩
set_option maxHeartbeats 4000000 in
set_option maxRecDepth 1000000 in
theorem Wr.Display_plain (k : Int) (hk : k = 5 ∨ k = 6) (l : List UInt8) (h0 : l ≠ []) (hl : l.length ≤ 1000) (lst : Value) (hlst : ∃ ad cap, lst = .slice ad 0 cap) (hV : Dt.valid ⟨l.toArray⟩) (w : World) :
    Calls Tryz.prog 22 #[Dt.leaf k ⟨l.toArray⟩ lst] w fun e w' => e = .returned (.tuple #[.string ⟨l.toArray⟩, .int .i64 0]) ∧ Below w.heap.size w w' := by
  have KD := Lib.hid (fun w => Wr.display_plain k hk l h0 hl lst hlst hV w)
  have hb0 : ∀ o, Below w.heap.size w (w.alloc o) := fun o => (Below.refl _ _).alloc (Nat.le_refl _) _
  obtain ⟨ad, cap, rfl⟩ := hlst
  unfold Dt.leaf Dt.cells at *
  go_enter Tryz.func22, Tryz.ntmps22
  go_wp2_with fail
  refine (KD.out _).mono ?_
  rintro x w1 ⟨rfl, hb1⟩
  have HB1 := Lib.hid ((hb0 _).trans (hb1.mono (by simp)))
  clear hb1 KD hb0
  go_wp2_with fail
  go_ret2
  exact ⟨rfl, HB1.out⟩
end Go.Proofs.YthcdkhegdlbdiaaGreatDoor
