/-
  datum.Sound of a leaf (the empty list, a truth value, a text, a symbol) whose text is short and plain.
-/
import Derived.Test.YtikmebkfdpbidaaGreatDoorProg
import Derived.WalkKit
import Derived.WalkSpells
import Derived.WalkLawsBesides
import Derived.Handy
import Derived.BigCall
import Derived.Lib.Hide
import Derived.Outline
namespace Go.Proofs.YtikmebkfdpbidaaGreatDoor
open Go.RowKit
set_option linter.unusedVariables false

theorem Dt.cell_of {w : World} {b : Nat} {C : Array Value} {t : TypeId} (h : w.heap[b]? = some (.cells C t (0, 0))) (k : Nat) : w.cell? ⟨b, k, none⟩ = C[k]? := by
  simp [World.cell?, h]
theorem Dt.setCells {w : World} {b : Nat} {C : Array Value} {t : TypeId} (h : w.heap[b]? = some (.cells C t (0, 0))) (k : Nat) (u : Value) : (w.setCell ⟨b, k, none⟩ u).heap[b]? = some (.cells (C.set! k u) t (0, 0)) := by
  obtain ⟨hlt, hk⟩ := Array.getElem?_eq_some_iff.1 h
  show (w.heap.modify b _)[b]? = _
  rw [Array.getElem?_eq_getElem (by rw [Array.size_modify]; exact hlt), Array.getElem_modify_self, hk]
  rfl
theorem Dt.frozen_of {w : World} {b : Nat} {C : Array Value} {t : TypeId} (h : w.heap[b]? = some (.cells C t (0, 0))) (k : Nat) : w.frozen? ⟨b, k, none⟩ = false := by
  simp [World.frozen?, h]
theorem Dt.cells11 {w : World} {b : Nat} {v0 v1 v2 v3 v4 v5 v6 v7 v8 v9 v10 : Value} {t : TypeId} (h : w.heap[b]? = some (.cells #[v0, v1, v2, v3, v4, v5, v6, v7, v8, v9, v10] t (0, 0))) :
    w.cell? ⟨b, 0, none⟩ = some v0 ∧ w.cell? ⟨b, 1, none⟩ = some v1 ∧ w.cell? ⟨b, 2, none⟩ = some v2 ∧ w.cell? ⟨b, 3, none⟩ = some v3 ∧ w.cell? ⟨b, 4, none⟩ = some v4 ∧ w.cell? ⟨b, 5, none⟩ = some v5 ∧ w.cell? ⟨b, 6, none⟩ = some v6 ∧ w.cell? ⟨b, 7, none⟩ = some v7 ∧ w.cell? ⟨b, 8, none⟩ = some v8 ∧ w.cell? ⟨b, 9, none⟩ = some v9 ∧ w.cell? ⟨b, 10, none⟩ = some v10 :=
  ⟨Dt.cell_of h 0, Dt.cell_of h 1, Dt.cell_of h 2, Dt.cell_of h 3, Dt.cell_of h 4, Dt.cell_of h 5, Dt.cell_of h 6, Dt.cell_of h 7, Dt.cell_of h 8, Dt.cell_of h 9, Dt.cell_of h 10⟩

theorem Dt.ext1 (a : UInt8) (t : List UInt8) : (⟨(a :: t).toArray⟩ : ByteArray).extract 1 (t.length + 1) = ⟨t.toArray⟩ := by
  apply ByteArray.ext
  rw [ByteArray.data_extract]
  simp
/-- The cells of a leaf: its kind, its text, its (empty) list. -/
def Dt.cells (k : Int) (s : ByteArray) (lst : Value) : Array Value := #[.int .i64 k, .int .i64 0, .bool false, .slice none 0 0, .slice none 0 0, .bool false, .slice none 0 0, .slice none 0 0, .string s, .slice none 0 0, lst]
def Dt.leaf (k : Int) (s : ByteArray) (lst : Value) : Value := .agg (Dt.cells k s lst)

set_option maxHeartbeats 4000000 in
set_option maxRecDepth 1000000 in
theorem Dt.valid_short (l : List UInt8) (hl : l.length ≤ 8) (ha : ∀ x ∈ l, x.toNat < 128) (w : World) :
    Calls Tryz.prog 181 #[.string ⟨l.toArray⟩] w fun e w' => e = .returned (.bool true) ∧ Below w.heap.size w w' := by
  go_enter Tryz.func181, Tryz.ntmps181
  go_wp2_with fail
  go_loopw [0] (fun i wr => ∃ m : List UInt8, i = .string ⟨m.toArray⟩ ∧ m.length ≤ 8 ∧ (∀ x ∈ m, x.toNat < 128) ∧ wr = w) (fun i _ => match i with | .string s => s.size | _ => 0)
  case atStart => exact ⟨l, rfl, hl, ha, rfl⟩
  case round =>
    obtain ⟨m, rfl, hm, hx, rfl⟩ := hrel
    cases m with
    | nil =>
      go_wp2_with fail
      go_ret
      exact ⟨rfl, Below.refl _ _⟩
    | cons a t =>
      have ha1 := hx a (List.mem_cons_self)
      have hlen : ((t.length : Int) + 1) > 0 := by omega
      have hlen2 : ¬ ((t.length : Int) > 8) := by simp at hm; omega
      have ha2 : ((⟨(a :: t).toArray⟩ : ByteArray)[0]'(show 0 < (a :: t).toArray.size by simp)).toNat < 128 := ha1
      go_wp2_with fail
      rw [Dt.ext1]
      refine ⟨⟨t, rfl, by simp at hm; omega, fun x h => hx x (List.mem_cons_of_mem _ h), trivial⟩, ?_⟩
      show t.toArray.size < (a :: t).toArray.size
      simp

set_option maxHeartbeats 4000000 in
set_option maxRecDepth 1000000 in
theorem Dt.noRat_none (w : World) : Calls Tryz.prog 180 #[.agg #[.bool false, .slice none 0 0, .slice none 0 0]] w fun e w' => e = .returned (.bool true) ∧ Below w.heap.size w w' := by
  go_enter Tryz.func180, Tryz.ntmps180
  go_wp2
  go_ret
  exact ⟨rfl, (Below.refl _ _).alloc (Nat.le_refl _) _⟩

set_option maxHeartbeats 4000000 in
set_option maxRecDepth 1000000 in
theorem Dt.shape_leaf (k : Int) (s : ByteArray) (lst : Value) (hk : k = 1 ∧ s = ⟨#[]⟩ ∨ k = 2 ∧ s = ⟨#[]⟩ ∨ k = 5 ∨ k = 6) (hl : ∃ ad cap, lst = .slice ad 0 cap)
    (hV : ∀ w : World, Calls Tryz.prog 181 #[.string s] w fun e w' => e = .returned (.bool true) ∧ Below w.heap.size w w') (w : World) :
    Calls Tryz.prog 136 #[Dt.leaf k s lst] w fun e w' => e = .returned (.bool true) ∧ Below w.heap.size w w' := by
  have HV := Lib.hid hV; clear hV
  obtain ⟨ad, cap, rfl⟩ := hl
  have HN := Lib.hid (fun w => Dt.noRat_none w)
  rcases hk with ⟨rfl, rfl⟩ | ⟨rfl, rfl⟩ | rfl | rfl
  all_goals
    unfold Dt.leaf Dt.cells
    go_enter Tryz.func136, Tryz.ntmps136
    go_wp2_with fail
    refine (HN.out _).mono ?_
    rintro x w1 ⟨rfl, hb1⟩
    have q1 := (hb1.block w.heap.size (by simp)).trans (heap_alloc_new w _)
    have HB1 := Lib.hid (((Below.refl w.heap.size w).alloc (Nat.le_refl _) _).trans (hb1.mono (by simp)))
    obtain ⟨c0, c1, c2, c3, c4, c5, c6, c7, c8, c9, c10⟩ := Dt.cells11 q1
    have Q1 := Lib.hid q1
    have hs1 := HB1.out.size
    have hsz1 : w.heap.size < w1.heap.size := (Array.getElem?_eq_some_iff.1 q1).1
    clear hb1 q1
    go_wp2_with fail
    refine (HN.out _).mono ?_
    rintro x w2 ⟨rfl, hb2⟩
    clear c0 c1 c2 c3 c4 c5 c6 c7 c8 c9 c10
    have q2 := (hb2.block w.heap.size hsz1).trans Q1.out
    have HB2 := Lib.hid (HB1.out.trans (hb2.mono hs1))
    obtain ⟨c0, c1, c2, c3, c4, c5, c6, c7, c8, c9, c10⟩ := Dt.cells11 q2
    have Q2 := Lib.hid q2
    have hs2 := HB2.out.size
    have hsz2 : w.heap.size < w2.heap.size := (Array.getElem?_eq_some_iff.1 q2).1
    clear hb2 q2
    go_wp2_with fail
    refine (HV.out _).mono ?_
    rintro x w3 ⟨rfl, hb3⟩
    clear c0 c1 c2 c3 c4 c5 c6 c7 c8 c9 c10
    have q3 := (hb3.block w.heap.size hsz2).trans Q2.out
    have HB3 := Lib.hid (HB2.out.trans (hb3.mono hs2))
    obtain ⟨c0, c1, c2, c3, c4, c5, c6, c7, c8, c9, c10⟩ := Dt.cells11 q3
    clear hb3 q3
    go_wp2
    go_ret
    exact ⟨rfl, HB3.out⟩
end Go.Proofs.YtikmebkfdpbidaaGreatDoor
