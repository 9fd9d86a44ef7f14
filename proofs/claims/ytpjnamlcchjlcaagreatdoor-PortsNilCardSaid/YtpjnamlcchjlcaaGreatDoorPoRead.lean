/-
  Peek and Read of a port that holds the text of some characters.
-/
import Derived.Test.YtpjnamlcchjlcaaGreatDoorPoPlain
import Derived.Test.YtpjnamlcchjlcaaGreatDoorShelf
import Derived.StillTailTactics
import Derived.Outline
namespace Go.Proofs.YtpjnamlcchjlcaaGreatDoor
open Go.RowKit
set_option linter.unusedVariables false

/-- The port at block p: what is left, and whether a fault is behind it. -/
def Po.At (w : World) (p : Nat) (ys : List Int) (f : Bool) : Prop := w.heap[p]? = some (.cells #[.string (Po.txt ys), .bool f] 51 (0, 0))
theorem Po.At.cells {w : World} {p : Nat} {ys : List Int} {f : Bool} (h : Po.At w p ys f) : w.cell? ⟨p, 0, none⟩ = some (.string (Po.txt ys)) ∧ w.cell? ⟨p, 1, none⟩ = some (.bool f) ∧ w.frozen? ⟨p, 0, none⟩ = false := by
  unfold Po.At at h
  simp [World.cell?, World.frozen?, h]
theorem Po.At.below {w w' : World} {p B : Nat} {ys : List Int} {f : Bool} (h : Po.At w p ys f) (hb : Below B w w') (hp : p < B) : Po.At w' p ys f := (hb.block p hp).trans h
theorem Po.At.lt {w : World} {p : Nat} {ys : List Int} {f : Bool} (h : Po.At w p ys f) : p < w.heap.size := (Array.getElem?_eq_some_iff.1 h).1
theorem Po.At.set {w : World} {p : Nat} {ys zs : List Int} {f : Bool} (h : Po.At w p ys f) : Po.At (w.setCell ⟨p, 0, none⟩ (.string (Po.txt zs))) p zs f := by
  obtain ⟨hlt, hk⟩ := Array.getElem?_eq_some_iff.1 h
  show (w.heap.modify p _)[p]? = _
  rw [Array.getElem?_eq_getElem (by rw [Array.size_modify]; exact hlt), Array.getElem_modify_self, hk]
  rfl
def Po.fin (f : Bool) : Int := if f then 6 else 11

set_option maxHeartbeats 1000000 in
theorem Po.peek_some (w : World) (p : Nat) (r : Int) (ys : List Int) (f : Bool) (h : Po.At w p (r :: ys) f) (hr : Ru.okR r) (hT : Lib.Utf8Tabs 0 1 w) :
    Calls Tryz.prog 6 #[.pointer (some ⟨p, 0, none⟩)] w fun e w' => e = .returned (.tuple #[.int .i32 r, .int .i64 0]) ∧ Below w.heap.size w w' := by
  obtain ⟨c0, c1, c2⟩ := h.cells
  have KD := Lib.hid (Tryz.utf8_DecodeRuneInString (Po.txt (r :: ys)) w hT)
  rw [Po.decode r ys hr] at KD
  obtain ⟨a, t, e⟩ := Po.ne r ys
  have hne : Po.txt (r :: ys) = ⟨(a :: t).toArray⟩ := by rw [Po.txt, e]
  clear h hT
  rw [hne] at c0 KD
  go_enter Tryz.func6, Tryz.ntmps6
  go_wp2_with fail
  refine KD.out.mono ?_
  rintro x w1 ⟨rfl, hb1⟩
  have HB := Lib.hid hb1
  clear hb1 KD
  go_wp2
  go_ret2
  exact ⟨rfl, HB.out⟩

set_option maxHeartbeats 1000000 in
theorem Po.peek_none (w : World) (p : Nat) (f : Bool) (h : Po.At w p [] f) :
    Calls Tryz.prog 6 #[.pointer (some ⟨p, 0, none⟩)] w fun e w' => e = .returned (.tuple #[.int .i32 0, .int .i64 (Po.fin f)]) ∧ Below w.heap.size w w' := by
  obtain ⟨c0, c1, c2⟩ := h.cells
  clear h
  have e0 : Po.txt [] = ⟨#[]⟩ := rfl
  rw [e0] at c0
  cases f
  all_goals
    go_enter Tryz.func6, Tryz.ntmps6
    go_wp2_with fail
    go_ret2
    exact ⟨rfl, Below.refl _ _⟩

set_option maxHeartbeats 1000000 in
theorem Po.read_none (w : World) (p : Nat) (f : Bool) (h : Po.At w p [] f) :
    Calls Tryz.prog 5 #[.pointer (some ⟨p, 0, none⟩)] w fun e w' => e = .returned (.tuple #[.int .i32 0, .int .i64 (Po.fin f)]) ∧ Below w.heap.size w w' := by
  have KP := Lib.hid (Po.peek_none w p f h)
  have hz : (Po.fin f == 0) = false := by cases f <;> rfl
  generalize Po.fin f = z at *
  clear h
  go_enter Tryz.func5, Tryz.ntmps5
  go_wp2_with fail
  refine KP.out.mono ?_
  rintro x w1 ⟨rfl, hb1⟩
  have HB := Lib.hid hb1
  clear hb1 KP
  go_wp2
  go_ret2
  exact ⟨rfl, HB.out⟩

set_option maxHeartbeats 1000000 in
set_option maxRecDepth 1000000 in
theorem Po.read_some (w : World) (p : Nat) (r : Int) (ys : List Int) (f : Bool) (h : Po.At w p (r :: ys) f) (hr : Ru.okR r) (hT : Lib.Utf8Tabs 0 1 w) :
    Calls Tryz.prog 5 #[.pointer (some ⟨p, 0, none⟩)] w fun e w' => e = .returned (.tuple #[.int .i32 r, .int .i64 0]) ∧ Po.At w' p ys f ∧ Below p w w' := by
  have KP := Lib.hid (Po.peek_some w p r ys f h hr hT)
  have KL := fun w => Tryz.utf8_RuneLen r w
  rw [Po.runeLen r hr] at KL
  have hsz := Po.txt_size (r :: ys)
  rw [Ru.encs_cons, List.length_append] at hsz
  have hl : ((Lib.encodeRune r).length : Int) ≤ ((Po.txt (r :: ys)).size : Int) := by omega
  have hl2 : (Lib.encodeRune r).length ≤ (Po.txt (r :: ys)).size := by omega
  have h0 : (0 : Int) ≤ ((Lib.encodeRune r).length : Int) := Int.natCast_nonneg _
  have hrest := Po.rest r ys
  have HA := Lib.hid h
  clear h hT hr hsz
  generalize hS : Po.txt (r :: ys) = S at *
  generalize (Lib.encodeRune r).length = k at *
  go_enter Tryz.func5, Tryz.ntmps5
  go_wp2_with fail
  refine KP.out.mono ?_
  rintro x w1 ⟨rfl, hb1⟩
  have HB1 := Lib.hid (hb1.mono (Nat.le_of_lt HA.out.lt))
  have HA1 := Lib.hid (HA.out.below hb1 HA.out.lt)
  obtain ⟨c0, c1, c2⟩ := HA1.out.cells
  rw [hS] at c0
  clear hb1 KP
  go_wp2_with fail
  go_still_tail 12, (by kernel_rfl)
  still_call (KL w1.drew)
  repeat still_step
  refine wpStill_nil ?_
  change wpList _ _ _ _ _ w1.drew
  go_wp2_with fail
  go_ret2
  exact ⟨rfl, HA1.out.set, (HB1.out.setCell (Nat.le_refl _) _).drew⟩
end Go.Proofs.YtpjnamlcchjlcaaGreatDoor
