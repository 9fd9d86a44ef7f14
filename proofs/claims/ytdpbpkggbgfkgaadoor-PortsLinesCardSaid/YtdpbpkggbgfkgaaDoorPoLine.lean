/-
  Line of a port without a fault.
-/
import Derived.Test.YtdpbpkggbgfkgaaDoorPoLinePlain
import Derived.Outline
namespace Go.Proofs.YtdpbpkggbgfkgaaDoor
open Go.RowKit
set_option linter.unusedVariables false

def Po.AtB (w : World) (p : Nat) (l : List UInt8) (f : Bool) : Prop := w.heap[p]? = some (.cells #[.string ⟨l.toArray⟩, .bool f] 58 (0, 0))
theorem Po.AtB.cells {w : World} {p : Nat} {l : List UInt8} {f : Bool} (h : Po.AtB w p l f) : w.cell? ⟨p, 0, none⟩ = some (.string ⟨l.toArray⟩) ∧ w.cell? ⟨p, 1, none⟩ = some (.bool f) ∧ w.frozen? ⟨p, 0, none⟩ = false := by
  unfold Po.AtB at h
  simp [World.cell?, World.frozen?, h]
theorem Po.AtB.below {w w' : World} {p B : Nat} {l : List UInt8} {f : Bool} (h : Po.AtB w p l f) (hb : Below B w w') (hp : p < B) : Po.AtB w' p l f := (hb.block p hp).trans h
theorem Po.AtB.lt {w : World} {p : Nat} {l : List UInt8} {f : Bool} (h : Po.AtB w p l f) : p < w.heap.size := (Array.getElem?_eq_some_iff.1 h).1
theorem Po.AtB.set {w : World} {p : Nat} {l k : List UInt8} {f : Bool} (h : Po.AtB w p l f) : Po.AtB (w.setCell ⟨p, 0, none⟩ (.string ⟨k.toArray⟩)) p k f := by
  obtain ⟨hlt, hk⟩ := Array.getElem?_eq_some_iff.1 h
  show (w.heap.modify p _)[p]? = _
  rw [Array.getElem?_eq_getElem (by rw [Array.size_modify]; exact hlt), Array.getElem_modify_self, hk]
  rfl
theorem Po.drewN_heap (w : World) (n : Nat) : Below w.heap.size w (w.drewN n) := ⟨rfl, rfl, rfl, Nat.le_refl _, fun _ _ => rfl⟩

set_option maxHeartbeats 1000000 in
theorem Po.peek_raw (w : World) (p : Nat) (a : UInt8) (t : List UInt8) (f : Bool) (h : Po.AtB w p (a :: t) f) (hT : Lib.Utf8Tabs 0 1 w) :
    Calls Tryd.prog 18 #[.pointer (some ⟨p, 0, none⟩)] w fun e w' => ∃ r : Int, e = .returned (.tuple #[.int .i32 r, .int .i64 0]) ∧ Below w.heap.size w w' := by
  obtain ⟨c0, c1, c2⟩ := h.cells
  have KD := Lib.hid (Tryd.utf8_DecodeRuneInString ⟨(a :: t).toArray⟩ w hT)
  clear h hT
  go_enter Tryd.func18, Tryd.ntmps18
  go_wp2_with fail
  refine KD.out.mono ?_
  rintro x w1 ⟨rfl, hb1⟩
  have HB := Lib.hid hb1
  clear hb1 KD
  go_wp2
  go_ret2
  exact ⟨_, rfl, HB.out⟩

set_option maxHeartbeats 1000000 in
theorem Po.line_end (w : World) (p : Nat) (h : Po.AtB w p [] false) :
    Calls Tryd.prog 24 #[.pointer (some ⟨p, 0, none⟩)] w fun e w' => e = .returned (.tuple #[.string ⟨#[]⟩, .int .i64 11]) ∧ Below w.heap.size w w' := by
  have KP := Lib.hid (Po.peek_none w p false h)
  have hz : Po.fin false = 11 := rfl
  rw [hz] at KP
  clear h
  go_enter Tryd.func24, Tryd.ntmps24
  go_wp2_with fail
  refine KP.out.mono ?_
  rintro x w1 ⟨rfl, hb1⟩
  have HB := Lib.hid hb1
  clear hb1 KP
  go_wp2
  go_ret2
  exact ⟨rfl, HB.out⟩

set_option maxHeartbeats 1000000 in
theorem Po.line_some (w : World) (p : Nat) (a : UInt8) (t : List UInt8) (m : Int) (hsz : (a :: t).length < 4294967281) (h : Po.AtB w p (a :: t) false) (hm : w.cell? ⟨2, 0, none⟩ = some (.int .i64 m)) (hml : 2 < w.heap.size) (hT : Lib.Utf8Tabs 0 1 w) :
    Calls Tryd.prog 24 #[.pointer (some ⟨p, 0, none⟩)] w fun e w' => e = .returned (.tuple #[.string ⟨(Lib.cut (a :: t) [10]).1.toArray⟩, .int .i64 0]) ∧ Po.AtB w' p (Lib.cut (a :: t) [10]).2.1 false ∧ Below p w w' := by
  have KP := Lib.hid (Po.peek_raw w p a t false h hT)
  have KC := fun w h => Tryd.strings_Cut ⟨(a :: t).toArray⟩ ⟨#[10]⟩ m w (by rw [Cd.size_mk]; exact hsz) h
  rw [show (⟨(a :: t).toArray⟩ : ByteArray).data.toList = a :: t by simp, show (⟨#[10]⟩ : ByteArray).data.toList = [10] by rfl] at KC
  have HA := Lib.hid h
  have HM := Lib.hid hm
  generalize Lib.cut (a :: t) [10] = C at *
  obtain ⟨x1, x2, fd⟩ := C
  clear h hm hT hsz
  go_enter Tryd.func24, Tryd.ntmps24
  go_wp2_with fail
  refine KP.out.mono ?_
  rintro x w1 ⟨r, rfl, hb1⟩
  have HA1 := Lib.hid (HA.out.below hb1 HA.out.lt)
  have HB1 := Lib.hid (hb1.mono (Nat.le_of_lt HA.out.lt))
  have hm1 : w1.cell? ⟨2, 0, none⟩ = some (.int .i64 m) := (hb1.cell (p := ⟨2, 0, none⟩) hml).trans HM.out
  obtain ⟨c0, c1, c2⟩ := HA1.out.cells
  have KC1 := Lib.hid (KC w1 hm1)
  clear hb1 KP KC hm1
  go_wp2_with fail
  refine KC1.out.mono ?_
  rintro x w2 ⟨rfl, n, hw2⟩
  have hb2 : Below w1.heap.size w1 w2 := by rw [hw2]; exact Po.drewN_heap w1 n
  have HA2 := Lib.hid (HA1.out.below hb2 HA1.out.lt)
  have HB2 := Lib.hid (HB1.out.trans (hb2.mono (Nat.le_of_lt HA1.out.lt)))
  clear c0 c1 c2 hb2 hw2 KC1
  obtain ⟨c0, c1, c2⟩ := HA2.out.cells
  cases fd
  all_goals
    go_wp2_with fail
    go_ret2
    exact ⟨rfl, HA2.out.set, HB2.out.setCell (Nat.le_refl _) _⟩
end Go.Proofs.YtdpbpkggbgfkgaaDoor
