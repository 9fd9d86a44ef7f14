/-
  Open of a port.
-/
import Derived.Test.YtpjnamlcchjlcaaGreatDoorPoRead
namespace Go.Proofs.YtpjnamlcchjlcaaGreatDoor
open Go.RowKit
set_option linter.unusedVariables false

set_option maxHeartbeats 1000000 in
set_option maxRecDepth 1000000 in
theorem Po.open_ok (c l m : Int) (v : Value) (b : ByteArray) (ys : List Int) (w : World) (hD : (Cd.decG c l m b).2.2 = 0) (hy : Ru.encs ys = (Cd.decG c l m b).1) (hbs : b.size ≤ 140737488351232) (hv : By.In w v b) (hT : Lib.Utf8Tabs 0 1 w) (hTB : 0 < w.heap.size ∧ 1 < w.heap.size) :
    Calls Tryz.prog 16 #[v, Cd.coder c l m] w fun e w' => ∃ p, e = .returned (.tuple #[.pointer (some ⟨p, 0, none⟩), .int .i64 0]) ∧ w.heap.size ≤ p ∧ Po.At w' p ys false ∧ Below w.heap.size w w' := by
  have HT := Lib.hid hT; clear hT
  obtain ⟨ad, cap, rfl⟩ := hv.slice
  have HV := Lib.hid hv; clear hv
  have hz0 : w.heap.size < (w.alloc (Obj.cells #[.int .i64 c, .int .i64 l, .int .i64 m] 45)).heap.size := by simp
  have HB0 := Lib.hid (show Below w.heap.size w (w.alloc (Obj.cells #[.int .i64 c, .int .i64 l, .int .i64 m] 45)) from (Below.refl _ _).alloc (Nat.le_refl _) _)
  have HV0 := Lib.hid (HV.out.below HB0.out (Nat.le_refl _))
  have KD := fun v w h1 h2 h3 h4 h5 => Cd.decode_any b v w c l m h1 h2 h3 h4 h5
  generalize Cd.decG c l m b = D at *
  obtain ⟨x, a, z⟩ := D
  simp only at hD hy KD
  subst hD hy
  unfold Cd.coder at *
  go_enter Tryz.func16, Tryz.ntmps16
  go_wp2_with fail
  refine (KD _ _ (Cd.tabs_below HT.out HB0.out hTB.1 hTB.2) (by omega) (by omega) (Cd.BytesAt.ofIn HV0.out) HV0.out.slice).mono ?_
  rintro x w1 ⟨rfl, hb1⟩
  have HB1 := Lib.hid (HB0.out.trans (hb1.mono (Nat.le_of_lt hz0)))
  have hz1 : w.heap.size ≤ w1.heap.size := HB1.out.size
  clear hb1 KD
  go_wp2_with fail
  go_ret2
  exact ⟨w1.heap.size, rfl, hz1, heap_alloc_new _ _, HB1.out.alloc hz1 _⟩

end Go.Proofs.YtpjnamlcchjlcaaGreatDoor
