/-
  Open of a port.
-/
import Derived.Test.YtdpbpkggbgfkgaaDoorPoRead
import Derived.Test.YtdpbpkggbgfkgaaDoorPlaces
namespace Go.Proofs.YtdpbpkggbgfkgaaDoor
open Go.RowKit
set_option linter.unusedVariables false

set_option maxHeartbeats 1000000 in
set_option maxRecDepth 1000000 in
theorem Po.open_ok (c l m : Int) (v : Value) (b : ByteArray) (ys : List Int) (w : World) (hD : (Cd.decG c l m b).2.2 = 0) (hy : Ru.encs ys = (Cd.decG c l m b).1) (hbs : b.size ≤ 140737488351232) (hv : By.In w v b) (hT : Lib.Utf8Tabs 0 1 w) (hTB : 0 < w.heap.size ∧ 1 < w.heap.size) :
    Calls Tryd.prog 16 #[v, Cd.coder c l m] w fun e w' => ∃ p, e = .returned (.tuple #[.pointer (some ⟨p, 0, none⟩), .int .i64 0]) ∧ w.heap.size ≤ p ∧ Po.At w' p ys false ∧ Below w.heap.size w w' := by
  have HT := Lib.hid hT; clear hT
  obtain ⟨ad, cap, rfl⟩ := hv.slice
  have HV := Lib.hid hv; clear hv
  have hz0 : w.heap.size < (w.alloc (Obj.cells #[.int .i64 c, .int .i64 l, .int .i64 m] 23)).heap.size := by simp
  have HB0 := Lib.hid (show Below w.heap.size w (w.alloc (Obj.cells #[.int .i64 c, .int .i64 l, .int .i64 m] 23)) from (Below.refl _ _).alloc (Nat.le_refl _) _)
  have HV0 := Lib.hid (HV.out.below HB0.out (Nat.le_refl _))
  have KD := fun v w h1 h2 h3 h4 h5 => Cd.decode_any b v w c l m h1 h2 h3 h4 h5
  generalize Cd.decG c l m b = D at *
  obtain ⟨x, a, z⟩ := D
  simp only at hD hy KD
  subst hD hy
  unfold Cd.coder at *
  go_enter Tryd.func16, Tryd.ntmps16
  go_wp2_with fail
  refine (KD _ _ (Cd.tabs_below HT.out HB0.out hTB.1 hTB.2) (by omega) (by omega) (Cd.BytesAt.ofIn HV0.out) HV0.out.slice).mono ?_
  rintro x w1 ⟨rfl, hb1⟩
  have HB1 := Lib.hid (HB0.out.trans (hb1.mono (Nat.le_of_lt hz0)))
  have hz1 : w.heap.size ≤ w1.heap.size := HB1.out.size
  clear hb1 KD
  go_wp2_with fail
  go_ret2
  exact ⟨w1.heap.size, rfl, hz1, heap_alloc_new _ _, HB1.out.alloc hz1 _⟩

set_option maxHeartbeats 1000000 in
set_option maxRecDepth 1000000 in
theorem Po.open_bad (c l m : Int) (v : Value) (b : ByteArray) (w : World) (hD : (Cd.decG c l m b).2.2 ≠ 0) (hD2 : (Cd.decG c l m b).2.2 ≠ 6) (hbs : b.size ≤ 140737488351232) (hv : By.In w v b) (hT : Lib.Utf8Tabs 0 1 w) (hTB : 0 < w.heap.size ∧ 1 < w.heap.size) :
    Calls Tryd.prog 16 #[v, Cd.coder c l m] w fun e w' => e = .returned (.tuple #[.pointer none, .int .i64 (Cd.decG c l m b).2.2]) ∧ Below w.heap.size w w' := by
  have HT := Lib.hid hT; clear hT
  obtain ⟨ad, cap, rfl⟩ := hv.slice
  have HV := Lib.hid hv; clear hv
  have hz0 : w.heap.size < (w.alloc (Obj.cells #[.int .i64 c, .int .i64 l, .int .i64 m] 23)).heap.size := by simp
  have HB0 := Lib.hid (show Below w.heap.size w (w.alloc (Obj.cells #[.int .i64 c, .int .i64 l, .int .i64 m] 23)) from (Below.refl _ _).alloc (Nat.le_refl _) _)
  have HV0 := Lib.hid (HV.out.below HB0.out (Nat.le_refl _))
  have KD := fun v w h1 h2 h3 h4 h5 => Cd.decode_any b v w c l m h1 h2 h3 h4 h5
  generalize Cd.decG c l m b = D at *
  obtain ⟨x, a, z⟩ := D
  simp only at hD hD2 KD
  have hd1 : (z == 6) = false := by simp [hD2]
  have hd2 : (z != 0) = true := by simp [hD]
  clear hD hD2
  unfold Cd.coder at *
  go_enter Tryd.func16, Tryd.ntmps16
  go_wp2_with fail
  refine (KD _ _ (Cd.tabs_below HT.out HB0.out hTB.1 hTB.2) (by omega) (by omega) (Cd.BytesAt.ofIn HV0.out) HV0.out.slice).mono ?_
  rintro x w1 ⟨rfl, hb1⟩
  have HB1 := Lib.hid (HB0.out.trans (hb1.mono (Nat.le_of_lt hz0)))
  clear hb1 KD
  go_wp2_with fail
  go_ret2
  exact ⟨rfl, HB1.out⟩

set_option maxHeartbeats 1000000 in
set_option maxRecDepth 1000000 in
theorem Po.open_fault (c l m : Int) (v : Value) (b : ByteArray) (q : Nat) (ys : List Int) (w : World) (hD : (Cd.decG c l m b).2.2 = 6) (hq : (Cd.decG c l m b).2.1 = (q : Int)) (hqs : q < b.size) (hy : Ru.encs ys = (Cd.decG c l m (b.extract 0 q)).1) (hbs : b.size ≤ 140737488351232) (hv : By.In w v b) (hT : Lib.Utf8Tabs 0 1 w) (hTB : 0 < w.heap.size ∧ 1 < w.heap.size) :
    Calls Tryd.prog 16 #[v, Cd.coder c l m] w fun e w' => ∃ p, e = .returned (.tuple #[.pointer (some ⟨p, 0, none⟩), .int .i64 0]) ∧ w.heap.size ≤ p ∧ Po.At w' p ys true ∧ Below w.heap.size w w' := by
  have HT := Lib.hid hT; clear hT
  obtain ⟨ad, cap, rfl⟩ := hv.slice
  have HV := Lib.hid hv; clear hv
  have hz0 : w.heap.size < (w.alloc (Obj.cells #[.int .i64 c, .int .i64 l, .int .i64 m] 23)).heap.size := by simp
  have HB0 := Lib.hid (show Below w.heap.size w (w.alloc (Obj.cells #[.int .i64 c, .int .i64 l, .int .i64 m] 23)) from (Below.refl _ _).alloc (Nat.le_refl _) _)
  have HQ := Lib.hid (heap_alloc_new w (Obj.cells #[.int .i64 c, .int .i64 l, .int .i64 m] 23))
  have HV0 := Lib.hid (HV.out.below HB0.out (Nat.le_refl _))
  have hzd := Cd.size_take b q (by omega)
  have KD := fun v w h1 h2 h3 h4 h5 => Cd.decode_any b v w c l m h1 h2 h3 h4 h5
  have KD2 := fun v w h1 h2 h4 h5 => Cd.decode_any (b.extract 0 q) v w c l m h1 h2 (by rw [hzd]; omega) h4 h5
  generalize Cd.decG c l m b = D at *
  generalize Cd.decG c l m (b.extract 0 q) = D2 at *
  obtain ⟨x, a, z⟩ := D
  obtain ⟨x2, a2, z2⟩ := D2
  simp only at hD hq hy KD KD2
  subst hD hq hy
  have hdi : (q : Int) < (b.size : Int) := by omega
  have hd0 : (0 : Int) ≤ (q : Int) := Int.natCast_nonneg _
  have hcapb : b.size ≤ cap := by
    obtain ⟨_, _, _, _, h, _⟩ := HV.out.at (by omega)
    exact h
  have hdl : (q : Int) ≤ (cap : Int) := by omega
  clear hzd
  unfold Cd.coder at *
  go_enter Tryd.func16, Tryd.ntmps16
  go_wp2_with fail
  refine (KD _ _ (Cd.tabs_below HT.out HB0.out hTB.1 hTB.2) (by omega) (by omega) (Cd.BytesAt.ofIn HV0.out) HV0.out.slice).mono ?_
  rintro x w1 ⟨rfl, hb1⟩
  have HB1 := Lib.hid (HB0.out.trans (hb1.mono (Nat.le_of_lt hz0)))
  have hz1 : w.heap.size < w1.heap.size := Nat.lt_of_lt_of_le hz0 hb1.size
  have HI1 := Lib.hid ((HV0.out.below hb1 (Nat.le_refl _)).take (q := q) (by omega))
  obtain ⟨g0, g1, g2⟩ := Cd.coder_cells HQ.out hb1 hz0
  clear hb1 KD
  go_wp2_with fail
  go_region_held3 (fun w' => w'.cell? ⟨w.heap.size, 0, none⟩ = some (.int .i64 c) ∧ w'.cell? ⟨w.heap.size, 1, none⟩ = some (.int .i64 l) ∧ w'.cell? ⟨w.heap.size, 2, none⟩ = some (.int .i64 m))
    (first | go_keep | exact hkeep)
    (first
      | (go_at_call 11
         refine (KD2 _ w1.drew (Cd.tabs_below HT.out HB1.out.drew hTB.1 hTB.2) (by show _ < w1.heap.size ∧ _ < w1.heap.size; omega) (Cd.BytesAt.ofIn HI1.out.drew) (Cd.slice_take HI1.out)).mono ?_
         rintro x w2 ⟨rfl, hb2⟩
         have hkeep := Cd.keep3b (w := w1.drew) hb2 g0 g1 g2 hz1))
  have HB2 := Lib.hid (HB1.out.drew.trans (hb2.mono (Nat.le_of_lt hz1)))
  have hz2 : w.heap.size < w2.heap.size := Nat.lt_of_lt_of_le hz1 hb2.size
  clear hb2 KD2 hkeep g0 g1 g2
  go_wp2_with fail
  go_ret2
  exact ⟨w2.heap.size, rfl, Nat.le_of_lt hz2, heap_alloc_new _ _, HB2.out.alloc (Nat.le_of_lt hz2) _⟩
end Go.Proofs.YtdpbpkggbgfkgaaDoor
