/-
  The fixed fact of layer 20's laws.
-/
import Derived.Test.YtpjnamlcchjlcaaGreatDoorPoOpen
import Derived.Lib.SlBytesConst
namespace Go.Proofs.YtpjnamlcchjlcaaGreatDoor
open Go.RowKit
set_option linter.unusedVariables false

def Po.S1 : ByteArray := ByteArray.mk #[97, 98]
theorem Po.aw_units : Cd.utf8U Po.S1 0 = [(97, true, 0), (98, true, 1)] := by
  have d0 : Utf8.decode Po.S1 0 = (97, 1) := by decide +kernel
  have d1 : Utf8.decode Po.S1 1 = (98, 1) := by decide +kernel
  rw [Cd.utf8U_one Po.S1 0 (by decide), d0, Cd.utf8U_one Po.S1 (0 + 1) (by decide), d1, Cd.utf8U_end Po.S1 (0 + 1 + 1) (by decide)]
  rfl
theorem Po.aw_dec : Cd.decG 1 0 0 Po.S1 = ([97, 98], 0, 0) := by
  have hf : Cd.feed 0 (Cd.unitsU 1 Po.S1) [] 0 0 = ([97, 98], 0, 0) := by
    unfold Cd.unitsU
    rw [if_pos rfl, Po.aw_units]
    rfl
  unfold Cd.decG
  rw [hf, if_neg (by decide), if_neg (by decide)]
  rw [show Ru.encs (Cd.endsL 0 [97, 98]) = [97, 98] by unfold Cd.endsL; decide +kernel]

theorem Po.utf8_any (w : World) : Calls Tryz.prog 17 #[] w fun e w' => e = .returned (Cd.coder 1 0 0) ∧ Below w.heap.size w w' := by
  unfold Cd.coder
  go_enter Tryz.func17, Tryz.ntmps17
  go_wp2_with fail
  have hc : ∀ o, o = Obj.cells #[.int .i64 1, .int .i64 0, .int .i64 0] 45 → (w.alloc o).cell? ⟨w.heap.size, 0, none⟩ = some (.int .i64 1) ∧ (w.alloc o).cell? ⟨w.heap.size, 1, none⟩ = some (.int .i64 0) ∧ (w.alloc o).cell? ⟨w.heap.size, 2, none⟩ = some (.int .i64 0) := by
    intro o ho
    subst ho
    simp only [World.cell?, heap_alloc_new]
    exact ⟨rfl, rfl, rfl⟩
  obtain ⟨c0, c1, c2⟩ := hc _ rfl
  refine bodyPost_ret (v := .agg #[.int .i64 1, .int .i64 0, .int .i64 0]) (by simp [results, Tryz.results17, go_sem, c0, c1, c2]) rfl ⟨rfl, ?_⟩
  exact (Below.refl _ _).alloc (Nat.le_refl _) _

set_option maxHeartbeats 1000000 in
set_option maxRecDepth 1000000 in
theorem Po.awake_any (w : World) (hT : Lib.Utf8Tabs 0 1 w) (hTB : 0 < w.heap.size ∧ 1 < w.heap.size) :
    Calls Tryz.prog 9 #[] w fun e w' => e = .returned (.bool true) ∧ Below w.heap.size w w' := by
  have HT := Lib.hid hT; clear hT
  have KU := fun w => Po.utf8_any w
  unfold Cd.coder at KU
  have cv := fun (w : World) (C : Array Value) (n c : Nat) => Lib.run_convert_bytes_const (P := Tryz.prog) w 34 5 C n c Tryz.underlying34 Tryz.underlying5
  go_enter Tryz.func9, Tryz.ntmps9
  go_wp2_with fail
  have hb0 : Below w.heap.size w (w.alloc (Obj.cells #[Value.int .u8 97, Value.int .u8 98] 5 (2, 2 + 1))) := (Below.refl _ _).alloc (Nat.le_refl _) _
  have hB : By.In (w.alloc (Obj.cells #[Value.int .u8 97, Value.int .u8 98] 5 (2, 2 + 1))) (.slice (some ⟨w.heap.size, 0, none⟩) 2 2) Po.S1 := by
    refine .inr (.inr ⟨by decide, w.heap.size, 0, 2, rfl, by decide, by simp, fun j hj => ?_⟩)
    match j, hj with
    | 0, _ => simp only [World.cell?]; rw [heap_alloc_new]; rfl
    | 1, _ => simp only [World.cell?]; rw [heap_alloc_new]; rfl
  have HB0 := Lib.hid hb0
  have HV0 := Lib.hid hB
  have hz0 : w.heap.size ≤ (w.alloc (Obj.cells #[Value.int .u8 97, Value.int .u8 98] 5 (2, 2 + 1))).heap.size := hb0.size
  clear hb0 hB
  refine (KU _).mono ?_
  rintro x w1 ⟨rfl, hb1⟩
  have HB1 := Lib.hid (HB0.out.trans (hb1.mono hz0))
  have HV1 := Lib.hid (HV0.out.below hb1 (Nat.le_refl _))
  have hz1 := HB1.out.size
  have K := Lib.hid (Po.open_ok 1 0 0 (.slice (some ⟨w.heap.size, 0, none⟩) 2 2) Po.S1 [97, 98] w1 (by rw [Po.aw_dec]) (by rw [Po.aw_dec]; decide +kernel) (by decide) HV1.out (Cd.tabs_below HT.out HB1.out hTB.1 hTB.2) (by omega))
  clear hb1 KU cv hz0
  unfold Cd.coder at K
  go_wp2_with fail
  refine K.out.mono ?_
  rintro x w2 ⟨p, rfl, hp, hA, hb2⟩
  have HB2 := Lib.hid (HB1.out.trans (hb2.mono hz1))
  have K3 := Lib.hid (Po.read_some w2 p 97 [98] false hA (by unfold Ru.okR; omega) (Cd.tabs_below HT.out HB2.out hTB.1 hTB.2))
  have hp2 : w.heap.size ≤ p := by omega
  clear hb2 hA K hp
  go_wp2_with fail
  refine K3.out.mono ?_
  rintro x w3 ⟨rfl, _, hb3⟩
  have HB3 := Lib.hid (HB2.out.trans (hb3.mono hp2))
  clear hb3 K3
  go_wp2
  go_ret
  exact ⟨rfl, HB3.out⟩
end Go.Proofs.YtpjnamlcchjlcaaGreatDoor
