/-
  The layer's fixed fact ('awake'), and bytes that are copied.
-/
import Derived.Test.YtdpbpkggbgfkgaaDoorCdRefDecode
import Derived.Lib.SlBytesConst
namespace Go.Proofs.YtdpbpkggbgfkgaaDoor
open Go.RowKit
set_option linter.unusedVariables false

def Cd.S0 : ByteArray := ByteArray.mk #[97, 13, 10, 98]
theorem Cd.aw_units : Cd.utf8U Cd.S0 0 = [(97, true, 0), (13, true, 1), (10, true, 2), (98, true, 3)] := by
  have d0 : Utf8.decode Cd.S0 0 = (97, 1) := by decide +kernel
  have d1 : Utf8.decode Cd.S0 1 = (13, 1) := by decide +kernel
  have d2 : Utf8.decode Cd.S0 2 = (10, 1) := by decide +kernel
  have d3 : Utf8.decode Cd.S0 3 = (98, 1) := by decide +kernel
  rw [Cd.utf8U_one Cd.S0 0 (by decide), d0, Cd.utf8U_one Cd.S0 (0 + 1) (by decide), d1, Cd.utf8U_one Cd.S0 (0 + 1 + 1) (by decide), d2, Cd.utf8U_one Cd.S0 (0 + 1 + 1 + 1) (by decide), d3, Cd.utf8U_end Cd.S0 (0 + 1 + 1 + 1 + 1) (by decide)]
  rfl
theorem Cd.aw_ends : Cd.endsL 3 [97, 13, 10, 98] = [97, 10, 98] := by
  unfold Cd.endsL
  rw [if_neg (by decide), Cd.endsI_id _ 0 (by decide) 97 rfl (by decide) (by decide), Cd.endsI_two _ 1 (by decide) 13 10 rfl rfl rfl (by decide) (by decide), Cd.endsI_id _ 3 (by decide) 98 rfl (by decide) (by decide), Cd.endsI_end _ 4 (by decide)]
theorem Cd.aw_dec : Cd.decG 1 3 0 Cd.S0 = ([97, 10, 98], 0, 0) := by
  have hf : Cd.feed 0 (Cd.unitsU 1 Cd.S0) [] 0 0 = ([97, 13, 10, 98], 0, 0) := by
    unfold Cd.unitsU
    rw [if_pos rfl, Cd.aw_units]
    rfl
  unfold Cd.decG
  rw [hf, if_neg (by decide), if_neg (by decide), Cd.aw_ends]
  rw [show Ru.encs [97, 10, 98] = [97, 10, 98] by decide +kernel]

/-- What a call owns as bytes can be read. -/
theorem Cd.BytesAt.of_own {w : World} {B : Nat} {v : Value} {s : ByteArray} (h : w.ownsRow B 5 1 v s.size ((List.range s.size).map fun j => Value.int .u8 (Cd.byt s j))) : Cd.BytesAt w w.heap.size v s ∧ ∃ ad cap, v = .slice ad s.size cap := by
  rcases h.2 with ⟨hv, h0⟩ | ⟨g, cap, cur, hv, hB, hg, hn, hm, hs, ht⟩
  · exact ⟨.inl ⟨h0, none, 0, by rw [hv]⟩, none, 0, by rw [hv, h0]⟩
  · refine ⟨?_, _, _, hv⟩
    rcases Nat.eq_zero_or_pos s.size with h0 | h0
    · exact .inl ⟨h0, _, _, by rw [hv, h0]⟩
    · refine .inr ⟨h0, g, 0, cap, hv, hn, (Array.getElem?_eq_some_iff.1 hg).1, fun i hi => ?_⟩
      have := h.cells (g := g) (by rw [hv]; rfl) i (.int .u8 (Cd.byt s i)) (by simp [hi])
      rw [← this, Sl.addr_add]

set_option maxHeartbeats 1000000 in
set_option maxRecDepth 1000000 in
theorem Cd.awake_any (w : World) (hT : Lib.Utf8Tabs 0 1 w) (hTB : 0 < w.heap.size ∧ 1 < w.heap.size) :
    Calls Tryd.prog 13 #[] w fun e w' => e = .returned (.bool true) ∧ Below w.heap.size w w' := by
  have HT := Lib.hid hT; clear hT
  have cv := fun (w : World) (C : Array Value) (n c : Nat) => Lib.run_convert_bytes_const (P := Tryd.prog) w 24 5 C n c Tryd.underlying24 Tryd.underlying5
  go_enter Tryd.func13, Tryd.ntmps13
  go_wp2_with fail
  have hb0 : Below w.heap.size w (w.alloc (Obj.cells #[Value.int .u8 97, Value.int .u8 13, Value.int .u8 10, Value.int .u8 98] 5 (4, 4 + 1))) := (Below.refl _ _).alloc (Nat.le_refl _) _
  have hB : Cd.BytesAt (w.alloc (Obj.cells #[Value.int .u8 97, Value.int .u8 13, Value.int .u8 10, Value.int .u8 98] 5 (4, 4 + 1))) (w.alloc (Obj.cells #[Value.int .u8 97, Value.int .u8 13, Value.int .u8 10, Value.int .u8 98] 5 (4, 4 + 1))).heap.size (.slice (some ⟨w.heap.size, 0, none⟩) 4 4) Cd.S0 := by
    refine .inr ⟨by decide, w.heap.size, 0, 4, rfl, by decide, by simp, fun j hj => ?_⟩
    match j, hj with
    | 0, _ => simp only [World.cell?]; rw [heap_alloc_new]; rfl
    | 1, _ => simp only [World.cell?]; rw [heap_alloc_new]; rfl
    | 2, _ => simp only [World.cell?]; rw [heap_alloc_new]; rfl
    | 3, _ => simp only [World.cell?]; rw [heap_alloc_new]; rfl
  have K := Lib.hid (Cd.decode_any Cd.S0 (.slice (some ⟨w.heap.size, 0, none⟩) 4 4) _ 1 3 0 (Cd.tabs_below HT.out hb0 hTB.1 hTB.2) (by simp; omega) (by decide) hB ⟨_, _, rfl⟩)
  rw [Cd.aw_dec] at K
  unfold Cd.coder at K
  have HB0 := Lib.hid hb0; clear hb0 hB
  refine K.out.mono ?_; rintro x w1 ⟨rfl, hb⟩
  have HB := Lib.hid (HB0.out.trans (hb.mono (by simp))); clear hb K
  go_wp2
  go_ret
  exact ⟨rfl, HB.out⟩
end Go.Proofs.YtdpbpkggbgfkgaaDoor
