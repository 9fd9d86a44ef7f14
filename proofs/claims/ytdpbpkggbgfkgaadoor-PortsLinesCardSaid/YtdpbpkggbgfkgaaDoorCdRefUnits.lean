/-
  The walk of sextantref06.Units and of the two functions below it, at whatever bytes.
-/
import Derived.Test.YtdpbpkggbgfkgaaDoorCdRefUtf8
import Derived.Test.YtdpbpkggbgfkgaaDoorCdRef16A
import Derived.Test.YtdpbpkggbgfkgaaDoorCdRef16B
import Derived.Test.YtdpbpkggbgfkgaaDoorCdRef16C
import Derived.Test.YtdpbpkggbgfkgaaDoorCdUnits
namespace Go.Proofs.YtdpbpkggbgfkgaaDoor
open Go.RowKit
set_option linter.unusedVariables false

/-- What the reference's units own. -/
def Cd.UnitsAt (w : World) (B : Nat) (v : Value) (us : List (Int × Bool × Int)) : Prop := w.ownsRow B 54 3 v us.length (Cd.cellsU us)

set_option maxHeartbeats 1000000 in
set_option maxRecDepth 1000000 in
theorem Cd.refUtf8_none (ad : Option Addr) (cap : Nat) (w : World) :
    Calls Tryd.prog 35 #[.slice ad 0 cap] w fun x w' => ∃ v, x = .returned v ∧ Cd.UnitsAt w' w.heap.size v [] ∧ Below w.heap.size w w' := by
  go_enter Tryd.func35, Tryd.ntmps35
  go_wp2
  refine wp_loop_rounds 1 ?_
  rw [rounds_succ]
  go_wp2
  go_ret
  exact ⟨_, rfl, Cd.own_empty3 w 54, (Below.refl _ _).alloc (Nat.le_refl _) _⟩

set_option maxHeartbeats 1000000 in
set_option maxRecDepth 1000000 in
theorem Cd.ref16_none (ad : Option Addr) (cap : Nat) (w : World) :
    Calls Tryd.prog 41 #[.slice ad 0 cap] w fun x w' => ∃ v, x = .returned v ∧ Cd.UnitsAt w' w.heap.size v [] ∧ Below w.heap.size w w' := by
  have hm : ((0 : Int) % 2 == 1) = false := by decide
  go_enter Tryd.func41, Tryd.ntmps41
  go_wp2
  refine wp_loop_rounds 1 ?_
  rw [rounds_succ]
  go_wp2
  refine wp_loop_rounds 1 ?_
  rw [rounds_succ]
  go_wp2
  go_ret
  refine ⟨_, rfl, ?_, ((Below.refl _ _).alloc (Nat.le_refl _) _).alloc (by simp) _⟩
  exact Cd.own_below3 (Cd.own_empty3 w 54) ((Below.refl (w.heap.size + 1) _).alloc (by simp) _) (by simp)

theorem Cd.refUtf8_any (s : ByteArray) (v : Value) (w : World) (hs : s.size ≤ 1099511627000) (hv : Cd.BytesAt w w.heap.size v s) :
    Calls Tryd.prog 35 #[v] w fun x w' => ∃ v, x = .returned v ∧ Cd.UnitsAt w' w.heap.size v ((Cd.utf8U s 0).map Cd.refU) ∧ Below w.heap.size w w' := by
  rcases hv with ⟨h0, ad, cap, rfl⟩ | ⟨h0, b, off, cap, rfl, hcap, hb, hc⟩
  · rw [Cd.utf8U_end s 0 (by omega)]
    exact Cd.refUtf8_none ad cap w
  · exact Cd.refUtf8_some s w b off cap hs hb hc
theorem Cd.ref16_any (s : ByteArray) (v : Value) (w : World) (hs : s.size ≤ 1099511627000) (hv : Cd.BytesAt w w.heap.size v s) :
    Calls Tryd.prog 41 #[v] w fun x w' => ∃ v, x = .returned v ∧ Cd.UnitsAt w' w.heap.size v ((Cd.wideU s (Cd.bom s).2 (Cd.bom s).1).map Cd.refU) ∧ Below w.heap.size w w' := by
  rcases hv with ⟨h0, ad, cap, rfl⟩ | ⟨h0, b, off, cap, rfl, hcap, hb, hc⟩
  · rw [Cd.wideU_end s _ _ (by omega)]
    exact Cd.ref16_none ad cap w
  · rcases Cd.bom_split s with ⟨a, b1, c1, e⟩ | ⟨a, b1, c1, e⟩ | ⟨a, e⟩
    · rw [e]; exact Cd.ref16_A s w b off cap h0 ⟨a, b1, c1⟩ hs hb hc
    · rw [e]; exact Cd.ref16_B s w b off cap h0 ⟨a, b1, c1⟩ hs hb hc
    · rw [e]; exact Cd.ref16_C s w b off cap h0 a hs hb hc

def Cd.unitsR (c : Int) (s : ByteArray) : List Cd.U := if c = 1 then Cd.utf8U s 0 else if c = 3 then Cd.wideU s (Cd.bom s).2 (Cd.bom s).1 else Cd.latinU s 0

set_option maxHeartbeats 1000000 in
set_option maxRecDepth 1000000 in
theorem Cd.unitsRef_latin (c : Int) (s : ByteArray) (w : World) (b off cap : Nat) (h1 : c ≠ 1) (h3 : c ≠ 3) (hs : s.size ≤ 1099511627000) (hb : b < w.heap.size) (hc : ∀ j, j < s.size → w.cell? ⟨b, off + j, none⟩ = some (.int .u8 (Cd.byt s j))) :
    Calls Tryd.prog 29 #[.int .i64 c, .slice (some ⟨b, off, none⟩) s.size cap] w fun x w' => ∃ v, x = .returned v ∧ Cd.UnitsAt w' w.heap.size v ((Cd.latinU s 0).map Cd.refU) ∧ Below w.heap.size w w' := by
  obtain ⟨i0, hi, hz0, hz1, hz2⟩ := info_parts Cd.infoUnit
  have HC := Lib.hid hc; clear hc
  have e1 : (c == 1) = false := by simp [h1]
  have e3 : (c == 3) = false := by simp [h3]
  clear h1 h3
  go_enter Tryd.func29, Tryd.ntmps29
  go_wp2
  go_loopw [5, 6] (fun v i wr => ∃ (k : Nat) (us : List (Int × Bool × Int)), k ≤ s.size ∧ i = .int .i64 k ∧ wr.ownsRow w.heap.size 54 3 v us.length (Cd.cellsU us) ∧ Below w.heap.size w wr ∧ us ++ (Cd.latinU s k).map Cd.refU = (Cd.latinU s 0).map Cd.refU ∧ us.length ≤ k) (fun _ i _ => s.size - (intOf i).toNat)
  case atStart => exact ⟨0, [], Nat.zero_le _, rfl, Cd.own_empty3 w 54, (Below.refl _ _).alloc (Nat.le_refl _) _, by simp, by simp⟩
  case round =>
    obtain ⟨k, us, hk, rfl, hown, hbw, hacc, hal⟩ := hrel
    have HACC := Lib.hid hacc; clear hacc
    have hsw := hbw.size
    by_cases hlt : k < s.size
    · have c0 := (hbw.cell (p := ⟨b, off + k, none⟩) hb).trans (HC.out k hlt)
      have HU := Lib.hid (Cd.latinU_one s k hlt)
      have d0 := Cd.byt_bd s k
      generalize Cd.byt s k = x at *
      go_wp2_with (at_builtin; refine wpList_append_own _ rfl _ _ 51 rfl w.heap.size 54 i0 (.agg #[.int .i32 0, .bool false, .int .i64 0]) 3 16 Tryd.underlying51 hi hz0 hz1 hz2 rfl (by decide) _ _ _ rfl (hown.alloc _) ⟨wr.heap.size, 0, none⟩ 1 1 [_, _, _] rfl rfl (Cd.three_new _ _ _ _ _) ?c2 ?c3 ?c4 ?c5 ?_)
      case c2 => first | rfl | exact ⟨rfl, rfl, rfl⟩ | (intro u hu; simp at hu; rcases hu with rfl | rfl | rfl <;> rfl)
      case c3 => unfold maxLen; omega
      case c4 => omega
      case c5 => first | omega | (simp; omega)
      intro v' w1 hown' hgrow _
      have hbw3 := Cd.below_own3 (hbw.alloc (by omega) _) (hown.alloc _) hgrow (Nat.le_refl _) (by simp; omega)
      clear hown hgrow hbw
      go_wp2
      go_roundw
      case rel =>
        refine ⟨k + 1, us ++ [(x, false, (k : Int))], by omega, by first | rfl | go_num | (simp; try omega), by rw [Cd.cellsU_append, List.length_append]; exact hown', hbw3, ?_, by rw [List.length_append]; show us.length + 1 ≤ _; omega⟩
        rw [← HACC.out, HU.out, List.append_assoc]
        rfl
      case measure => simp [intOf]; omega
    · have hacc2 := HACC.out
      rw [Cd.latinU_end s k hlt, List.map_nil, List.append_nil] at hacc2
      have HACC2 := Lib.hid hacc2; clear hacc2
      go_wp2
      go_ret
      rw [← HACC2.out]
      exact ⟨_, rfl, hown, hbw⟩

set_option maxHeartbeats 1000000 in
set_option maxRecDepth 1000000 in
theorem Cd.unitsRef_latin0 (c : Int) (ad : Option Addr) (cap : Nat) (w : World) (h1 : c ≠ 1) (h3 : c ≠ 3) :
    Calls Tryd.prog 29 #[.int .i64 c, .slice ad 0 cap] w fun x w' => ∃ v, x = .returned v ∧ Cd.UnitsAt w' w.heap.size v [] ∧ Below w.heap.size w w' := by
  have e1 : (c == 1) = false := by simp [h1]
  have e3 : (c == 3) = false := by simp [h3]
  clear h1 h3
  go_enter Tryd.func29, Tryd.ntmps29
  go_wp2
  refine wp_loop_rounds 1 ?_
  rw [rounds_succ]
  go_wp2
  go_ret
  exact ⟨_, rfl, Cd.own_empty3 w 54, (Below.refl _ _).alloc (Nat.le_refl _) _⟩

set_option maxHeartbeats 1000000 in
set_option maxRecDepth 1000000 in
theorem Cd.unitsRef_any (c : Int) (s : ByteArray) (v : Value) (w : World) (hs : s.size ≤ 1099511627000) (hv : Cd.BytesAt w w.heap.size v s) :
    Calls Tryd.prog 29 #[.int .i64 c, v] w fun x w' => ∃ v, x = .returned v ∧ Cd.UnitsAt w' w.heap.size v ((Cd.unitsR c s).map Cd.refU) ∧ Below w.heap.size w w' := by
  unfold Cd.unitsR
  by_cases h1 : c = 1
  · subst h1
    rw [if_pos rfl]
    have K := Lib.hid (Cd.refUtf8_any s v w hs hv)
    clear hv
    generalize (Cd.utf8U s 0).map Cd.refU = us at *
    go_enter Tryd.func29, Tryd.ntmps29
    go_wp2_with fail
    refine K.out.mono ?_; rintro x w1 ⟨v1, rfl, ho, hb⟩
    have HO := Lib.hid ho; clear ho
    have HB := Lib.hid hb; clear hb
    go_wp2
    go_ret
    exact ⟨_, rfl, HO.out, HB.out⟩
  rw [if_neg h1]
  by_cases h3 : c = 3
  · subst h3
    rw [if_pos rfl]
    have K := Lib.hid (Cd.ref16_any s v w hs hv)
    clear hv
    generalize (Cd.wideU s (Cd.bom s).2 (Cd.bom s).1).map Cd.refU = us at *
    go_enter Tryd.func29, Tryd.ntmps29
    go_wp2_with fail
    refine K.out.mono ?_; rintro x w1 ⟨v1, rfl, ho, hb⟩
    have HO := Lib.hid ho; clear ho
    have HB := Lib.hid hb; clear hb
    go_wp2
    go_ret
    exact ⟨_, rfl, HO.out, HB.out⟩
  rw [if_neg h3]
  rcases hv with ⟨h0, ad, cap, rfl⟩ | ⟨h0, b, off, cap, rfl, hcap, hb, hc⟩
  · rw [Cd.latinU_end s 0 (by omega)]
    exact Cd.unitsRef_latin0 c ad cap w h1 h3
  · exact Cd.unitsRef_latin c s w b off cap h1 h3 hs hb hc
end Go.Proofs.YtdpbpkggbgfkgaaDoor
