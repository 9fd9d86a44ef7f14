/-
  PROVED HERE: CodecModesCardSaid: whatever the transcoder, the bytes and the text, the call of sextantlaw06.CodecModes returns true, and the arguments read as they did. Conditions: none of ours; package utf8's two tables hold what their initialisers lay (tied by the card).
-/
import Derived.Test.YtdpbpkggbgfkgaaDoorCards
import Derived.Test.YtdpbpkggbgfkgaaDoorTie
import Derived.WalkKit
import Derived.ProofKit
import Derived.OpenShut
import Derived.ShutString
import Derived.JoinedCond
import Derived.Lib.Hide
import Derived.Deep.DeepHandedRow
import Derived.PinnedBridge
import Derived.Lib.LaidU8T
import Derived.Lay
import Derived.LaidOnce
import Derived.SevenTiedAt
import Derived.SizedLaws
import Derived.Carry
import Derived.Lib.SmallJoins
import Derived.Test.YtdpbpkggbgfkgaaDoorCdTheory4
import Derived.Test.YtdpbpkggbgfkgaaDoorCdAwake
import Derived.Test.YtdpbpkggbgfkgaaDoorSame
import Derived.Outline
namespace Go.Proofs.YtdpbpkggbgfkgaaDoor
open Go.RowKit
set_option linter.unusedVariables false

theorem By.In.set {w : World} {v : Value} {s : ByteArray} (h : By.In w v s) {B k : Nat} {x : Value} (hB : ∀ off y, w.cell? ⟨B, off, none⟩ ≠ some (.int .u8 y)) : By.In (w.setCell ⟨B, k, none⟩ x) v s := by
  rcases h with h | h | ⟨h0, b, off, cap, hv, h1, h2, hc⟩
  · exact .inl h
  · exact .inr (.inl h)
  · have hne : b ≠ B := by
      rintro rfl
      exact hB _ _ (hc 0 h0)
    refine .inr (.inr ⟨h0, b, off, cap, hv, h1, by rw [World.size_setCell]; exact h2, fun j hj => ?_⟩)
    exact (World.cell?_of_block (w := w) (w' := w.setCell ⟨B, k, none⟩ x) (a := ⟨b, off + j, none⟩) (Below.heap_setCell _ _ _ _ hne)).trans (hc j hj)
theorem Cd.no_bytes {w : World} {B : Nat} {c l m : Int} (h : w.heap[B]? = some (.cells #[.int .i64 c, .int .i64 l, .int .i64 m] 23 (0, 0))) (off : Nat) (y : Int) : w.cell? ⟨B, off, none⟩ ≠ some (.int .u8 y) := by
  simp only [World.cell?, h]
  rcases off with _ | _ | _ | off <;> simp
theorem Cd.set_mode {w : World} {B : Nat} {c l m m2 : Int} (h : w.heap[B]? = some (.cells #[.int .i64 c, .int .i64 l, .int .i64 m] 23 (0, 0))) : (w.setCell ⟨B, 2, none⟩ (.int .i64 m2)).heap[B]? = some (.cells #[.int .i64 c, .int .i64 l, .int .i64 m2] 23 (0, 0)) := by
  obtain ⟨hlt, hk⟩ := Array.getElem?_eq_some_iff.1 h
  show (w.heap.modify B _)[B]? = _
  rw [Array.getElem?_eq_getElem (by rw [Array.size_modify]; exact hlt), Array.getElem_modify_self, hk]
  rfl

set_option maxHeartbeats 4000000 in
set_option maxRecDepth 1000000 in
theorem codecModes.walk (c l m : Int) (v : Value) (b : ByteArray) (s : ByteArray) (w : World) (hbs : b.size ≤ 140737488351232) (hv : By.In w v b) (hs : s.size ≤ 140737488351232) (hT : Lib.Utf8Tabs 0 1 w) (hTB : 0 < w.heap.size ∧ 1 < w.heap.size) :
    Calls Tryd.prog 7 #[Cd.coder c l m, v, .string s] w fun e w' => e = .returned (.bool true) ∧ Below w.heap.size w w' := by
  have HT := Lib.hid hT; clear hT
  have KA := fun w h1 h2 => Cd.awake_any w h1 h2
  have KC := Lib.hid (fun w => Cd.check_any c l 0 w)
  obtain ⟨ad, cap, rfl⟩ := hv.slice
  have HV := Lib.hid hv; clear hv
  have hz0 : w.heap.size < (w.alloc (Obj.cells #[.int .i64 c, .int .i64 l, .int .i64 0] 23)).heap.size := by simp
  have HB0 := Lib.hid (show Below w.heap.size w (w.alloc (Obj.cells #[.int .i64 c, .int .i64 l, .int .i64 0] 23)) from (Below.refl _ _).alloc (Nat.le_refl _) _)
  have HQ := Lib.hid (heap_alloc_new w (Obj.cells #[.int .i64 c, .int .i64 l, .int .i64 0] 23))
  have HV0 := Lib.hid (HV.out.below HB0.out (Nat.le_refl _))
  have hb65 : (decide ((b.size : Int) > 65536)) = decide (b.size > 65536) := by simp; omega
  unfold Cd.coder at *
  go_enter Tryd.func7, Tryd.ntmps7
  go_wp2_with fail
  refine (KA _ (Cd.tabs_below HT.out HB0.out hTB.1 hTB.2) (by omega)).mono ?_
  rintro x w1 ⟨rfl, hb1⟩
  have HB1 := Lib.hid (HB0.out.trans (hb1.mono (Nat.le_of_lt hz0)))
  have hz1 : w.heap.size < w1.heap.size := Nat.lt_of_lt_of_le hz0 hb1.size
  have HQ1 := Lib.hid ((hb1.block _ hz0).trans HQ.out)
  have HV1 := Lib.hid (HV0.out.below hb1 (Nat.le_refl _))
  obtain ⟨f0, f1, f2⟩ := Cd.coder_cells HQ.out hb1 hz0
  clear hb1
  go_wp2_with fail
  refine (KC.out _).mono ?_
  rintro x w2 ⟨rfl, hb2⟩
  have HB2 := Lib.hid (HB1.out.trans (hb2.mono (Nat.le_of_lt hz1)))
  have hz2 : w.heap.size < w2.heap.size := Nat.lt_of_lt_of_le hz1 hb2.size
  have HQ2 := Lib.hid ((hb2.block _ hz1).trans HQ1.out)
  have HV2 := Lib.hid (HV1.out.below hb2 (Nat.le_refl _))
  clear hb2 f0 f1 f2
  by_cases hgood : Cd.chk c l 0 = 0 ∧ b.size ≤ 65536 ∧ s.size ≤ 65536
  · obtain ⟨k0z, kb, ks⟩ := hgood
    have hc0 : Cd.chkN c l 0 b.size = 0 := by
      rcases Cd.chkN_split c l 0 b.size with h | h | h <;> omega
    have hc1 : Cd.chkN c l 0 s.size = 0 := by
      rcases Cd.chkN_split c l 0 s.size with h | h | h <;> omega
    have hd := Cd.dec_modes c l b hc0
    have he := Cd.enc_modes c l s hc1
    have kn : (Cd.chk c l 0 != 0) = false := by simp [k0z]
    have k1 : (b.size : Int) ≤ 65536 := by omega
    have k2 : (s.size : Int) ≤ 65536 := by omega
    have KD0 := fun v w h1 h2 h3 h4 h5 => Cd.decode_any b v w c l 0 h1 h2 h3 h4 h5
    have KE0 := fun w h1 h2 => Cd.encode_any s w c l 0 (by omega) h1 h2
    have hxl0 := Cd.encG_len c l 0 s
    generalize Cd.decG c l 0 b = D0 at *
    generalize Cd.encG c l 0 s = E0 at *
    obtain ⟨x0, a0, k0⟩ := D0
    obtain ⟨y0, o0, q0⟩ := E0
    have KD1 := fun v w h1 h2 h3 h4 h5 => Cd.decode_any b v w c l 1 h1 h2 h3 h4 h5
    have KE1 := fun w h1 h2 => Cd.encode_any s w c l 1 (by omega) h1 h2
    have hxl1 := Cd.encG_len c l 1 s
    generalize Cd.decG c l 1 b = D1 at *
    generalize Cd.encG c l 1 s = E1 at *
    obtain ⟨x1, a1, k1⟩ := D1
    obtain ⟨y1, o1, q1⟩ := E1
    have KD2 := fun v w h1 h2 h3 h4 h5 => Cd.decode_any b v w c l 2 h1 h2 h3 h4 h5
    have KE2 := fun w h1 h2 => Cd.encode_any s w c l 2 (by omega) h1 h2
    have hxl2 := Cd.encG_len c l 2 s
    generalize Cd.decG c l 2 b = D2 at *
    generalize Cd.encG c l 2 s = E2 at *
    obtain ⟨x2, a2, k2⟩ := D2
    obtain ⟨y2, o2, q2⟩ := E2
    obtain ⟨d1, d2, d3, d4⟩ := hd
    obtain ⟨e1, e2, e3, e4⟩ := he
    simp only at d1 d2 d3 d4 e1 e2 e3 e4 hxl0 hxl1 hxl2 KD0 KD1 KD2 KE0 KE1 KE2
    subst d1 d2 e1 e2
    have D3 := Lib.hid d3
    have E3 := Lib.hid e3
    have D4 : (x2.length : Int) ≤ (x1.length : Int) := by omega
    have E4 : (y2.length : Int) ≤ (y1.length : Int) := by omega
    clear d3 e3 d4 e4 k0z
    generalize Cd.chk c l 0 = z at *
    obtain ⟨f0, f1, f2⟩ := Cd.coder_cells HQ2.out (Below.refl w2.heap.size w2) hz2
    go_wp2_with fail
    refine (KD0 _ _ (Cd.tabs_below HT.out HB2.out hTB.1 hTB.2) (by omega) (by omega) (Cd.BytesAt.ofIn HV2.out) HV2.out.slice).mono ?_
    rintro x w3 ⟨rfl, hb3⟩
    have HB3 := Lib.hid (HB2.out.trans (hb3.mono (Nat.le_of_lt hz2)))
    have hz3 : w.heap.size < w3.heap.size := Nat.lt_of_lt_of_le hz2 hb3.size
    have HQ3 := Lib.hid ((hb3.block _ hz2).trans HQ2.out)
    have HV3 := Lib.hid (HV.out.below HB3.out (Nat.le_refl _))
    clear hb3 KD0
    clear f0 f1 f2
    obtain ⟨f0, f1, f2⟩ := Cd.coder_cells HQ3.out (Below.refl w3.heap.size w3) hz3
    go_wp2_with fail
    refine (KE0 _ (Cd.tabs_below HT.out HB3.out hTB.1 hTB.2) (by omega)).mono ?_
    rintro x w4 ⟨v4, rfl, hin4, hb4⟩
    have HB4 := Lib.hid (HB3.out.trans (hb4.mono (Nat.le_of_lt hz3)))
    have hz4 : w.heap.size < w4.heap.size := Nat.lt_of_lt_of_le hz3 hb4.size
    have HQ4 := Lib.hid ((hb4.block _ hz3).trans HQ3.out)
    have HV4 := Lib.hid (HV.out.below HB4.out (Nat.le_refl _))
    have HI0 := Lib.hid hin4
    clear hin4 hb4 f0 f1 f2 KE0
    obtain ⟨f0, f1, f2⟩ := Cd.coder_cells HQ4.out (Below.refl w4.heap.size w4) hz4
    have hfz : w4.frozen? ⟨w.heap.size, 2, none⟩ = false := by simp [World.frozen?, HQ4.out]
    go_wp2_with fail
    clear f0 f1 f2 hfz
    generalize hw5 : w4.setCell ⟨w.heap.size, 2, none⟩ (.int .i64 1) = w5
    have HB5 := Lib.hid (show Below w.heap.size w w5 by rw [← hw5]; exact HB4.out.setCell (Nat.le_refl _) _)
    have hz5 : w.heap.size < w5.heap.size := by rw [← hw5, World.size_setCell]; exact hz4
    have HQ5 := Lib.hid (show w5.heap[w.heap.size]? = some (.cells #[.int .i64 c, .int .i64 l, .int .i64 1] 23 (0, 0)) by rw [← hw5]; exact Cd.set_mode HQ4.out)
    have HV5 := Lib.hid (HV.out.below HB5.out (Nat.le_refl _))
    have HI0 := Lib.hid (show By.In w5 v4 ⟨y0.toArray⟩ by rw [← hw5]; exact HI0.out.set (Cd.no_bytes HQ4.out))
    clear hw5
    refine (KD1 _ _ (Cd.tabs_below HT.out HB5.out hTB.1 hTB.2) (by omega) (by omega) (Cd.BytesAt.ofIn HV5.out) HV5.out.slice).mono ?_
    rintro x w6 ⟨rfl, hb6⟩
    have HB6 := Lib.hid (HB5.out.trans (hb6.mono (Nat.le_of_lt hz5)))
    have hz6 : w.heap.size < w6.heap.size := Nat.lt_of_lt_of_le hz5 hb6.size
    have HQ6 := Lib.hid ((hb6.block _ hz5).trans HQ5.out)
    have HV6 := Lib.hid (HV.out.below HB6.out (Nat.le_refl _))
    have HI0 := Lib.hid (HI0.out.below hb6 (Nat.le_refl _))
    clear hb6 KD1
    obtain ⟨f0, f1, f2⟩ := Cd.coder_cells HQ6.out (Below.refl w6.heap.size w6) hz6
    go_wp2_with fail
    refine (KE1 _ (Cd.tabs_below HT.out HB6.out hTB.1 hTB.2) (by omega)).mono ?_
    rintro x w7 ⟨v7, rfl, hin7, hb7⟩
    have HB7 := Lib.hid (HB6.out.trans (hb7.mono (Nat.le_of_lt hz6)))
    have hz7 : w.heap.size < w7.heap.size := Nat.lt_of_lt_of_le hz6 hb7.size
    have HQ7 := Lib.hid ((hb7.block _ hz6).trans HQ6.out)
    have HV7 := Lib.hid (HV.out.below HB7.out (Nat.le_refl _))
    have HI0 := Lib.hid (HI0.out.below hb7 (Nat.le_refl _))
    have HI1 := Lib.hid hin7
    clear hin7 hb7 f0 f1 f2 KE1
    obtain ⟨f0, f1, f2⟩ := Cd.coder_cells HQ7.out (Below.refl w7.heap.size w7) hz7
    have hfz : w7.frozen? ⟨w.heap.size, 2, none⟩ = false := by simp [World.frozen?, HQ7.out]
    go_wp2_with fail
    clear f0 f1 f2 hfz
    generalize hw8 : w7.setCell ⟨w.heap.size, 2, none⟩ (.int .i64 2) = w8
    have HB8 := Lib.hid (show Below w.heap.size w w8 by rw [← hw8]; exact HB7.out.setCell (Nat.le_refl _) _)
    have hz8 : w.heap.size < w8.heap.size := by rw [← hw8, World.size_setCell]; exact hz7
    have HQ8 := Lib.hid (show w8.heap[w.heap.size]? = some (.cells #[.int .i64 c, .int .i64 l, .int .i64 2] 23 (0, 0)) by rw [← hw8]; exact Cd.set_mode HQ7.out)
    have HV8 := Lib.hid (HV.out.below HB8.out (Nat.le_refl _))
    have HI0 := Lib.hid (show By.In w8 v4 ⟨y0.toArray⟩ by rw [← hw8]; exact HI0.out.set (Cd.no_bytes HQ7.out))
    have HI1 := Lib.hid (show By.In w8 v7 ⟨y1.toArray⟩ by rw [← hw8]; exact HI1.out.set (Cd.no_bytes HQ7.out))
    clear hw8
    refine (KD2 _ _ (Cd.tabs_below HT.out HB8.out hTB.1 hTB.2) (by omega) (by omega) (Cd.BytesAt.ofIn HV8.out) HV8.out.slice).mono ?_
    rintro x w9 ⟨rfl, hb9⟩
    have HB9 := Lib.hid (HB8.out.trans (hb9.mono (Nat.le_of_lt hz8)))
    have hz9 : w.heap.size < w9.heap.size := Nat.lt_of_lt_of_le hz8 hb9.size
    have HQ9 := Lib.hid ((hb9.block _ hz8).trans HQ8.out)
    have HV9 := Lib.hid (HV.out.below HB9.out (Nat.le_refl _))
    have HI0 := Lib.hid (HI0.out.below hb9 (Nat.le_refl _))
    have HI1 := Lib.hid (HI1.out.below hb9 (Nat.le_refl _))
    clear hb9 KD2
    obtain ⟨f0, f1, f2⟩ := Cd.coder_cells HQ9.out (Below.refl w9.heap.size w9) hz9
    go_wp2_with fail
    refine (KE2 _ (Cd.tabs_below HT.out HB9.out hTB.1 hTB.2) (by omega)).mono ?_
    rintro x w10 ⟨v10, rfl, hin10, hb10⟩
    have HB10 := Lib.hid (HB9.out.trans (hb10.mono (Nat.le_of_lt hz9)))
    have hz10 : w.heap.size < w10.heap.size := Nat.lt_of_lt_of_le hz9 hb10.size
    have HQ10 := Lib.hid ((hb10.block _ hz9).trans HQ9.out)
    have HV10 := Lib.hid (HV.out.below HB10.out (Nat.le_refl _))
    have HI0 := Lib.hid (HI0.out.below hb10 (Nat.le_refl _))
    have HI1 := Lib.hid (HI1.out.below hb10 (Nat.le_refl _))
    have HI2 := Lib.hid hin10
    clear hin10 hb10 f0 f1 f2 KE2
    obtain ⟨f0, f1, f2⟩ := Cd.coder_cells HQ10.out (Below.refl w10.heap.size w10) hz10
    obtain ⟨ad0, cp0, hv0⟩ := HI0.out.slice
    obtain ⟨ad1, cp1, hv1⟩ := HI1.out.slice
    obtain ⟨ad2, cp2, hv2⟩ := HI2.out.slice
    rw [Cd.size_mk] at hv0 hv1 hv2
    subst hv0 hv1 hv2
    clear f0 f1 f2
    rcases D3.out with h0 | ⟨h0, h1, h2⟩ <;> rcases E3.out with g0 | ⟨g0, g1, g2⟩
    all_goals clear D3 E3
    all_goals subst h0 g0
    · go_wp2_with fail
      go_ret
      exact ⟨rfl, HB10.out⟩
    · subst g1
      subst g2
      go_wp2_with fail
      refine (By.same_any ⟨y0.toArray⟩ (.slice ad0 y0.length cp0) (.slice ad1 y0.length cp1) w10 (by rw [Cd.size_mk]; omega) HI0.out HI1.out).mono ?_
      rintro x w11 ⟨rfl, hb11⟩
      have HB11 := Lib.hid (HB10.out.trans (hb11.mono (Nat.le_of_lt hz10)))
      have hz11 : w.heap.size < w11.heap.size := Nat.lt_of_lt_of_le hz10 hb11.size
      have HI0 := Lib.hid (HI0.out.below hb11 (Nat.le_refl _))
      have HI1 := Lib.hid (HI1.out.below hb11 (Nat.le_refl _))
      have HI2 := Lib.hid (HI2.out.below hb11 (Nat.le_refl _))
      clear hb11
      go_wp2_with fail
      refine (By.same_any ⟨y0.toArray⟩ (.slice ad0 y0.length cp0) (.slice ad2 y0.length cp2) w11 (by rw [Cd.size_mk]; omega) HI0.out HI2.out).mono ?_
      rintro x w12 ⟨rfl, hb12⟩
      have HB12 := Lib.hid (HB11.out.trans (hb12.mono (Nat.le_of_lt hz11)))
      have hz12 : w.heap.size < w12.heap.size := Nat.lt_of_lt_of_le hz11 hb12.size
      have HI0 := Lib.hid (HI0.out.below hb12 (Nat.le_refl _))
      have HI1 := Lib.hid (HI1.out.below hb12 (Nat.le_refl _))
      have HI2 := Lib.hid (HI2.out.below hb12 (Nat.le_refl _))
      clear hb12
      go_wp2_with fail
      go_ret
      exact ⟨rfl, HB12.out⟩
    · subst h1
      subst h2
      go_wp2_with fail
      go_ret
      exact ⟨rfl, HB10.out⟩
    · subst g1
      subst g2
      subst h1
      subst h2
      go_wp2_with fail
      refine (By.same_any ⟨y0.toArray⟩ (.slice ad0 y0.length cp0) (.slice ad1 y0.length cp1) w10 (by rw [Cd.size_mk]; omega) HI0.out HI1.out).mono ?_
      rintro x w11 ⟨rfl, hb11⟩
      have HB11 := Lib.hid (HB10.out.trans (hb11.mono (Nat.le_of_lt hz10)))
      have hz11 : w.heap.size < w11.heap.size := Nat.lt_of_lt_of_le hz10 hb11.size
      have HI0 := Lib.hid (HI0.out.below hb11 (Nat.le_refl _))
      have HI1 := Lib.hid (HI1.out.below hb11 (Nat.le_refl _))
      have HI2 := Lib.hid (HI2.out.below hb11 (Nat.le_refl _))
      clear hb11
      go_wp2_with fail
      refine (By.same_any ⟨y0.toArray⟩ (.slice ad0 y0.length cp0) (.slice ad2 y0.length cp2) w11 (by rw [Cd.size_mk]; omega) HI0.out HI2.out).mono ?_
      rintro x w12 ⟨rfl, hb12⟩
      have HB12 := Lib.hid (HB11.out.trans (hb12.mono (Nat.le_of_lt hz11)))
      have hz12 : w.heap.size < w12.heap.size := Nat.lt_of_lt_of_le hz11 hb12.size
      have HI0 := Lib.hid (HI0.out.below hb12 (Nat.le_refl _))
      have HI1 := Lib.hid (HI1.out.below hb12 (Nat.le_refl _))
      have HI2 := Lib.hid (HI2.out.below hb12 (Nat.le_refl _))
      clear hb12
      go_wp2_with fail
      go_ret
      exact ⟨rfl, HB12.out⟩
  · go_wp2_with fail
    all_goals
      refine (KA _ (Cd.tabs_below HT.out HB2.out hTB.1 hTB.2) (by omega)).mono ?_
      rintro x w4 ⟨rfl, hb4⟩
      have HB4 := Lib.hid (HB2.out.trans (hb4.mono (Nat.le_of_lt hz2)))
      clear hb4
      go_wp2
      go_ret
      exact ⟨rfl, HB4.out⟩
end Go.Proofs.YtdpbpkggbgfkgaaDoor
namespace Go.Proofs.YtdpbpkggbgfkgaaDoor.codecModes
open Go.ChangeShapes Go.WideShapes Go.ChangeAt Go.RowKit Go.Joins
open Go.ChangeMaps (open_string shut_string)
set_option linter.unusedVariables false
set_option linter.unusedSimpArgs false

theorem own : ownKnob Tryd.prog.godebug = none := by kernel_rfl
theorem laidOut : laidOutB Tryd.prog = true := by kernel_rfl
theorem cellsC : Tryd.prog.cellsOf 23 = 3 := by kernel_rfl
theorem cellsB : Tryd.prog.cellsOf 5 = 1 := by kernel_rfl
theorem bytesB : Tryd.prog.bytesOf 5 = 1 := by kernel_rfl
def args0 : Array Value := #[.agg #[.int .i64 0, .int .i64 0, .int .i64 0], .slice none 0 0, .string .empty]
theorem laid_met (os : Os) : laidMetH Tryd.prog Rows.codecModesRow.laid ((World.laidAll Tryd.prog os Rows.codecModesRow.laid).forCall (fun _ _ => 0) ⟨#[], args0, []⟩).memory := by
  rw [MakeChecks.laidMetH_plain _ _ _ (by kernel_rfl)]
  exact laidMet_laidAll _ (by kernel_rfl) (by kernel_rfl)
theorem reads (os : Os) {H : Type} (enc : TypeId × Value → H) : ∃ places, DataW.whole enc Tryd.prog ((World.laidAll Tryd.prog os Rows.codecModesRow.laid).forCall (fun _ _ => 0) ⟨#[], args0, []⟩).memory Tryd.f7.params.toList Rows.codecModesSpec.vars false args0.toList 8 = some ([.agg [.lit (.int .i64 0), .lit (.int .i64 0), .lit (.int .i64 0)], .nil, .lit (.string [])], [], places) :=
  ⟨[], by kernel_rfl⟩
theorem xU8 : U8Extra Tryd.prog Tryd.lays260_ren := ⟨by kernel_rfl, by kernel_rfl, by kernel_rfl, by kernel_rfl, by kernel_rfl, by kernel_rfl, by kernel_rfl⟩
theorem accEq : (Rows.laid_unicode_utf8_acceptRanges : DataW Unit) = Lib.acceptData := by kernel_rfl
theorem tabs {W : World} (hL : laidMetH Tryd.prog Rows.codecModesRow.laid W) : Lib.Utf8Tabs 0 1 W := by
  rw [MakeChecks.laidMetH_plain _ _ _ (by kernel_rfl)] at hL
  exact utf8Tabs_of_readsT (U8Types.of260 Tryd.lays260) xU8 (Pinned.utf8First_eq ▸ Lib.laidMet.reads hL (.tail _ (.head _))) (accEq ▸ Lib.laidMet.reads hL (.head _))
theorem tabsLt {W : World} (h : Lib.Utf8Tabs 0 1 W) : 0 < W.heap.size ∧ 1 < W.heap.size :=
  ⟨World.block_lt_of_cell? W _ (h.1 0 (by decide)), World.block_lt_of_cell? W _ (h.2 0 (by decide)).1⟩

set_option maxRecDepth 100000 in
theorem lifted (os : Os) (started : os.Started) (H : Type) (enc : TypeId × Value → H) (F : Stop.Interp) :
    ReturnsInHanded {} Tryd.checked os 7 .any ((OpenSpec.ofChange Rows.codecModesSpec).preRow enc Tryd.prog Tryd.f7 Rows.codecModesRow.domain false Rows.codecModesRow.laid) (((OpenSpec.ofChange Rows.codecModesSpec).at F).post enc Tryd.prog Tryd.f7 false true false false) := by
  obtain ⟨places, hx⟩ := reads os enc
  refine returnsInHanded_of_row (C := Tryd.checked) (s := OpenSpec.ofChange Rows.codecModesSpec) own started (by kernel_rfl) Tryd.func7
    (witness_row_at (enc := enc) (C := Tryd.checked) false (World.laidAll Tryd.prog os Rows.codecModesRow.laid) args0 (World.laidAll_os _ _ _) (by kernel_rfl) (by kernel_rfl) (by kernel_rfl)
      (OpenSpec.preRow_of_cond 8 hx (by kernel_rfl) (fun k hk => by cases hk) (by kernel_rfl) (laid_met os))) ?_
  intro W base args ds gs before hval hW _ hcond hsz hL hshaped _
  have hW' := hW
  obtain ⟨p, q, hA0, hV, rfl, hfz, hnd⟩ := hW
  have hA : DataW.TrodAll enc Tryd.prog W 0 (fun _ => true) true Tryd.f7.params.toList args.toList ds p := hA0
  rw [Tryd.params7] at hA hval
  obtain ⟨v0, vs0, d0, ds0, p0, q0, hargs, rfl, rfl, h0, r0⟩ := trodAll_cons hA
  obtain ⟨v1, vs1, d1, ds1, p1, q1, rfl, rfl, rfl, h1, r1⟩ := trodAll_cons r0
  obtain ⟨v2, vs2, d2, ds2, p2, q2, rfl, rfl, rfl, h2, r2⟩ := trodAll_cons r1
  obtain ⟨rfl, rfl, rfl⟩ := trodAll_nil r2
  obtain rfl : args = #[v0, v1, v2] := by cases args; simp_all
  obtain ⟨rfl, rfl⟩ := trodVars_none hV
  clear hA0
  simp only [List.append_nil] at hW'
  have k0 := h0
  have lt0 : ∀ x ∈ p0, x.block < W.heap.size := fun x hx => by simpa using hW'.lt x (by simp [hx])
  have k1 := h1
  have lt1 : ∀ x ∈ p1, x.block < W.heap.size := fun x hx => by simpa using hW'.lt x (by simp [hx])
  have k2 := h2
  have lt2 : ∀ x ∈ p2, x.block < W.heap.size := fun x hx => by simpa using hW'.lt x (by simp [hx])
  have hsz2 : (DataW.weightsEach Tryd.prog [23, 24, 9] [d0, d1, d2]).all (· ≤ reachBytes) = true := by
    have := hsz
    rw [Tryd.params7] at this
    exact this
  obtain ⟨cv0, lv0, mv0, y0a, y0b, y0c, m0, rfl, rfl, rfl, hy0a, hy0b, hy0c⟩ := open_agg3 Tryd.underlying23 (by kernel_rfl) cellsC (hval 0 23 v0 rfl rfl) h0
  obtain ⟨n0a, e0a, rfl, w0a⟩ := DataW.trod_int Tryd.underlying3 hy0a
  obtain ⟨n0b, e0b, rfl, w0b⟩ := DataW.trod_int Tryd.underlying3 hy0b
  obtain ⟨n0c, e0c, rfl, w0c⟩ := DataW.trod_int Tryd.underlying3 hy0c
  simp only [List.cons.injEq, and_true] at e0a e0b e0c
  subst e0a e0b e0c
  obtain ⟨s1, hin1, hd1⟩ := By.In.open Tryd.underlying24 Tryd.underlying5 cellsB (okWide_slice Tryd.underlying24 (hval 1 24 v1 rfl rfl)) h1
  have hs1 : s1.size ≤ 140737488351232 := by
    rcases hd1 with ⟨_, h⟩ | ⟨elems, spare, rfl, h⟩
    · omega
    · have := sized_slice hsz2 (j := 1) (t := 24) (e := 5) rfl rfl Tryd.underlying24
      rw [bytesB] at this
      simp only [reachBytes] at this
      omega
  obtain ⟨s2, rfl, rfl, rfl, hmax2⟩ := open_string Tryd.underlying9 (hval 2 9 v2 rfl rfl) h2
  have hs2 : s2.size ≤ 140737488351232 := by
    have := sized_string hsz2 (j := 2) (t := 9) rfl rfl
    simp only [reachBytes] at this
    simpa using this
  have hT := tabs hL
  refine (walk n0a n0b n0c v1 s1 s2 W hs1 hin1 hs2 hT (tabsLt hT)).mono fun e W' ⟨he, bel⟩ => ?_
  subst he
  exact ⟨_, rfl, _, _, _, [], _, [], hW', trodAll_mk1 (shut_bool Tryd.underlying4 _), (trodAll_cons_mk (Below.trod laidOut (by kernel_rfl) (of_decide_eq_true (by kernel_rfl)) k0 bel lt0) (trodAll_cons_mk (Below.trod laidOut (by kernel_rfl) (of_decide_eq_true (by kernel_rfl)) k1 bel lt1) (trodAll_cons_mk (Below.trod laidOut (by kernel_rfl) (of_decide_eq_true (by kernel_rfl)) k2 bel lt2) trodAll_mk0))), rfl, bel.frame _, fun h => by cases h⟩

theorem said : Rows.CodecModesSaid :=
  OpenClaim.holds_of_cond 7 Tryd.f7 rfl rfl rfl rfl rfl rfl rfl ⟨rfl, rfl, rfl, rfl, rfl⟩ rfl rfl rfl rfl rfl (by kernel_rfl) Tryd.func7 (by kernel_rfl)
    (of_decide_eq_true (by kernel_rfl)) (by unfold Func.isWrapper; first | (rw [if_pos (by decide +kernel)]; kernel_rfl) | (rw [if_neg (by decide +kernel)]; exact ⟨rfl, rfl⟩))
    (fun os started H enc _ F => by rw [OpenClaim.pre_eq_preRow]; exact lifted os started H enc F)

theorem plain (f : FuncId) (fn : Func) (hf : Tryd.pinned.checked.prog.funcNamed "sextant/sextantlaw06.CodecModes" = some f) (hfn : Tryd.pinned.checked.prog.funcs[f]? = some fn) :
    false = Tryd.pinned.checked.prog.looks [] ∧ ∀ (j : Nat) t, fn.params[j]? = some t → Tryd.pinned.checked.prog.wantsStandIn t = false := by
  obtain rfl : f = 7 := Option.some.inj ((show Tryd.prog.funcNamed "sextant/sextantlaw06.CodecModes" = some 7 by kernel_rfl).symm.trans hf) |>.symm
  obtain rfl : fn = Tryd.f7 := (Option.some.inj (Tryd.func7.symm.trans hfn)).symm
  refine ⟨by kernel_rfl, fun j t ht => ?_⟩
  rw [Tryd.params7] at ht
  have hm : t ∈ [23, 24, 9] := by simpa using Array.mem_of_getElem? ht
  have hall : ([23, 24, 9].all fun u => !Tryd.prog.wantsStandIn u) = true := by kernel_rfl
  exact (show Tryd.prog.wantsStandIn t = false by simpa using List.all_eq_true.1 hall t hm)

theorem card : Rows.CodecModesCardSaid :=
  Claim7.holds_tied_plain_at .later [] _ _ _ _ said (fun _ h => by cases h) (by kernel_rfl) (fun _ h => by cases h) codecModes_row_tie rfl ⟨rfl, rfl⟩ (by kernel_rfl) rfl plain (by kernel_rfl)
end Go.Proofs.YtdpbpkggbgfkgaaDoor.codecModes
