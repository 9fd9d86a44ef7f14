/-
  PROVED HERE: CodecPlacesCardSaid: whatever the transcoder, the bytes and the text, the call of sextantlaw06.CodecPlaces returns true, and the arguments read as they did. Conditions: none of ours; package utf8's two tables hold what their initialisers lay (tied by the card).
-/
import Derived.Test.YtdpbpkggbgfkgaaDoorCards
import Derived.Test.YtdpbpkggbgfkgaaDoorTie
import Derived.WalkKit
import Derived.ProofKit
import Derived.OpenShut
import Derived.ShutString
import Derived.JoinedCond
import Derived.Lib.Hide
import Derived.Deep.DeepHandedRow
import Derived.PinnedBridge
import Derived.Lib.LaidU8T
import Derived.Lay
import Derived.LaidOnce
import Derived.SevenTiedAt
import Derived.SizedLaws
import Derived.Carry
import Derived.Lib.SmallJoins
import Derived.Test.YtdpbpkggbgfkgaaDoorCdTheory2
import Derived.Test.YtdpbpkggbgfkgaaDoorCdAwake
import Derived.Outline
namespace Go.Proofs.YtdpbpkggbgfkgaaDoor
open Go.RowKit
set_option linter.unusedVariables false

theorem By.In.take {w : World} {ad : Option Addr} {n cap q : Nat} {s : ByteArray} (h : By.In w (.slice ad n cap) s) (hq : q ≤ s.size) : By.In w (.slice ad q cap) (s.extract 0 q) := by
  rcases Nat.eq_zero_or_pos q with h0 | h0
  · subst h0
    have hz : (s.extract 0 0).size = 0 := Cd.size_take s 0 (Nat.zero_le _)
    rcases h with ⟨h1, h2⟩ | ⟨a, c, h1, h2⟩ | ⟨h2, b, off, c, h1, _⟩
    · simp only [Value.slice.injEq] at h1
      obtain ⟨rfl, _, rfl⟩ := h1
      exact .inl ⟨rfl, hz⟩
    · simp only [Value.slice.injEq] at h1
      obtain ⟨rfl, _, rfl⟩ := h1
      exact .inr (.inl ⟨a, cap, rfl, hz⟩)
    · simp only [Value.slice.injEq] at h1
      obtain ⟨rfl, _, rfl⟩ := h1
      exact .inr (.inl ⟨_, _, rfl, hz⟩)
  · obtain ⟨b, off, rfl, h1, h2, h3⟩ := h.at (by omega)
    have hz := Cd.size_take s q hq
    refine .inr (.inr ⟨by omega, b, off, cap, by rw [hz], by omega, h1, fun j hj => ?_⟩)
    rw [Cd.byt_take s q j (by omega)]
    exact h3 j (by omega)

theorem Cd.keep3b {w w5 : World} {B : Nat} {u v x : Value} (hb : Below w.heap.size w w5) (h0 : w.cell? ⟨B, 0, none⟩ = some u) (h1 : w.cell? ⟨B, 1, none⟩ = some v) (h2 : w.cell? ⟨B, 2, none⟩ = some x) (hB : B < w.heap.size) :
    w5.cell? ⟨B, 0, none⟩ = some u ∧ w5.cell? ⟨B, 1, none⟩ = some v ∧ w5.cell? ⟨B, 2, none⟩ = some x :=
  ⟨(hb.cell (p := ⟨B, 0, none⟩) hB).trans h0, (hb.cell (p := ⟨B, 1, none⟩) hB).trans h1, (hb.cell (p := ⟨B, 2, none⟩) hB).trans h2⟩
theorem Cd.slice_take {w : World} {ad : Option Addr} {q cap : Nat} {s : ByteArray} (h : By.In w (.slice ad q cap) s) : ∃ a c, Value.slice ad q cap = .slice a s.size c := h.slice

set_option maxHeartbeats 2000000 in
set_option maxRecDepth 1000000 in
theorem codecPlaces.walk (c l m : Int) (v : Value) (b : ByteArray) (s : ByteArray) (w : World) (hbs : b.size ≤ 140737488351232) (hv : By.In w v b) (hs : s.size ≤ 140737488351232) (hT : Lib.Utf8Tabs 0 1 w) (hTB : 0 < w.heap.size ∧ 1 < w.heap.size) :
    Calls Tryd.prog 8 #[Cd.coder c l m, v, .string s] w fun e w' => e = .returned (.bool true) ∧ Below w.heap.size w w' := by
  have HT := Lib.hid hT; clear hT
  have KA := fun w h1 h2 => Cd.awake_any w h1 h2
  obtain ⟨ad, cap, rfl⟩ := hv.slice
  have HV := Lib.hid hv; clear hv
  have hz0 : w.heap.size < (w.alloc (Obj.cells #[.int .i64 c, .int .i64 l, .int .i64 0] 23)).heap.size := by simp
  have HB0 := Lib.hid (show Below w.heap.size w (w.alloc (Obj.cells #[.int .i64 c, .int .i64 l, .int .i64 0] 23)) from (Below.refl _ _).alloc (Nat.le_refl _) _)
  have HQ := Lib.hid (heap_alloc_new w (Obj.cells #[.int .i64 c, .int .i64 l, .int .i64 0] 23))
  have hw0 : ∃ w0 : World, w0 = w.alloc (Obj.cells #[.int .i64 c, .int .i64 l, .int .i64 0] 23) := ⟨_, rfl⟩
  have HV0 := Lib.hid (HV.out.below HB0.out (Nat.le_refl _))
  have hd := Cd.dec_places c l b
  have he := Cd.enc_places c l s
  rcases hd with ⟨d1, d2⟩ | ⟨d2, qd, d1, d3, d4⟩
  · have KD := fun v w h1 h2 h3 h4 h5 => Cd.decode_any b v w c l 0 h1 h2 h3 h4 h5
    rw [d1] at KD
    generalize (Cd.decG c l 0 b).1 = Y at *
    generalize (Cd.decG c l 0 b).2.2 = D at *
    have hD : (D == 6) = false := by simp [d2]
    clear d1 d2
    unfold Cd.coder at *
    go_enter Tryd.func8, Tryd.ntmps8
    go_wp2_with fail
    refine (KD _ _ (Cd.tabs_below HT.out HB0.out hTB.1 hTB.2) (by omega) (by omega) (Cd.BytesAt.ofIn HV0.out) HV0.out.slice).mono ?_
    rintro x wp ⟨rfl, hbp⟩
    have HBP := Lib.hid (HB0.out.trans (hbp.mono (Nat.le_of_lt hz0)))
    have hzp : w.heap.size < wp.heap.size := Nat.lt_of_lt_of_le hz0 hbp.size
    have HQP := Lib.hid ((hbp.block _ hz0).trans HQ.out)
    obtain ⟨p0, p1, p2⟩ := Cd.coder_cells HQ.out hbp hz0
    clear hbp KD hw0
    rcases he with ⟨e1, e2⟩ | ⟨e2, qe, e1, e3, e4⟩
    · have KE := fun w h1 h2 => Cd.encode_any s w c l 0 (by omega) h1 h2
      rw [e1] at KE
      generalize (Cd.encG c l 0 s).1 = X at *
      generalize (Cd.encG c l 0 s).2.2 = E at *
      have hE : (E == 6) = false := by simp [e2]
      have hE2 : (E != 6) = true := by simp [e2]
      clear e1 e2
      unfold Cd.coder at *
      go_wp2_with fail
      refine (KE wp (Cd.tabs_below HT.out HBP.out hTB.1 hTB.2) (by omega)).mono ?_
      rintro x w4 ⟨v4, rfl, _, hb4⟩
      have HB4 := Lib.hid (HBP.out.trans (hb4.mono (Nat.le_of_lt hzp)))
      have hz4 : w.heap.size < w4.heap.size := Nat.lt_of_lt_of_le hzp hb4.size
      clear hb4 KE p0 p1 p2
      go_wp2_with fail
      refine (KA _ (Cd.tabs_below HT.out HB4.out hTB.1 hTB.2) (by omega)).mono ?_
      rintro x w5 ⟨rfl, hb5⟩
      have HB5 := Lib.hid (HB4.out.trans (hb5.mono (Nat.le_of_lt hz4)))
      clear hb5 KA
      go_wp2
      go_ret
      exact ⟨rfl, HB5.out⟩
    · have KE := fun w h1 h2 => Cd.encode_any s w c l 0 (by omega) h1 h2
      have hze := Cd.size_take s qe (by omega)
      have KE2 := fun w h1 h2 => Cd.encode_any (s.extract 0 qe) w c l 0 (by rw [hze]; omega) h1 h2
      rw [e1, e2] at KE
      rw [e4] at KE2
      generalize (Cd.encG c l 0 s).1 = X at *
      generalize (Cd.encG c l 0 (s.extract 0 qe)).1 = X2 at *
      generalize (Cd.encG c l 0 (s.extract 0 qe)).2.1 = A2 at *
      have hqi : (qe : Int) < (s.size : Int) := by omega
      have hq0 : (0 : Int) ≤ (qe : Int) := Int.natCast_nonneg _
      have hql : (qe : Int) ≤ (s.size : Int) := by omega
      clear e1 e2 e4 hze
      unfold Cd.coder at *
      go_wp2_with fail
      refine (KE wp (Cd.tabs_below HT.out HBP.out hTB.1 hTB.2) (by omega)).mono ?_
      rintro x w4 ⟨v4, rfl, _, hb4⟩
      have HB4 := Lib.hid (HBP.out.trans (hb4.mono (Nat.le_of_lt hzp)))
      have hz4 : w.heap.size < w4.heap.size := Nat.lt_of_lt_of_le hzp hb4.size
      have f4 := Cd.coder_cells HQP.out hb4 hzp
      obtain ⟨g0, g1, g2⟩ := f4
      clear hb4 KE p0 p1 p2
      go_wp2_with fail
      go_region_held3 (fun w' => w'.cell? ⟨w.heap.size, 0, none⟩ = some (.int .i64 c) ∧ w'.cell? ⟨w.heap.size, 1, none⟩ = some (.int .i64 l) ∧ w'.cell? ⟨w.heap.size, 2, none⟩ = some (.int .i64 0))
        (first | go_keep | exact hkeep)
        (first
          | (go_at_call 20
             refine (KE2 w4.drew (Cd.tabs_below HT.out HB4.out.drew hTB.1 hTB.2) (by show _ < w4.heap.size ∧ _ < w4.heap.size; omega)).mono ?_
             rintro x w5 ⟨v5, rfl, _, hb5⟩
             have hkeep := Cd.keep3b (w := w4.drew) hb5 g0 g1 g2 hz4))
      have HB5 := Lib.hid (HB4.out.drew.trans (hb5.mono (Nat.le_of_lt hz4)))
      have hz5 : w.heap.size < w5.heap.size := Nat.lt_of_lt_of_le hz4 hb5.size
      clear hb5 KE2 hkeep g0 g1 g2
      go_wp2_with fail
      refine (KA _ (Cd.tabs_below HT.out HB5.out hTB.1 hTB.2) (by omega)).mono ?_
      rintro x w6 ⟨rfl, hb6⟩
      have HB6 := Lib.hid (HB5.out.trans (hb6.mono (Nat.le_of_lt hz5)))
      clear hb6 KA
      go_wp2
      go_ret
      exact ⟨rfl, HB6.out⟩
  · have hzd := Cd.size_take b qd (by omega)
    have KD := fun v w h1 h2 h3 h4 h5 => Cd.decode_any b v w c l 0 h1 h2 h3 h4 h5
    have KD2 := fun v w h1 h2 h4 h5 => Cd.decode_any (b.extract 0 qd) v w c l 0 h1 h2 (by rw [hzd]; omega) h4 h5
    rw [d1, d2] at KD
    rw [d4] at KD2
    generalize (Cd.decG c l 0 b).1 = Y at *
    generalize (Cd.decG c l 0 (b.extract 0 qd)).1 = Y2 at *
    generalize (Cd.decG c l 0 (b.extract 0 qd)).2.1 = A3 at *
    have hdi : (qd : Int) < (b.size : Int) := by omega
    have hd0 : (0 : Int) ≤ (qd : Int) := Int.natCast_nonneg _
    have hcapb : b.size ≤ cap := by
      obtain ⟨_, _, _, _, h, _⟩ := HV.out.at (by omega)
      exact h
    have hdl : (qd : Int) ≤ (cap : Int) := by omega
    clear d1 d2 d4 hzd
    unfold Cd.coder at *
    go_enter Tryd.func8, Tryd.ntmps8
    go_wp2_with fail
    refine (KD _ _ (Cd.tabs_below HT.out HB0.out hTB.1 hTB.2) (by omega) (by omega) (Cd.BytesAt.ofIn HV0.out) HV0.out.slice).mono ?_
    rintro x w2 ⟨rfl, hb2⟩
    have HB2 := Lib.hid (HB0.out.trans (hb2.mono (Nat.le_of_lt hz0)))
    have hz2 : w.heap.size < w2.heap.size := Nat.lt_of_lt_of_le hz0 hb2.size
    have HQ2 := Lib.hid ((hb2.block _ hz0).trans HQ.out)
    have HI2 := Lib.hid ((HV0.out.below hb2 (Nat.le_refl _)).take (q := qd) (by omega))
    obtain ⟨g0, g1, g2⟩ := Cd.coder_cells HQ.out hb2 hz0
    clear hb2 KD hw0
    go_wp2_with fail
    go_region_held3 (fun w' => w'.cell? ⟨w.heap.size, 0, none⟩ = some (.int .i64 c) ∧ w'.cell? ⟨w.heap.size, 1, none⟩ = some (.int .i64 l) ∧ w'.cell? ⟨w.heap.size, 2, none⟩ = some (.int .i64 0))
      (first | go_keep | exact hkeep)
      (first
        | (go_at_call 11
           refine (KD2 _ w2.drew (Cd.tabs_below HT.out HB2.out.drew hTB.1 hTB.2) (by show _ < w2.heap.size ∧ _ < w2.heap.size; omega) (Cd.BytesAt.ofIn HI2.out.drew) (Cd.slice_take HI2.out)).mono ?_
           rintro x wp ⟨rfl, hbp⟩
           have hkeep := Cd.keep3b (w := w2.drew) hbp g0 g1 g2 hz2))
    have HBP := Lib.hid (HB2.out.drew.trans (hbp.mono (Nat.le_of_lt hz2)))
    have hzp : w.heap.size < wp.heap.size := Nat.lt_of_lt_of_le hz2 hbp.size
    have HQP := Lib.hid ((hbp.block _ hz2).trans HQ2.out)
    clear hkeep g0 g1 g2
    obtain ⟨p0, p1, p2⟩ := Cd.coder_cells (w := w2.drew) HQ2.out hbp hz2
    clear hbp KD2
    rcases he with ⟨e1, e2⟩ | ⟨e2, qe, e1, e3, e4⟩
    · have KE := fun w h1 h2 => Cd.encode_any s w c l 0 (by omega) h1 h2
      rw [e1] at KE
      generalize (Cd.encG c l 0 s).1 = X at *
      generalize (Cd.encG c l 0 s).2.2 = E at *
      have hE : (E == 6) = false := by simp [e2]
      have hE2 : (E != 6) = true := by simp [e2]
      clear e1 e2
      unfold Cd.coder at *
      go_wp2_with fail
      refine (KE wp (Cd.tabs_below HT.out HBP.out hTB.1 hTB.2) (by omega)).mono ?_
      rintro x w4 ⟨v4, rfl, _, hb4⟩
      have HB4 := Lib.hid (HBP.out.trans (hb4.mono (Nat.le_of_lt hzp)))
      have hz4 : w.heap.size < w4.heap.size := Nat.lt_of_lt_of_le hzp hb4.size
      clear hb4 KE p0 p1 p2
      go_wp2_with fail
      refine (KA _ (Cd.tabs_below HT.out HB4.out hTB.1 hTB.2) (by omega)).mono ?_
      rintro x w5 ⟨rfl, hb5⟩
      have HB5 := Lib.hid (HB4.out.trans (hb5.mono (Nat.le_of_lt hz4)))
      clear hb5 KA
      go_wp2
      go_ret
      exact ⟨rfl, HB5.out⟩
    · have KE := fun w h1 h2 => Cd.encode_any s w c l 0 (by omega) h1 h2
      have hze := Cd.size_take s qe (by omega)
      have KE2 := fun w h1 h2 => Cd.encode_any (s.extract 0 qe) w c l 0 (by rw [hze]; omega) h1 h2
      rw [e1, e2] at KE
      rw [e4] at KE2
      generalize (Cd.encG c l 0 s).1 = X at *
      generalize (Cd.encG c l 0 (s.extract 0 qe)).1 = X2 at *
      generalize (Cd.encG c l 0 (s.extract 0 qe)).2.1 = A2 at *
      have hqi : (qe : Int) < (s.size : Int) := by omega
      have hq0 : (0 : Int) ≤ (qe : Int) := Int.natCast_nonneg _
      have hql : (qe : Int) ≤ (s.size : Int) := by omega
      clear e1 e2 e4 hze
      unfold Cd.coder at *
      go_wp2_with fail
      refine (KE wp (Cd.tabs_below HT.out HBP.out hTB.1 hTB.2) (by omega)).mono ?_
      rintro x w4 ⟨v4, rfl, _, hb4⟩
      have HB4 := Lib.hid (HBP.out.trans (hb4.mono (Nat.le_of_lt hzp)))
      have hz4 : w.heap.size < w4.heap.size := Nat.lt_of_lt_of_le hzp hb4.size
      have f4 := Cd.coder_cells HQP.out hb4 hzp
      obtain ⟨g0, g1, g2⟩ := f4
      clear hb4 KE p0 p1 p2
      go_wp2_with fail
      go_region_held3 (fun w' => w'.cell? ⟨w.heap.size, 0, none⟩ = some (.int .i64 c) ∧ w'.cell? ⟨w.heap.size, 1, none⟩ = some (.int .i64 l) ∧ w'.cell? ⟨w.heap.size, 2, none⟩ = some (.int .i64 0))
        (first | go_keep | exact hkeep)
        (first
          | (go_at_call 20
             refine (KE2 w4.drew (Cd.tabs_below HT.out HB4.out.drew hTB.1 hTB.2) (by show _ < w4.heap.size ∧ _ < w4.heap.size; omega)).mono ?_
             rintro x w5 ⟨v5, rfl, _, hb5⟩
             have hkeep := Cd.keep3b (w := w4.drew) hb5 g0 g1 g2 hz4))
      have HB5 := Lib.hid (HB4.out.drew.trans (hb5.mono (Nat.le_of_lt hz4)))
      have hz5 : w.heap.size < w5.heap.size := Nat.lt_of_lt_of_le hz4 hb5.size
      clear hb5 KE2 hkeep g0 g1 g2
      go_wp2_with fail
      refine (KA _ (Cd.tabs_below HT.out HB5.out hTB.1 hTB.2) (by omega)).mono ?_
      rintro x w6 ⟨rfl, hb6⟩
      have HB6 := Lib.hid (HB5.out.trans (hb6.mono (Nat.le_of_lt hz5)))
      clear hb6 KA
      go_wp2
      go_ret
      exact ⟨rfl, HB6.out⟩
end Go.Proofs.YtdpbpkggbgfkgaaDoor
namespace Go.Proofs.YtdpbpkggbgfkgaaDoor.codecPlaces
open Go.ChangeShapes Go.WideShapes Go.ChangeAt Go.RowKit Go.Joins
open Go.ChangeMaps (open_string shut_string)
set_option linter.unusedVariables false
set_option linter.unusedSimpArgs false

theorem own : ownKnob Tryd.prog.godebug = none := by kernel_rfl
theorem laidOut : laidOutB Tryd.prog = true := by kernel_rfl
theorem cellsC : Tryd.prog.cellsOf 23 = 3 := by kernel_rfl
theorem cellsB : Tryd.prog.cellsOf 5 = 1 := by kernel_rfl
theorem bytesB : Tryd.prog.bytesOf 5 = 1 := by kernel_rfl
def args0 : Array Value := #[.agg #[.int .i64 0, .int .i64 0, .int .i64 0], .slice none 0 0, .string .empty]
theorem laid_met (os : Os) : laidMetH Tryd.prog Rows.codecPlacesRow.laid ((World.laidAll Tryd.prog os Rows.codecPlacesRow.laid).forCall (fun _ _ => 0) ⟨#[], args0, []⟩).memory := by
  rw [MakeChecks.laidMetH_plain _ _ _ (by kernel_rfl)]
  exact laidMet_laidAll _ (by kernel_rfl) (by kernel_rfl)
theorem reads (os : Os) {H : Type} (enc : TypeId × Value → H) : ∃ places, DataW.whole enc Tryd.prog ((World.laidAll Tryd.prog os Rows.codecPlacesRow.laid).forCall (fun _ _ => 0) ⟨#[], args0, []⟩).memory Tryd.f8.params.toList Rows.codecPlacesSpec.vars false args0.toList 8 = some ([.agg [.lit (.int .i64 0), .lit (.int .i64 0), .lit (.int .i64 0)], .nil, .lit (.string [])], [], places) :=
  ⟨[], by kernel_rfl⟩
theorem xU8 : U8Extra Tryd.prog Tryd.lays260_ren := ⟨by kernel_rfl, by kernel_rfl, by kernel_rfl, by kernel_rfl, by kernel_rfl, by kernel_rfl, by kernel_rfl⟩
theorem accEq : (Rows.laid_unicode_utf8_acceptRanges : DataW Unit) = Lib.acceptData := by kernel_rfl
theorem tabs {W : World} (hL : laidMetH Tryd.prog Rows.codecPlacesRow.laid W) : Lib.Utf8Tabs 0 1 W := by
  rw [MakeChecks.laidMetH_plain _ _ _ (by kernel_rfl)] at hL
  exact utf8Tabs_of_readsT (U8Types.of260 Tryd.lays260) xU8 (Pinned.utf8First_eq ▸ Lib.laidMet.reads hL (.tail _ (.head _))) (accEq ▸ Lib.laidMet.reads hL (.head _))
theorem tabsLt {W : World} (h : Lib.Utf8Tabs 0 1 W) : 0 < W.heap.size ∧ 1 < W.heap.size :=
  ⟨World.block_lt_of_cell? W _ (h.1 0 (by decide)), World.block_lt_of_cell? W _ (h.2 0 (by decide)).1⟩

set_option maxRecDepth 100000 in
theorem lifted (os : Os) (started : os.Started) (H : Type) (enc : TypeId × Value → H) (F : Stop.Interp) :
    ReturnsInHanded {} Tryd.checked os 8 .any ((OpenSpec.ofChange Rows.codecPlacesSpec).preRow enc Tryd.prog Tryd.f8 Rows.codecPlacesRow.domain false Rows.codecPlacesRow.laid) (((OpenSpec.ofChange Rows.codecPlacesSpec).at F).post enc Tryd.prog Tryd.f8 false true false false) := by
  obtain ⟨places, hx⟩ := reads os enc
  refine returnsInHanded_of_row (C := Tryd.checked) (s := OpenSpec.ofChange Rows.codecPlacesSpec) own started (by kernel_rfl) Tryd.func8
    (witness_row_at (enc := enc) (C := Tryd.checked) false (World.laidAll Tryd.prog os Rows.codecPlacesRow.laid) args0 (World.laidAll_os _ _ _) (by kernel_rfl) (by kernel_rfl) (by kernel_rfl)
      (OpenSpec.preRow_of_cond 8 hx (by kernel_rfl) (fun k hk => by cases hk) (by kernel_rfl) (laid_met os))) ?_
  intro W base args ds gs before hval hW _ hcond hsz hL hshaped _
  have hW' := hW
  obtain ⟨p, q, hA0, hV, rfl, hfz, hnd⟩ := hW
  have hA : DataW.TrodAll enc Tryd.prog W 0 (fun _ => true) true Tryd.f8.params.toList args.toList ds p := hA0
  rw [Tryd.params8] at hA hval
  obtain ⟨v0, vs0, d0, ds0, p0, q0, hargs, rfl, rfl, h0, r0⟩ := trodAll_cons hA
  obtain ⟨v1, vs1, d1, ds1, p1, q1, rfl, rfl, rfl, h1, r1⟩ := trodAll_cons r0
  obtain ⟨v2, vs2, d2, ds2, p2, q2, rfl, rfl, rfl, h2, r2⟩ := trodAll_cons r1
  obtain ⟨rfl, rfl, rfl⟩ := trodAll_nil r2
  obtain rfl : args = #[v0, v1, v2] := by cases args; simp_all
  obtain ⟨rfl, rfl⟩ := trodVars_none hV
  clear hA0
  simp only [List.append_nil] at hW'
  have k0 := h0
  have lt0 : ∀ x ∈ p0, x.block < W.heap.size := fun x hx => by simpa using hW'.lt x (by simp [hx])
  have k1 := h1
  have lt1 : ∀ x ∈ p1, x.block < W.heap.size := fun x hx => by simpa using hW'.lt x (by simp [hx])
  have k2 := h2
  have lt2 : ∀ x ∈ p2, x.block < W.heap.size := fun x hx => by simpa using hW'.lt x (by simp [hx])
  have hsz2 : (DataW.weightsEach Tryd.prog [23, 24, 9] [d0, d1, d2]).all (· ≤ reachBytes) = true := by
    have := hsz
    rw [Tryd.params8] at this
    exact this
  obtain ⟨cv0, lv0, mv0, y0a, y0b, y0c, m0, rfl, rfl, rfl, hy0a, hy0b, hy0c⟩ := open_agg3 Tryd.underlying23 (by kernel_rfl) cellsC (hval 0 23 v0 rfl rfl) h0
  obtain ⟨n0a, e0a, rfl, w0a⟩ := DataW.trod_int Tryd.underlying3 hy0a
  obtain ⟨n0b, e0b, rfl, w0b⟩ := DataW.trod_int Tryd.underlying3 hy0b
  obtain ⟨n0c, e0c, rfl, w0c⟩ := DataW.trod_int Tryd.underlying3 hy0c
  simp only [List.cons.injEq, and_true] at e0a e0b e0c
  subst e0a e0b e0c
  obtain ⟨s1, hin1, hd1⟩ := By.In.open Tryd.underlying24 Tryd.underlying5 cellsB (okWide_slice Tryd.underlying24 (hval 1 24 v1 rfl rfl)) h1
  have hs1 : s1.size ≤ 140737488351232 := by
    rcases hd1 with ⟨_, h⟩ | ⟨elems, spare, rfl, h⟩
    · omega
    · have := sized_slice hsz2 (j := 1) (t := 24) (e := 5) rfl rfl Tryd.underlying24
      rw [bytesB] at this
      simp only [reachBytes] at this
      omega
  obtain ⟨s2, rfl, rfl, rfl, hmax2⟩ := open_string Tryd.underlying9 (hval 2 9 v2 rfl rfl) h2
  have hs2 : s2.size ≤ 140737488351232 := by
    have := sized_string hsz2 (j := 2) (t := 9) rfl rfl
    simp only [reachBytes] at this
    simpa using this
  have hT := tabs hL
  refine (walk n0a n0b n0c v1 s1 s2 W hs1 hin1 hs2 hT (tabsLt hT)).mono fun e W' ⟨he, bel⟩ => ?_
  subst he
  exact ⟨_, rfl, _, _, _, [], _, [], hW', trodAll_mk1 (shut_bool Tryd.underlying4 _), (trodAll_cons_mk (Below.trod laidOut (by kernel_rfl) (of_decide_eq_true (by kernel_rfl)) k0 bel lt0) (trodAll_cons_mk (Below.trod laidOut (by kernel_rfl) (of_decide_eq_true (by kernel_rfl)) k1 bel lt1) (trodAll_cons_mk (Below.trod laidOut (by kernel_rfl) (of_decide_eq_true (by kernel_rfl)) k2 bel lt2) trodAll_mk0))), rfl, bel.frame _, fun h => by cases h⟩

theorem said : Rows.CodecPlacesSaid :=
  OpenClaim.holds_of_cond 8 Tryd.f8 rfl rfl rfl rfl rfl rfl rfl ⟨rfl, rfl, rfl, rfl, rfl⟩ rfl rfl rfl rfl rfl (by kernel_rfl) Tryd.func8 (by kernel_rfl)
    (of_decide_eq_true (by kernel_rfl)) (by unfold Func.isWrapper; first | (rw [if_pos (by decide +kernel)]; kernel_rfl) | (rw [if_neg (by decide +kernel)]; exact ⟨rfl, rfl⟩))
    (fun os started H enc _ F => by rw [OpenClaim.pre_eq_preRow]; exact lifted os started H enc F)

theorem plain (f : FuncId) (fn : Func) (hf : Tryd.pinned.checked.prog.funcNamed "sextant/sextantlaw06.CodecPlaces" = some f) (hfn : Tryd.pinned.checked.prog.funcs[f]? = some fn) :
    false = Tryd.pinned.checked.prog.looks [] ∧ ∀ (j : Nat) t, fn.params[j]? = some t → Tryd.pinned.checked.prog.wantsStandIn t = false := by
  obtain rfl : f = 8 := Option.some.inj ((show Tryd.prog.funcNamed "sextant/sextantlaw06.CodecPlaces" = some 8 by kernel_rfl).symm.trans hf) |>.symm
  obtain rfl : fn = Tryd.f8 := (Option.some.inj (Tryd.func8.symm.trans hfn)).symm
  refine ⟨by kernel_rfl, fun j t ht => ?_⟩
  rw [Tryd.params8] at ht
  have hm : t ∈ [23, 24, 9] := by simpa using Array.mem_of_getElem? ht
  have hall : ([23, 24, 9].all fun u => !Tryd.prog.wantsStandIn u) = true := by kernel_rfl
  exact (show Tryd.prog.wantsStandIn t = false by simpa using List.all_eq_true.1 hall t hm)

theorem card : Rows.CodecPlacesCardSaid :=
  Claim7.holds_tied_plain_at .later [] _ _ _ _ said (fun _ h => by cases h) (by kernel_rfl) (fun _ h => by cases h) codecPlaces_row_tie rfl ⟨rfl, rfl⟩ (by kernel_rfl) rfl plain (by kernel_rfl)
end Go.Proofs.YtdpbpkggbgfkgaaDoor.codecPlaces
