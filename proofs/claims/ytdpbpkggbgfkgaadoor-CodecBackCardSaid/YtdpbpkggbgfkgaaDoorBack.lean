/-
  PROVED HERE: CodecBackCardSaid: whatever the transcoder and the text, the call of sextantlaw06.CodecBack returns true, and the arguments read as they did. Conditions: none of ours; package utf8's two tables hold what their initialisers lay (tied by the card).
-/
import Derived.Test.YtdpbpkggbgfkgaaDoorCards
import Derived.Test.YtdpbpkggbgfkgaaDoorTie
import Derived.WalkKit
import Derived.ProofKit
import Derived.OpenShut
import Derived.ShutString
import Derived.JoinedCond
import Derived.Lib.Hide
import Derived.Deep.DeepHandedRow
import Derived.PinnedBridge
import Derived.Lib.LaidU8T
import Derived.Lay
import Derived.LaidOnce
import Derived.SevenTiedAt
import Derived.SizedLaws
import Derived.Carry
import Derived.Lib.SmallJoins
import Derived.Test.YtdpbpkggbgfkgaaDoorCdTheory3
import Derived.Test.YtdpbpkggbgfkgaaDoorCdAwake
namespace Go.Proofs.YtdpbpkggbgfkgaaDoor
open Go.RowKit
set_option linter.unusedVariables false

def Cd.backOk (c l : Int) (fb : Bool) (rs : List Int) : Prop := (l ≠ 0 → ∀ r ∈ rs, r ≠ 13 ∧ r ≠ 133 ∧ r ≠ 8232) ∧ (c = 3 → fb = true → ∀ x t, rs = x :: t → x ≠ 65279 ∧ x ≠ 65534)
theorem Cd.backOk_nil (c l : Int) (fb : Bool) : Cd.backOk c l fb [] := ⟨(fun _ r hr => by cases hr), (fun _ _ x t h => by cases h)⟩
theorem Cd.backOk_cons {c l r : Int} {fb : Bool} {rs : List Int} (h1 : l ≠ 0 → r ≠ 13 ∧ r ≠ 133 ∧ r ≠ 8232) (h2 : c = 3 → fb = true → r ≠ 65279 ∧ r ≠ 65534) (h : Cd.backOk c l false rs) : Cd.backOk c l fb (r :: rs) := by
  refine ⟨fun hl x hx => ?_, fun hc hf x t he => ?_⟩
  · rcases List.mem_cons.1 hx with rfl | hx
    · exact h1 hl
    · exact h.1 hl x hx
  · simp only [List.cons.injEq] at he
    rw [← he.1]
    exact h2 hc hf

set_option maxHeartbeats 4000000 in
set_option maxRecDepth 1000000 in
theorem codecBack.walk (c l m : Int) (s : ByteArray) (w : World) (hs : s.size ≤ 140737488351232) (hT : Lib.Utf8Tabs 0 1 w) (hTB : 0 < w.heap.size ∧ 1 < w.heap.size) :
    Calls Tryd.prog 6 #[Cd.coder c l m, .string s] w fun e w' => e = .returned (.bool true) ∧ Below w.heap.size w w' := by
  have HT := Lib.hid hT; clear hT
  have KA := fun w h1 h2 => Cd.awake_any w h1 h2
  have KS := fun w h1 h2 => Cd.encode_any s w c l 0 (by omega) h1 h2
  have ls := Cd.encG_len c l 0 s
  have hz0 : w.heap.size < (w.alloc (Obj.cells #[.int .i64 c, .int .i64 l, .int .i64 0] 23)).heap.size := by simp
  have HB0 := Lib.hid (show Below w.heap.size w (w.alloc (Obj.cells #[.int .i64 c, .int .i64 l, .int .i64 0] 23)) from (Below.refl _ _).alloc (Nat.le_refl _) _)
  have HQ := Lib.hid (heap_alloc_new w (Obj.cells #[.int .i64 c, .int .i64 l, .int .i64 0] 23))
  have HJ := Lib.hid (fun b h1 h2 h3 h4 h5 => Cd.back c l s b h1 h2 h3 h4 h5)
  obtain ⟨A, hA⟩ : ∃ A, Cd.encG c l 0 s = A := ⟨_, rfl⟩
  rw [hA] at KS ls HJ
  have KD := fun v w h1 h2 h3 h4 h5 => Cd.decode_any ⟨A.1.toArray⟩ v w c l 0 h1 h2 h3 h4 h5
  clear hA
  unfold Cd.coder at *
  go_enter Tryd.func6, Tryd.ntmps6
  go_wp2_with fail
  refine (KS _ (Cd.tabs_below HT.out HB0.out hTB.1 hTB.2) (by omega)).mono ?_
  rintro x w1 ⟨v1, rfl, hin1, hb1⟩
  have HB1 := Lib.hid (HB0.out.trans (hb1.mono (Nat.le_of_lt hz0)))
  have hz1 : w.heap.size < w1.heap.size := Nat.lt_of_lt_of_le hz0 hb1.size
  have HQ1 := Lib.hid ((hb1.block _ hz0).trans HQ.out)
  have HI1 := Lib.hid hin1
  clear hin1 hb1 KS
  go_wp2_with fail
  refine (KA _ (Cd.tabs_below HT.out HB1.out hTB.1 hTB.2) (by omega)).mono ?_
  rintro x w3 ⟨rfl, hb3⟩
  have HB3 := Lib.hid (HB1.out.trans (hb3.mono (Nat.le_of_lt hz1)))
  have hz3 : w.heap.size < w3.heap.size := Nat.lt_of_lt_of_le hz1 hb3.size
  have HQ3 := Lib.hid ((hb3.block _ hz1).trans HQ1.out)
  have HI3 := Lib.hid (HI1.out.below hb3 (Nat.le_refl _))
  clear hb3 HI1 HB1 HQ1
  obtain ⟨ad1, cap1, hv1⟩ := HI3.out.slice
  rw [Cd.size_mk] at hv1
  subst hv1
  by_cases hgood : A.2.2 = 0 ∧ A.1.length ≤ 65536
  · obtain ⟨a0, alen⟩ := hgood
    have b1 : (A.2.2 != 0) = false := by simp [a0]
    have HJJ := Lib.hid (fun h1 h2 => HJ.out ⟨A.1.toArray⟩ a0 rfl (by rw [Cd.size_mk]; exact alen) h1 h2)
    have hlI : (A.1.length : Int) ≤ 65536 := by omega
    clear a0 KA
    go_wp2_with fail
    go_loopw [8] (fun f wr => ∃ (pos : Nat) (fb : Bool), f = .bool fb ∧ pos ≤ s.size ∧ wr.heap[w3.heap.size]? = some (.stringIter s pos) ∧ Below w3.heap.size w3 wr ∧ (Cd.backOk c l fb ((Cd.utf8U s pos).map (·.1)) → Cd.backOk c l true (Cd.rs s))) (fun _ wr => s.size - wr.iterPos w3.heap.size)
    case atStart => exact ⟨0, true, rfl, Nat.zero_le _, World.iter_heap w3 s 0, (Below.refl _ w3).alloc (Nat.le_refl _) _, fun h => h⟩
    case round =>
      obtain ⟨pos, fb, rfl, hpl, hit, hbw, hrel⟩ := hrel
      have hsz : w3.heap.size < wr.heap.size := (Array.getElem?_eq_some_iff.1 hit).1
      by_cases hp : pos < s.size
      · have hnx : ∀ ty, (Instr.next (.pointer (some ⟨w3.heap.size, 0, none⟩)) true ty).run Tryd.prog wr = _ := fun ty => Lib.run_next_any_at wr w3.heap.size s pos ty hit hp
        have hwd := Lib.decode_width_pos s pos hp
        have hfit := Cd.decode_fits s pos hp
        have hit2 := Lib.iterAt_heap wr w3.heap.size s pos (pos + (Utf8.decode s pos).2) hit
        have HBW2 := Lib.hid (Lib.below_iterAt hbw (k := w3.heap.size) (by omega) s (pos + (Utf8.decode s pos).2))
        obtain ⟨f0, f1, f2⟩ := Cd.coder_cells HQ3.out HBW2.out hz3
        rw [Cd.utf8U_one s pos hp, List.map_cons] at hrel
        have HREL := Lib.hid (show Cd.backOk c l fb (((Utf8.decode s pos).1 : Int) :: (Cd.utf8U s (pos + (Utf8.decode s pos).2)).map (·.1)) → Cd.backOk c l true (Cd.rs s) from hrel)
        have HITW := Lib.hid hit
        clear hrel hit hbw
        by_cases hl : l = 0
        · have hl1 : (l != 0) = false := by simp [hl]
          have GLN := Lib.hid hl
          cases fb with
          | false =>
            have HREM := Lib.hid (fun hk => HREL.out (Cd.backOk_cons (fb := false) (fun h => absurd (GLN.out) h) (fun _ h => absurd h (by decide)) hk))
            go_wp2
            go_roundw
            case rel => exact ⟨pos + (Utf8.decode s pos).2, false, rfl, by omega, hit2, HBW2.out, HREM.out⟩
            case measure =>
              simp only [World.iterPos, hit2, HITW.out]
              omega
          | true =>
            by_cases hc3 : c = 3
            · have c3 : (c == 3) = true := by simp [hc3]
              rcases (show ((Utf8.decode s pos).1 : Int) = 65279 ∨ ((Utf8.decode s pos).1 : Int) = 65534 ∨ (((Utf8.decode s pos).1 : Int) ≠ 65279 ∧ ((Utf8.decode s pos).1 : Int) ≠ 65534) by omega) with hy | hy | hy
              · have y1 : (((Utf8.decode s pos).1 : Int) == 65279) = true := by simp; omega
                clear hy hc3
                go_wp2
                go_ret
                exact ⟨rfl, HB3.out.trans (HBW2.out.mono (Nat.le_of_lt hz3))⟩
              · have y0 : (((Utf8.decode s pos).1 : Int) == 65279) = false := by simp; omega
                have y1 : (((Utf8.decode s pos).1 : Int) == 65534) = true := by simp; omega
                clear hy hc3
                go_wp2
                go_ret
                exact ⟨rfl, HB3.out.trans (HBW2.out.mono (Nat.le_of_lt hz3))⟩
              · have y0 : (((Utf8.decode s pos).1 : Int) == 65279) = false := by simp; omega
                have y1 : (((Utf8.decode s pos).1 : Int) == 65534) = false := by simp; omega
                have HY := Lib.hid hy
                clear hy hc3
                have HREM := Lib.hid (fun hk => HREL.out (Cd.backOk_cons (fb := true) (fun h => absurd (GLN.out) h) (fun _ _ => HY.out) hk))
                go_wp2
                go_roundw
                case rel => exact ⟨pos + (Utf8.decode s pos).2, false, rfl, by omega, hit2, HBW2.out, HREM.out⟩
                case measure =>
                  simp only [World.iterPos, hit2, HITW.out]
                  omega
            · have c3 : (c == 3) = false := by simp [hc3]
              have HC3 := Lib.hid hc3
              clear hc3
              have HREM := Lib.hid (fun hk => HREL.out (Cd.backOk_cons (fb := true) (fun h => absurd (GLN.out) h) (fun h _ => absurd h HC3.out) hk))
              go_wp2
              go_roundw
              case rel => exact ⟨pos + (Utf8.decode s pos).2, false, rfl, by omega, hit2, HBW2.out, HREM.out⟩
              case measure =>
                simp only [World.iterPos, hit2, HITW.out]
                omega
        · rcases (show ((Utf8.decode s pos).1 : Int) = 13 ∨ ((Utf8.decode s pos).1 : Int) = 133 ∨ ((Utf8.decode s pos).1 : Int) = 8232 ∨ (((Utf8.decode s pos).1 : Int) ≠ 13 ∧ ((Utf8.decode s pos).1 : Int) ≠ 133 ∧ ((Utf8.decode s pos).1 : Int) ≠ 8232) by omega) with hx | hx | hx | hx
          · have hl1 : (l != 0) = true := by simp [hl]
            have rr : (((Utf8.decode s pos).1 : Int) == 13) = true := by simp; omega
            clear hx hl
            go_wp2
            go_ret
            exact ⟨rfl, HB3.out.trans (HBW2.out.mono (Nat.le_of_lt hz3))⟩
          · have hl1 : (l != 0) = true := by simp [hl]
            have r0 : (((Utf8.decode s pos).1 : Int) == 13) = false := by simp; omega
            have rr : (((Utf8.decode s pos).1 : Int) == 133) = true := by simp; omega
            clear hx hl
            go_wp2
            go_ret
            exact ⟨rfl, HB3.out.trans (HBW2.out.mono (Nat.le_of_lt hz3))⟩
          · have hl1 : (l != 0) = true := by simp [hl]
            have r0 : (((Utf8.decode s pos).1 : Int) == 13) = false := by simp; omega
            have r1 : (((Utf8.decode s pos).1 : Int) == 133) = false := by simp; omega
            have rr : (((Utf8.decode s pos).1 : Int) == 8232) = true := by simp; omega
            clear hx hl
            go_wp2
            go_ret
            exact ⟨rfl, HB3.out.trans (HBW2.out.mono (Nat.le_of_lt hz3))⟩
          · have hl1 : (l != 0) = true := by simp [hl]
            have r0 : (((Utf8.decode s pos).1 : Int) == 13) = false := by simp; omega
            have r1 : (((Utf8.decode s pos).1 : Int) == 133) = false := by simp; omega
            have r2 : (((Utf8.decode s pos).1 : Int) == 8232) = false := by simp; omega
            have GLN : Hid (((Utf8.decode s pos).1 : Int) ≠ 13 ∧ ((Utf8.decode s pos).1 : Int) ≠ 133 ∧ ((Utf8.decode s pos).1 : Int) ≠ 8232) := Lib.hid hx
            cases fb with
            | false =>
              have HREM := Lib.hid (fun hk => HREL.out (Cd.backOk_cons (fb := false) (fun _ => GLN.out) (fun _ h => absurd h (by decide)) hk))
              go_wp2
              go_roundw
              case rel => exact ⟨pos + (Utf8.decode s pos).2, false, rfl, by omega, hit2, HBW2.out, HREM.out⟩
              case measure =>
                simp only [World.iterPos, hit2, HITW.out]
                omega
            | true =>
              by_cases hc3 : c = 3
              · have c3 : (c == 3) = true := by simp [hc3]
                rcases (show ((Utf8.decode s pos).1 : Int) = 65279 ∨ ((Utf8.decode s pos).1 : Int) = 65534 ∨ (((Utf8.decode s pos).1 : Int) ≠ 65279 ∧ ((Utf8.decode s pos).1 : Int) ≠ 65534) by omega) with hy | hy | hy
                · have y1 : (((Utf8.decode s pos).1 : Int) == 65279) = true := by simp; omega
                  clear hy hc3
                  go_wp2
                  go_ret
                  exact ⟨rfl, HB3.out.trans (HBW2.out.mono (Nat.le_of_lt hz3))⟩
                · have y0 : (((Utf8.decode s pos).1 : Int) == 65279) = false := by simp; omega
                  have y1 : (((Utf8.decode s pos).1 : Int) == 65534) = true := by simp; omega
                  clear hy hc3
                  go_wp2
                  go_ret
                  exact ⟨rfl, HB3.out.trans (HBW2.out.mono (Nat.le_of_lt hz3))⟩
                · have y0 : (((Utf8.decode s pos).1 : Int) == 65279) = false := by simp; omega
                  have y1 : (((Utf8.decode s pos).1 : Int) == 65534) = false := by simp; omega
                  have HY := Lib.hid hy
                  clear hy hc3
                  have HREM := Lib.hid (fun hk => HREL.out (Cd.backOk_cons (fb := true) (fun _ => GLN.out) (fun _ _ => HY.out) hk))
                  go_wp2
                  go_roundw
                  case rel => exact ⟨pos + (Utf8.decode s pos).2, false, rfl, by omega, hit2, HBW2.out, HREM.out⟩
                  case measure =>
                    simp only [World.iterPos, hit2, HITW.out]
                    omega
              · have c3 : (c == 3) = false := by simp [hc3]
                have HC3 := Lib.hid hc3
                clear hc3
                have HREM := Lib.hid (fun hk => HREL.out (Cd.backOk_cons (fb := true) (fun _ => GLN.out) (fun h _ => absurd h HC3.out) hk))
                go_wp2
                go_roundw
                case rel => exact ⟨pos + (Utf8.decode s pos).2, false, rfl, by omega, hit2, HBW2.out, HREM.out⟩
                case measure =>
                  simp only [World.iterPos, hit2, HITW.out]
                  omega
      · have hnx : ∀ ty, (Instr.next (.pointer (some ⟨w3.heap.size, 0, none⟩)) true ty).run Tryd.prog wr = _ := fun ty => Lib.run_next_end_at wr w3.heap.size s pos ty hit hp
        rw [Cd.utf8U_end s pos hp] at hrel
        have hall := hrel (Cd.backOk_nil c l fb)
        have hdec := HJJ.out hall.1 (fun h3 x t he => hall.2 h3 rfl x t he)
        rw [hdec] at KD
        rw [show (⟨s.data.toList.toArray⟩ : ByteArray) = s by simp] at KD
        obtain ⟨f0, f1, f2⟩ := Cd.coder_cells HQ3.out hbw hz3
        have HBW := Lib.hid hbw
        have HI4 := Lib.hid (HI3.out.below hbw (Nat.le_refl _))
        clear hrel hall hdec hbw
        go_wp2_with fail
        refine (KD _ _ (Cd.tabs_below HT.out (HB3.out.trans (HBW.out.mono (Nat.le_of_lt hz3))) hTB.1 hTB.2) (by omega) (by rw [Cd.size_mk]; omega) (Cd.BytesAt.ofIn HI4.out) HI4.out.slice).mono ?_
        rintro x w5 ⟨rfl, hb5⟩
        have HB5 := Lib.hid ((HB3.out.trans (HBW.out.mono (Nat.le_of_lt hz3))).trans (hb5.mono (by omega)))
        clear hb5 KD
        go_wp2
        go_ret
        exact ⟨rfl, HB5.out⟩
  · go_wp2_with fail
    all_goals
      refine (KA _ (Cd.tabs_below HT.out HB3.out hTB.1 hTB.2) (by omega)).mono ?_
      rintro x w4 ⟨rfl, hb4⟩
      have HB4 := Lib.hid (HB3.out.trans (hb4.mono (Nat.le_of_lt hz3)))
      clear hb4
      go_wp2
      go_ret
      exact ⟨rfl, HB4.out⟩
end Go.Proofs.YtdpbpkggbgfkgaaDoor
namespace Go.Proofs.YtdpbpkggbgfkgaaDoor.codecBack
open Go.ChangeShapes Go.WideShapes Go.ChangeAt Go.RowKit Go.Joins
open Go.ChangeMaps (open_string shut_string)
set_option linter.unusedVariables false
set_option linter.unusedSimpArgs false

theorem own : ownKnob Tryd.prog.godebug = none := by kernel_rfl
theorem laidOut : laidOutB Tryd.prog = true := by kernel_rfl
theorem cellsC : Tryd.prog.cellsOf 23 = 3 := by kernel_rfl
def args0 : Array Value := #[.agg #[.int .i64 0, .int .i64 0, .int .i64 0], .string .empty]
theorem laid_met (os : Os) : laidMetH Tryd.prog Rows.codecBackRow.laid ((World.laidAll Tryd.prog os Rows.codecBackRow.laid).forCall (fun _ _ => 0) ⟨#[], args0, []⟩).memory := by
  rw [MakeChecks.laidMetH_plain _ _ _ (by kernel_rfl)]
  exact laidMet_laidAll _ (by kernel_rfl) (by kernel_rfl)
theorem reads (os : Os) {H : Type} (enc : TypeId × Value → H) : ∃ places, DataW.whole enc Tryd.prog ((World.laidAll Tryd.prog os Rows.codecBackRow.laid).forCall (fun _ _ => 0) ⟨#[], args0, []⟩).memory Tryd.f6.params.toList Rows.codecBackSpec.vars false args0.toList 8 = some ([.agg [.lit (.int .i64 0), .lit (.int .i64 0), .lit (.int .i64 0)], .lit (.string [])], [], places) :=
  ⟨[], by kernel_rfl⟩
theorem xU8 : U8Extra Tryd.prog Tryd.lays260_ren := ⟨by kernel_rfl, by kernel_rfl, by kernel_rfl, by kernel_rfl, by kernel_rfl, by kernel_rfl, by kernel_rfl⟩
theorem accEq : (Rows.laid_unicode_utf8_acceptRanges : DataW Unit) = Lib.acceptData := by kernel_rfl
theorem tabs {W : World} (hL : laidMetH Tryd.prog Rows.codecBackRow.laid W) : Lib.Utf8Tabs 0 1 W := by
  rw [MakeChecks.laidMetH_plain _ _ _ (by kernel_rfl)] at hL
  exact utf8Tabs_of_readsT (U8Types.of260 Tryd.lays260) xU8 (Pinned.utf8First_eq ▸ Lib.laidMet.reads hL (.tail _ (.head _))) (accEq ▸ Lib.laidMet.reads hL (.head _))
theorem tabsLt {W : World} (h : Lib.Utf8Tabs 0 1 W) : 0 < W.heap.size ∧ 1 < W.heap.size :=
  ⟨World.block_lt_of_cell? W _ (h.1 0 (by decide)), World.block_lt_of_cell? W _ (h.2 0 (by decide)).1⟩

set_option maxRecDepth 100000 in
theorem lifted (os : Os) (started : os.Started) (H : Type) (enc : TypeId × Value → H) (F : Stop.Interp) :
    ReturnsInHanded {} Tryd.checked os 6 .any ((OpenSpec.ofChange Rows.codecBackSpec).preRow enc Tryd.prog Tryd.f6 Rows.codecBackRow.domain false Rows.codecBackRow.laid) (((OpenSpec.ofChange Rows.codecBackSpec).at F).post enc Tryd.prog Tryd.f6 false true false false) := by
  obtain ⟨places, hx⟩ := reads os enc
  refine returnsInHanded_of_row (C := Tryd.checked) (s := OpenSpec.ofChange Rows.codecBackSpec) own started (by kernel_rfl) Tryd.func6
    (witness_row_at (enc := enc) (C := Tryd.checked) false (World.laidAll Tryd.prog os Rows.codecBackRow.laid) args0 (World.laidAll_os _ _ _) (by kernel_rfl) (by kernel_rfl) (by kernel_rfl)
      (OpenSpec.preRow_of_cond 8 hx (by kernel_rfl) (fun k hk => by cases hk) (by kernel_rfl) (laid_met os))) ?_
  intro W base args ds gs before hval hW _ hcond hsz hL hshaped _
  have hW' := hW
  obtain ⟨p, q, hA0, hV, rfl, hfz, hnd⟩ := hW
  have hA : DataW.TrodAll enc Tryd.prog W 0 (fun _ => true) true Tryd.f6.params.toList args.toList ds p := hA0
  rw [Tryd.params6] at hA hval
  obtain ⟨v0, vs0, d0, ds0, p0, q0, hargs, rfl, rfl, h0, r0⟩ := trodAll_cons hA
  obtain ⟨v1, vs1, d1, ds1, p1, q1, rfl, rfl, rfl, h1, r1⟩ := trodAll_cons r0
  obtain ⟨rfl, rfl, rfl⟩ := trodAll_nil r1
  obtain rfl : args = #[v0, v1] := by cases args; simp_all
  obtain ⟨rfl, rfl⟩ := trodVars_none hV
  clear hA0
  simp only [List.append_nil] at hW'
  have k0 := h0
  have lt0 : ∀ x ∈ p0, x.block < W.heap.size := fun x hx => by simpa using hW'.lt x (by simp [hx])
  have k1 := h1
  have lt1 : ∀ x ∈ p1, x.block < W.heap.size := fun x hx => by simpa using hW'.lt x (by simp [hx])
  have hsz2 : (DataW.weightsEach Tryd.prog [23, 9] [d0, d1]).all (· ≤ reachBytes) = true := by
    have := hsz
    rw [Tryd.params6] at this
    exact this
  obtain ⟨cv0, lv0, mv0, y0a, y0b, y0c, m0, rfl, rfl, rfl, hy0a, hy0b, hy0c⟩ := open_agg3 Tryd.underlying23 (by kernel_rfl) cellsC (hval 0 23 v0 rfl rfl) h0
  obtain ⟨n0a, e0a, rfl, w0a⟩ := DataW.trod_int Tryd.underlying3 hy0a
  obtain ⟨n0b, e0b, rfl, w0b⟩ := DataW.trod_int Tryd.underlying3 hy0b
  obtain ⟨n0c, e0c, rfl, w0c⟩ := DataW.trod_int Tryd.underlying3 hy0c
  simp only [List.cons.injEq, and_true] at e0a e0b e0c
  subst e0a e0b e0c
  obtain ⟨s1, rfl, rfl, rfl, hmax1⟩ := open_string Tryd.underlying9 (hval 1 9 v1 rfl rfl) h1
  have hs1 : s1.size ≤ 140737488351232 := by
    have := sized_string hsz2 (j := 1) (t := 9) rfl rfl
    simp only [reachBytes] at this
    simpa using this
  have hT := tabs hL
  refine (walk n0a n0b n0c s1 W hs1 hT (tabsLt hT)).mono fun e W' ⟨he, bel⟩ => ?_
  subst he
  exact ⟨_, rfl, _, _, _, [], _, [], hW', trodAll_mk1 (shut_bool Tryd.underlying4 _), (trodAll_cons_mk (Below.trod laidOut (by kernel_rfl) (of_decide_eq_true (by kernel_rfl)) k0 bel lt0) (trodAll_cons_mk (Below.trod laidOut (by kernel_rfl) (of_decide_eq_true (by kernel_rfl)) k1 bel lt1) trodAll_mk0)), rfl, bel.frame _, fun h => by cases h⟩

theorem said : Rows.CodecBackSaid :=
  OpenClaim.holds_of_cond 6 Tryd.f6 rfl rfl rfl rfl rfl rfl rfl ⟨rfl, rfl, rfl, rfl, rfl⟩ rfl rfl rfl rfl rfl (by kernel_rfl) Tryd.func6 (by kernel_rfl)
    (of_decide_eq_true (by kernel_rfl)) (by unfold Func.isWrapper; first | (rw [if_pos (by decide +kernel)]; kernel_rfl) | (rw [if_neg (by decide +kernel)]; exact ⟨rfl, rfl⟩))
    (fun os started H enc _ F => by rw [OpenClaim.pre_eq_preRow]; exact lifted os started H enc F)

theorem plain (f : FuncId) (fn : Func) (hf : Tryd.pinned.checked.prog.funcNamed "sextant/sextantlaw06.CodecBack" = some f) (hfn : Tryd.pinned.checked.prog.funcs[f]? = some fn) :
    false = Tryd.pinned.checked.prog.looks [] ∧ ∀ (j : Nat) t, fn.params[j]? = some t → Tryd.pinned.checked.prog.wantsStandIn t = false := by
  obtain rfl : f = 6 := Option.some.inj ((show Tryd.prog.funcNamed "sextant/sextantlaw06.CodecBack" = some 6 by kernel_rfl).symm.trans hf) |>.symm
  obtain rfl : fn = Tryd.f6 := (Option.some.inj (Tryd.func6.symm.trans hfn)).symm
  refine ⟨by kernel_rfl, fun j t ht => ?_⟩
  rw [Tryd.params6] at ht
  have hm : t ∈ [23, 9] := by simpa using Array.mem_of_getElem? ht
  have hall : ([23, 9].all fun u => !Tryd.prog.wantsStandIn u) = true := by kernel_rfl
  exact (show Tryd.prog.wantsStandIn t = false by simpa using List.all_eq_true.1 hall t hm)

theorem card : Rows.CodecBackCardSaid :=
  Claim7.holds_tied_plain_at .later [] _ _ _ _ said (fun _ h => by cases h) (by kernel_rfl) (fun _ h => by cases h) codecBack_row_tie rfl ⟨rfl, rfl⟩ (by kernel_rfl) rfl plain (by kernel_rfl)
end Go.Proofs.YtdpbpkggbgfkgaaDoor.codecBack
