/-
  PROVED HERE: CodecEncodesCardSaid: whatever the transcoder and the text, the call of sextantlaw06.CodecEncodes returns true, and the arguments read as they did. Conditions: none of ours; package utf8's two tables hold what their initialisers lay (tied by the card).
-/
import Derived.Test.YtdpbpkggbgfkgaaDoorCards
import Derived.Test.YtdpbpkggbgfkgaaDoorTie
import Derived.WalkKit
import Derived.ProofKit
import Derived.OpenShut
import Derived.ShutString
import Derived.JoinedCond
import Derived.Lib.Hide
import Derived.Deep.DeepHandedRow
import Derived.PinnedBridge
import Derived.Lib.LaidU8T
import Derived.Lay
import Derived.LaidOnce
import Derived.SevenTiedAt
import Derived.SizedLaws
import Derived.Carry
import Derived.Lib.SmallJoins
import Derived.Test.YtdpbpkggbgfkgaaDoorCdEncAny
import Derived.Test.YtdpbpkggbgfkgaaDoorCdAwake
import Derived.Test.YtdpbpkggbgfkgaaDoorSame
namespace Go.Proofs.YtdpbpkggbgfkgaaDoor
open Go.RowKit
set_option linter.unusedVariables false

set_option maxHeartbeats 1000000 in
set_option maxRecDepth 1000000 in
theorem codecEncodes.walk (c l m : Int) (s : ByteArray) (w : World) (hs : s.size ≤ 140737488351232) (hT : Lib.Utf8Tabs 0 1 w) (hTB : 0 < w.heap.size ∧ 1 < w.heap.size) :
    Calls Tryd.prog 5 #[Cd.coder c l m, .string s] w fun e w' => e = .returned (.bool true) ∧ Below w.heap.size w w' := by
  have HT := Lib.hid hT; clear hT
  have KD := fun w h1 h2 => Cd.encode_any s w c l m (by omega) h1 h2
  have KR := fun w => Cd.encodeRef_any s w c l m (by omega)
  have KA := fun w h1 h2 => Cd.awake_any w h1 h2
  have hgl := Cd.encG_len c l m s
  generalize Cd.encG c l m s = G at *
  unfold Cd.coder at *
  go_enter Tryd.func5, Tryd.ntmps5
  have hb0 : Below w.heap.size w (w.alloc (Obj.cells #[.int .i64 c, .int .i64 l, .int .i64 m] 23)) := (Below.refl _ _).alloc (Nat.le_refl _) _
  have hq := heap_alloc_new w (Obj.cells #[.int .i64 c, .int .i64 l, .int .i64 m] 23)
  have hz0 : w.heap.size < (w.alloc (Obj.cells #[.int .i64 c, .int .i64 l, .int .i64 m] 23)).heap.size := by simp
  have HB0 := Lib.hid hb0; clear hb0
  have HQ := Lib.hid hq; clear hq
  have HZ0 := Lib.hid hz0; clear hz0
  go_wp2_with fail
  refine (KD _ (Cd.tabs_below HT.out HB0.out hTB.1 hTB.2) (by have := HZ0.out; omega)).mono ?_
  rintro x w1 ⟨v1, rfl, hin1, hb1⟩
  have HB1 := Lib.hid (HB0.out.trans (hb1.mono (Nat.le_of_lt HZ0.out)))
  have hz1 : w.heap.size < w1.heap.size := Nat.lt_of_lt_of_le HZ0.out hb1.size
  obtain ⟨f0, f1, f2⟩ := Cd.coder_cells HQ.out hb1 HZ0.out
  have HIN1 := Lib.hid hin1
  clear hin1 KD HB0
  go_wp2_with fail
  refine (KR _).mono ?_
  rintro x w2 ⟨v2, rfl, hin2, hb2⟩
  have HB2 := Lib.hid (HB1.out.trans (hb2.mono (Nat.le_of_lt hz1)))
  have hz2 : w.heap.size < w2.heap.size := Nat.lt_of_lt_of_le hz1 hb2.size
  have HIN1 := Lib.hid (HIN1.out.below hb2 (Nat.le_refl _))
  have HIN2 := Lib.hid hin2
  clear hb1 hb2 hin2 KR HB1 f0 f1 f2
  go_wp2_with fail
  refine (KA _ (Cd.tabs_below HT.out HB2.out hTB.1 hTB.2) (by omega)).mono ?_
  rintro x w3 ⟨rfl, hb3⟩
  have HB3 := Lib.hid (HB2.out.trans (hb3.mono (Nat.le_of_lt hz2)))
  have hz3 : w.heap.size < w3.heap.size := Nat.lt_of_lt_of_le hz2 hb3.size
  have HIN1 := Lib.hid (HIN1.out.below hb3 (Nat.le_refl _))
  have HIN2 := Lib.hid (HIN2.out.below hb3 (Nat.le_refl _))
  clear hb3 KA HB2
  go_wp2_with fail
  refine (By.same_any ⟨G.1.toArray⟩ v1 v2 w3 (by rw [Cd.size_mk]; omega) HIN1.out HIN2.out).mono ?_
  rintro x w4 ⟨rfl, hb4⟩
  have HB4 := Lib.hid (HB3.out.trans (hb4.mono (Nat.le_of_lt hz3)))
  clear hb4 HB3
  go_wp2
  go_ret
  exact ⟨rfl, HB4.out⟩
end Go.Proofs.YtdpbpkggbgfkgaaDoor
namespace Go.Proofs.YtdpbpkggbgfkgaaDoor.codecEncodes
open Go.ChangeShapes Go.WideShapes Go.ChangeAt Go.RowKit Go.Joins
open Go.ChangeMaps (open_string shut_string)
set_option linter.unusedVariables false
set_option linter.unusedSimpArgs false

theorem own : ownKnob Tryd.prog.godebug = none := by kernel_rfl
theorem laidOut : laidOutB Tryd.prog = true := by kernel_rfl
theorem cellsC : Tryd.prog.cellsOf 23 = 3 := by kernel_rfl
def args0 : Array Value := #[.agg #[.int .i64 0, .int .i64 0, .int .i64 0], .string .empty]
theorem laid_met (os : Os) : laidMetH Tryd.prog Rows.codecEncodesRow.laid ((World.laidAll Tryd.prog os Rows.codecEncodesRow.laid).forCall (fun _ _ => 0) ⟨#[], args0, []⟩).memory := by
  rw [MakeChecks.laidMetH_plain _ _ _ (by kernel_rfl)]
  exact laidMet_laidAll _ (by kernel_rfl) (by kernel_rfl)
theorem reads (os : Os) {H : Type} (enc : TypeId × Value → H) : ∃ places, DataW.whole enc Tryd.prog ((World.laidAll Tryd.prog os Rows.codecEncodesRow.laid).forCall (fun _ _ => 0) ⟨#[], args0, []⟩).memory Tryd.f5.params.toList Rows.codecEncodesSpec.vars false args0.toList 8 = some ([.agg [.lit (.int .i64 0), .lit (.int .i64 0), .lit (.int .i64 0)], .lit (.string [])], [], places) :=
  ⟨[], by kernel_rfl⟩
theorem xU8 : U8Extra Tryd.prog Tryd.lays260_ren := ⟨by kernel_rfl, by kernel_rfl, by kernel_rfl, by kernel_rfl, by kernel_rfl, by kernel_rfl, by kernel_rfl⟩
theorem accEq : (Rows.laid_unicode_utf8_acceptRanges : DataW Unit) = Lib.acceptData := by kernel_rfl
theorem tabs {W : World} (hL : laidMetH Tryd.prog Rows.codecEncodesRow.laid W) : Lib.Utf8Tabs 0 1 W := by
  rw [MakeChecks.laidMetH_plain _ _ _ (by kernel_rfl)] at hL
  exact utf8Tabs_of_readsT (U8Types.of260 Tryd.lays260) xU8 (Pinned.utf8First_eq ▸ Lib.laidMet.reads hL (.tail _ (.head _))) (accEq ▸ Lib.laidMet.reads hL (.head _))
theorem tabsLt {W : World} (h : Lib.Utf8Tabs 0 1 W) : 0 < W.heap.size ∧ 1 < W.heap.size :=
  ⟨World.block_lt_of_cell? W _ (h.1 0 (by decide)), World.block_lt_of_cell? W _ (h.2 0 (by decide)).1⟩

set_option maxRecDepth 100000 in
theorem lifted (os : Os) (started : os.Started) (H : Type) (enc : TypeId × Value → H) (F : Stop.Interp) :
    ReturnsInHanded {} Tryd.checked os 5 .any ((OpenSpec.ofChange Rows.codecEncodesSpec).preRow enc Tryd.prog Tryd.f5 Rows.codecEncodesRow.domain false Rows.codecEncodesRow.laid) (((OpenSpec.ofChange Rows.codecEncodesSpec).at F).post enc Tryd.prog Tryd.f5 false true false false) := by
  obtain ⟨places, hx⟩ := reads os enc
  refine returnsInHanded_of_row (C := Tryd.checked) (s := OpenSpec.ofChange Rows.codecEncodesSpec) own started (by kernel_rfl) Tryd.func5
    (witness_row_at (enc := enc) (C := Tryd.checked) false (World.laidAll Tryd.prog os Rows.codecEncodesRow.laid) args0 (World.laidAll_os _ _ _) (by kernel_rfl) (by kernel_rfl) (by kernel_rfl)
      (OpenSpec.preRow_of_cond 8 hx (by kernel_rfl) (fun k hk => by cases hk) (by kernel_rfl) (laid_met os))) ?_
  intro W base args ds gs before hval hW _ hcond hsz hL hshaped _
  have hW' := hW
  obtain ⟨p, q, hA0, hV, rfl, hfz, hnd⟩ := hW
  have hA : DataW.TrodAll enc Tryd.prog W 0 (fun _ => true) true Tryd.f5.params.toList args.toList ds p := hA0
  rw [Tryd.params5] at hA hval
  obtain ⟨v0, vs0, d0, ds0, p0, q0, hargs, rfl, rfl, h0, r0⟩ := trodAll_cons hA
  obtain ⟨v1, vs1, d1, ds1, p1, q1, rfl, rfl, rfl, h1, r1⟩ := trodAll_cons r0
  obtain ⟨rfl, rfl, rfl⟩ := trodAll_nil r1
  obtain rfl : args = #[v0, v1] := by cases args; simp_all
  obtain ⟨rfl, rfl⟩ := trodVars_none hV
  clear hA0
  simp only [List.append_nil] at hW'
  have k0 := h0
  have lt0 : ∀ x ∈ p0, x.block < W.heap.size := fun x hx => by simpa using hW'.lt x (by simp [hx])
  have k1 := h1
  have lt1 : ∀ x ∈ p1, x.block < W.heap.size := fun x hx => by simpa using hW'.lt x (by simp [hx])
  have hsz2 : (DataW.weightsEach Tryd.prog [23, 9] [d0, d1]).all (· ≤ reachBytes) = true := by
    have := hsz
    rw [Tryd.params5] at this
    exact this
  obtain ⟨cv0, lv0, mv0, y0a, y0b, y0c, m0, rfl, rfl, rfl, hy0a, hy0b, hy0c⟩ := open_agg3 Tryd.underlying23 (by kernel_rfl) cellsC (hval 0 23 v0 rfl rfl) h0
  obtain ⟨n0a, e0a, rfl, w0a⟩ := DataW.trod_int Tryd.underlying3 hy0a
  obtain ⟨n0b, e0b, rfl, w0b⟩ := DataW.trod_int Tryd.underlying3 hy0b
  obtain ⟨n0c, e0c, rfl, w0c⟩ := DataW.trod_int Tryd.underlying3 hy0c
  simp only [List.cons.injEq, and_true] at e0a e0b e0c
  subst e0a e0b e0c
  obtain ⟨s1, rfl, rfl, rfl, hmax1⟩ := open_string Tryd.underlying9 (hval 1 9 v1 rfl rfl) h1
  have hs1 : s1.size ≤ 140737488351232 := by
    have := sized_string hsz2 (j := 1) (t := 9) rfl rfl
    simp only [reachBytes] at this
    simpa using this
  have hT := tabs hL
  refine (walk n0a n0b n0c s1 W hs1 hT (tabsLt hT)).mono fun e W' ⟨he, bel⟩ => ?_
  subst he
  exact ⟨_, rfl, _, _, _, [], _, [], hW', trodAll_mk1 (shut_bool Tryd.underlying4 _), (trodAll_cons_mk (Below.trod laidOut (by kernel_rfl) (of_decide_eq_true (by kernel_rfl)) k0 bel lt0) (trodAll_cons_mk (Below.trod laidOut (by kernel_rfl) (of_decide_eq_true (by kernel_rfl)) k1 bel lt1) trodAll_mk0)), rfl, bel.frame _, fun h => by cases h⟩

theorem said : Rows.CodecEncodesSaid :=
  OpenClaim.holds_of_cond 5 Tryd.f5 rfl rfl rfl rfl rfl rfl rfl ⟨rfl, rfl, rfl, rfl, rfl⟩ rfl rfl rfl rfl rfl (by kernel_rfl) Tryd.func5 (by kernel_rfl)
    (of_decide_eq_true (by kernel_rfl)) (by unfold Func.isWrapper; first | (rw [if_pos (by decide +kernel)]; kernel_rfl) | (rw [if_neg (by decide +kernel)]; exact ⟨rfl, rfl⟩))
    (fun os started H enc _ F => by rw [OpenClaim.pre_eq_preRow]; exact lifted os started H enc F)

theorem plain (f : FuncId) (fn : Func) (hf : Tryd.pinned.checked.prog.funcNamed "sextant/sextantlaw06.CodecEncodes" = some f) (hfn : Tryd.pinned.checked.prog.funcs[f]? = some fn) :
    false = Tryd.pinned.checked.prog.looks [] ∧ ∀ (j : Nat) t, fn.params[j]? = some t → Tryd.pinned.checked.prog.wantsStandIn t = false := by
  obtain rfl : f = 5 := Option.some.inj ((show Tryd.prog.funcNamed "sextant/sextantlaw06.CodecEncodes" = some 5 by kernel_rfl).symm.trans hf) |>.symm
  obtain rfl : fn = Tryd.f5 := (Option.some.inj (Tryd.func5.symm.trans hfn)).symm
  refine ⟨by kernel_rfl, fun j t ht => ?_⟩
  rw [Tryd.params5] at ht
  have hm : t ∈ [23, 9] := by simpa using Array.mem_of_getElem? ht
  have hall : ([23, 9].all fun u => !Tryd.prog.wantsStandIn u) = true := by kernel_rfl
  exact (show Tryd.prog.wantsStandIn t = false by simpa using List.all_eq_true.1 hall t hm)

theorem card : Rows.CodecEncodesCardSaid :=
  Claim7.holds_tied_plain_at .later [] _ _ _ _ said (fun _ h => by cases h) (by kernel_rfl) (fun _ h => by cases h) codecEncodes_row_tie rfl ⟨rfl, rfl⟩ (by kernel_rfl) rfl plain (by kernel_rfl)
end Go.Proofs.YtdpbpkggbgfkgaaDoor.codecEncodes
