/-
  PROVED HERE: CharsTextsUptoCardSaid: for every text whose reading is of bulk at most 1048576 the call of sextantlaw01.CharsTexts returns true, and the text reads as it did. Conditions: that bound; package utf8's two tables hold what their initialisers lay (tied by the card).
-/
import Derived.Test.YtnkbeaeopcemjaaDoorCards
import Derived.Test.YtnkbeaeopcemjaaDoorTie
import Derived.Test.YtnkbeaeopcemjaaDoorChTitleRef
import Derived.Test.YtnkbeaeopcemjaaDoorChTitleWalks
import Derived.Test.YtnkbeaeopcemjaaDoorChAwake
import Derived.WalkKit
import Derived.ProofKit
import Derived.OpenShut
import Derived.ShutString
import Derived.JoinedCond
import Derived.Lib.Hide
import Derived.Deep.DeepHandedRow
import Derived.PinnedBridge
import Derived.Lib.LaidU8T
import Derived.Lay
import Derived.LaidOnce
import Derived.SevenTiedAt
namespace Go.Proofs.YtnkbeaeopcemjaaDoor.charsTexts
open Go.ChangeShapes Go.WideShapes Go.ChangeAt Go.RowKit
open Go.ChangeMaps (open_string shut_string)
set_option linter.unusedVariables false
set_option linter.unusedSimpArgs false

theorem own : ownKnob Tryd.prog.godebug = none := by kernel_rfl

set_option maxHeartbeats 4000000 in
theorem walk (s : ByteArray) (w : World) (hs : s.size ≤ 1048576) (hT : Lib.Utf8Tabs 0 1 w) :
    Calls Tryd.prog 3 #[.string s] w fun e w' => e = .returned (.bool true) ∧ Below w.heap.size w w' := by
  have c1 := fun w => Ch.upcase_any s w (by omega)
  have c2 := fun w => Ch.upcaseR_any s w (by omega)
  change ∀ w, Calls _ _ _ _ (fun e w' => e = .returned (.string ⟨(Ch.upL s.data.toList).toArray⟩) ∧ Below w.heap.size w w') at c2
  have c3 := fun w h => Ch.downcase_any s w (by omega) h
  have c4 := fun w => Ch.downcaseR_any s w (by omega)
  have c5 := fun w => Ch.fold_any s w (by omega)
  have c6 := fun w => Ch.foldR_any s w (by omega)
  change ∀ w, Calls _ _ _ _ (fun e w' => e = .returned (.string ⟨(Ch.foldL s.data.toList).toArray⟩) ∧ Below w.heap.size w w') at c6
  have c7 := fun w h => Ch.titlecase_any s w (by omega) h
  have c8 := fun w => Ch.titlecaseR_any s w (by omega)
  generalize Ch.upL s.data.toList = U at *
  generalize Ch.downL s.data.toList = D at *
  generalize Ch.foldL s.data.toList = F at *
  generalize Ch.titleL s.data.toList = T at *
  have k1 := Lib.hid c1; clear c1
  have k2 := Lib.hid c2; clear c2
  have k3 := Lib.hid c3; clear c3
  have k4 := Lib.hid c4; clear c4
  have k5 := Lib.hid c5; clear c5
  have k6 := Lib.hid c6; clear c6
  have k7 := Lib.hid c7; clear c7
  have k8 := Lib.hid c8; clear c8
  have HT := Lib.hid hT; clear hT
  go_enter Tryd.func3, Tryd.ntmps3
  go_wp2_with fail
  refine (Ch.awake_any _).mono ?_; rintro e w0 ⟨rfl, b0⟩
  go_wp2_with fail
  refine (k1.out _).mono ?_; rintro e w1 ⟨rfl, hb⟩
  have b1 := b0.trans (hb.mono b0.size); clear hb b0
  go_wp2_with fail
  refine (k2.out _).mono ?_; rintro e w2 ⟨rfl, hb⟩
  have b2 := b1.trans (hb.mono b1.size); clear hb b1
  go_wp2_with fail
  refine (k3.out _ (Ch.tabs_below HT.out b2)).mono ?_; rintro e w3 ⟨rfl, hb⟩
  have b3 := b2.trans (hb.mono b2.size); clear hb b2
  go_wp2_with fail
  refine (k4.out _).mono ?_; rintro e w4 ⟨rfl, hb⟩
  have b4 := b3.trans (hb.mono b3.size); clear hb b3
  go_wp2_with fail
  refine (k5.out _).mono ?_; rintro e w5 ⟨rfl, hb⟩
  have b5 := b4.trans (hb.mono b4.size); clear hb b4
  go_wp2_with fail
  refine (k6.out _).mono ?_; rintro e w6 ⟨rfl, hb⟩
  have b6 := b5.trans (hb.mono b5.size); clear hb b5
  go_wp2_with fail
  refine (k7.out _ (Ch.tabs_below HT.out b6)).mono ?_; rintro e w7 ⟨rfl, hb⟩
  have b7 := b6.trans (hb.mono b6.size); clear hb b6
  go_wp2_with fail
  refine (k8.out _).mono ?_; rintro e w8 ⟨rfl, hb⟩
  have b8 := b7.trans (hb.mono b7.size); clear hb b7
  go_wp2_with fail
  go_ret
  exact ⟨rfl, b8⟩

/-! ### the row's step -/
theorem short {H : Type} {l : List UInt8} (hk : Rows.uptoSmall H [.lit (.string l)] = true) : l.length ≤ 1048576 := by
  have h : Rows.uptoBulkAll [DataW.lit (H := H) (.string l)] ≤ 1048576 := of_decide_eq_true hk
  simp only [Rows.uptoBulkAll, Rows.uptoBulk] at h
  omega

def args0 : Array Value := #[.string .empty]
theorem laid_met (os : Os) : laidMetH Tryd.prog Rows.charsTextsUptoRow.laid ((World.laidAll Tryd.prog os Rows.charsTextsUptoRow.laid).forCall (fun _ _ => 0) ⟨#[], args0, []⟩).memory := by
  rw [MakeChecks.laidMetH_plain _ _ _ (by kernel_rfl)]
  exact laidMet_laidAll _ (by kernel_rfl) (by kernel_rfl)
theorem reads (os : Os) {H : Type} (enc : TypeId × Value → H) : ∃ places, DataW.whole enc Tryd.prog ((World.laidAll Tryd.prog os Rows.charsTextsUptoRow.laid).forCall (fun _ _ => 0) ⟨#[], args0, []⟩).memory Tryd.f3.params.toList Rows.charsTextsSpec.vars false args0.toList 8 = some ([.lit (.string [])], [], places) :=
  ⟨[], by kernel_rfl⟩

theorem xU8 : U8Extra Tryd.prog Tryd.lays260_ren := ⟨by kernel_rfl, by kernel_rfl, by kernel_rfl, by kernel_rfl, by kernel_rfl, by kernel_rfl, by kernel_rfl⟩
theorem accEq : (Rows.laid_unicode_utf8_acceptRanges : DataW Unit) = Lib.acceptData := by kernel_rfl
/-- THE TABLES, out of what the row lists. -/
theorem tabs {W : World} (hL : laidMetH Tryd.prog Rows.charsTextsUptoRow.laid W) : Lib.Utf8Tabs 0 1 W := by
  rw [MakeChecks.laidMetH_plain _ _ _ (by kernel_rfl)] at hL
  exact utf8Tabs_of_readsT (U8Types.of260 Tryd.lays260) xU8 (Pinned.utf8First_eq ▸ Lib.laidMet.reads hL (.tail _ (.head _))) (accEq ▸ Lib.laidMet.reads hL (.head _))

set_option maxRecDepth 100000 in
theorem lifted (os : Os) (started : os.Started) (H : Type) (enc : TypeId × Value → H) (F : Stop.Interp) :
    ReturnsInHanded {} Tryd.checked os 3 .any ((Rows.OpenSpec.upto Rows.charsTextsSpec).preRow enc Tryd.prog Tryd.f3 Rows.charsTextsUptoRow.domain false Rows.charsTextsUptoRow.laid) (((Rows.OpenSpec.upto Rows.charsTextsSpec).at F).post enc Tryd.prog Tryd.f3 false true false false) := by
  obtain ⟨places, hx⟩ := reads os enc
  refine returnsInHanded_of_row (C := Tryd.checked) (s := Rows.OpenSpec.upto Rows.charsTextsSpec) own started (by kernel_rfl) Tryd.func3
    (witness_row_at (enc := enc) (C := Tryd.checked) false (World.laidAll Tryd.prog os Rows.charsTextsUptoRow.laid) args0 (World.laidAll_os _ _ _) (by kernel_rfl) (by kernel_rfl) (by kernel_rfl)
      (OpenSpec.preRow_of_cond 8 hx (by kernel_rfl) (fun k hk => by cases hk; kernel_rfl) (by kernel_rfl) (laid_met os))) ?_
  intro W base args ds gs before hval hW _ hcond _ hL _ _
  have hk := hcond _ rfl
  have hW' := hW
  obtain ⟨p, q, hA0, hV, rfl, hfz, hnd⟩ := hW
  have hA : DataW.TrodAll enc Tryd.prog W 0 (fun _ => true) true Tryd.f3.params.toList args.toList ds p := hA0
  rw [Tryd.params3] at hA hval
  obtain ⟨v0, vs0, d0, ds0, p0, q0, hargs, rfl, rfl, h0, r0⟩ := trodAll_cons hA
  obtain ⟨rfl, rfl, rfl⟩ := trodAll_nil r0
  obtain rfl : args = #[v0] := by cases args; simp_all
  obtain ⟨rfl, rfl⟩ := trodVars_none hV
  obtain ⟨s, rfl, rfl, rfl, hmax⟩ := open_string Tryd.underlying9 (hval 0 9 v0 rfl rfl) h0
  clear hA0
  simp only [List.append_nil] at hW' hk
  have hs := short hk
  refine (walk s W (by simpa using hs) (tabs hL)).mono fun e W' ⟨he, bel⟩ => ?_
  subst he
  exact ⟨_, rfl, _, _, _, [], [], [], hW', trodAll_mk1 (shut_bool Tryd.underlying4 _), (trodAll_cons_mk (shut_string Tryd.underlying9 hmax) trodAll_mk0), rfl, bel.frame _, fun h => by cases h⟩

theorem saidUpto : Rows.CharsTextsUptoSaid :=
  OpenClaim.holds_of_cond 3 Tryd.f3 rfl rfl rfl rfl rfl rfl rfl ⟨rfl, rfl, rfl, rfl, rfl⟩ rfl rfl rfl rfl rfl (by kernel_rfl) Tryd.func3 (by kernel_rfl)
    (of_decide_eq_true (by kernel_rfl)) (by unfold Func.isWrapper; first | (rw [if_pos (by decide +kernel)]; kernel_rfl) | (rw [if_neg (by decide +kernel)]; exact ⟨rfl, rfl⟩))
    (fun os started H enc _ F => by rw [OpenClaim.pre_eq_preRow]; exact lifted os started H enc F)

theorem plain (f : FuncId) (fn : Func) (hf : Tryd.pinned.checked.prog.funcNamed "sextant/sextantlaw01.CharsTexts" = some f) (hfn : Tryd.pinned.checked.prog.funcs[f]? = some fn) :
    false = Tryd.pinned.checked.prog.looks [] ∧ ∀ (j : Nat) t, fn.params[j]? = some t → Tryd.pinned.checked.prog.wantsStandIn t = false := by
  obtain rfl : f = 3 := Option.some.inj ((show Tryd.prog.funcNamed "sextant/sextantlaw01.CharsTexts" = some 3 by kernel_rfl).symm.trans hf) |>.symm
  obtain rfl : fn = Tryd.f3 := (Option.some.inj (Tryd.func3.symm.trans hfn)).symm
  refine ⟨by kernel_rfl, fun j t ht => ?_⟩
  rw [Tryd.params3] at ht
  have hm : t ∈ [9] := by simpa using Array.mem_of_getElem? ht
  have hall : ([9].all fun u => !Tryd.prog.wantsStandIn u) = true := by kernel_rfl
  exact (show Tryd.prog.wantsStandIn t = false by simpa using List.all_eq_true.1 hall t hm)

theorem cardUpto : Rows.CharsTextsUptoCardSaid :=
  Claim7.holds_tied_plain_at .later [] _ _ _ _ saidUpto (fun _ h => by cases h) (by kernel_rfl) (fun _ h => by cases h) charsTextsUpto_row_tie rfl ⟨rfl, rfl⟩ (by kernel_rfl) rfl plain (by kernel_rfl)
end Go.Proofs.YtnkbeaeopcemjaaDoor.charsTexts
