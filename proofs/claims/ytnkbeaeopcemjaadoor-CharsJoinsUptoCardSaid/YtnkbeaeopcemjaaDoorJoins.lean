/-
  PROVED HERE: CharsJoinsUptoCardSaid: for every two texts whose readings are of bulk at most 1048576 together the call of sextantlaw01.CharsJoins returns true, and the texts read as they did. Conditions: that bound; package utf8's two tables hold what their initialisers lay (tied by the card).
-/
import Derived.Test.YtnkbeaeopcemjaaDoorCards
import Derived.Test.YtnkbeaeopcemjaaDoorTie
import Derived.Test.YtnkbeaeopcemjaaDoorChRefText
import Derived.Test.YtnkbeaeopcemjaaDoorChJoinPlain
import Derived.Test.YtnkbeaeopcemjaaDoorChTitleWalks
import Derived.Test.YtnkbeaeopcemjaaDoorChAwake
import Derived.WalkKit
import Derived.ProofKit
import Derived.OpenShut
import Derived.ShutString
import Derived.JoinedCond
import Derived.Lib.Hide
import Derived.Deep.RegionWith
import Derived.Deep.DeepCutAuto
import Derived.Deep.DeepHandedRow
import Derived.PinnedBridge
import Derived.Lib.LaidU8T
import Derived.Lay
import Derived.LaidOnce
import Derived.SevenTiedAt
namespace Go.Proofs.YtnkbeaeopcemjaaDoor.charsJoins
open Go.ChangeShapes Go.WideShapes Go.ChangeAt Go.RowKit
open Go.ChangeMaps (open_string shut_string)
set_option linter.unusedVariables false
set_option linter.unusedSimpArgs false

theorem own : ownKnob Tryd.prog.godebug = none := by kernel_rfl

theorem arr_size (l : List UInt8) : (ByteArray.mk l.toArray).size = l.length := by simp [ByteArray.size]
theorem arr_app (a b : List UInt8) : ByteArray.mk a.toArray ++ ByteArray.mk b.toArray = ⟨(a ++ b).toArray⟩ := by
  apply ByteArray.ext
  simp
theorem arr_sp (a b : List UInt8) : ByteArray.mk a.toArray ++ ByteArray.mk #[32] ++ ByteArray.mk b.toArray = ⟨(a ++ [32] ++ b).toArray⟩ := by
  rw [show (ByteArray.mk #[32]) = ByteArray.mk ([32] : List UInt8).toArray from rfl, arr_app, arr_app]

theorem up_list (l : List UInt8) (w : World) (h : l.length ≤ 8796093022208) :
    Calls Tryd.prog 6 #[.string ⟨l.toArray⟩] w fun e w' => e = .returned (.string ⟨(Ch.upL l).toArray⟩) ∧ Below w.heap.size w w' := by
  have := Ch.upcase_any ⟨l.toArray⟩ w (by rw [arr_size]; exact h)
  simpa using this
theorem fold_list (l : List UInt8) (w : World) (h : l.length ≤ 8796093022208) :
    Calls Tryd.prog 10 #[.string ⟨l.toArray⟩] w fun e w' => e = .returned (.string ⟨(Ch.foldL l).toArray⟩) ∧ Below w.heap.size w w' := by
  have := Ch.fold_any ⟨l.toArray⟩ w (by rw [arr_size]; exact h)
  simpa using this
theorem down_list (l : List UInt8) (w : World) (h : l.length ≤ 8796093022208) (hT : Lib.Utf8Tabs 0 1 w) :
    Calls Tryd.prog 8 #[.string ⟨l.toArray⟩] w fun e w' => e = .returned (.string ⟨(Ch.downL l).toArray⟩) ∧ Below w.heap.size w w' := by
  have := Ch.downcase_any ⟨l.toArray⟩ w (by rw [arr_size]; exact h) hT
  simpa using this
theorem title_list (l : List UInt8) (w : World) (h : l.length ≤ 8796093022208) (hT : Lib.Utf8Tabs 0 1 w) :
    Calls Tryd.prog 12 #[.string ⟨l.toArray⟩] w fun e w' => e = .returned (.string ⟨(Ch.titleL l).toArray⟩) ∧ Below w.heap.size w w' := by
  have := Ch.titlecase_any ⟨l.toArray⟩ w (by rw [arr_size]; exact h) hT
  simpa using this

theorem down_len (l : List UInt8) : (Ch.downL l).length ≤ 4 * l.length := by
  unfold Ch.downL
  have := Ch.encs_len (Ch.downF false (Ru.runes l))
  rw [Ch.downF_length] at this
  have := Ch.runes_len l.length l (Nat.le_refl _)
  omega
theorem title_len (l : List UInt8) : (Ch.titleL l).length ≤ 8 * l.length := by
  unfold Ch.titleL
  have := Ch.encs_len (Ch.titleF false (Ru.runes l))
  have := Ch.titleF_len false (Ru.runes l)
  have := Ch.runes_len l.length l (Nat.le_refl _)
  omega

set_option maxHeartbeats 8000000 in
set_option maxRecDepth 100000 in
theorem walk (s t : ByteArray) (w : World) (hs : s.size ≤ 1048576) (ht : t.size ≤ 1048576) (hT : Lib.Utf8Tabs 0 1 w) :
    Calls Tryd.prog 4 #[.string s, .string t] w fun e w' => e = .returned (.bool true) ∧ Below w.heap.size w w' := by
  have HT := Lib.hid hT; clear hT
  go_enter Tryd.func4, Tryd.ntmps4
  go_upto_region 1 with fail
  go_cut [5, 6] (fun s5 s6 wx => s5 = .string ⟨(Ru.encs (Ru.runes s.data.toList)).toArray⟩ ∧ s6 = .string ⟨(Ru.encs (Ru.runes t.data.toList)).toArray⟩ ∧ Below w.heap.size w wx)
  case first =>
    go_region_with (first
      | (go_at_call_of 14 (Value.string s); refine (Ch.runes_any s _ (by omega)).mono ?_; rintro e w1 ⟨v1, rfl, own1, hb1⟩; have cv1 := Sl.run_string (P := Tryd.prog) w1 25 9 21 _ _ Tryd.underlying25 Tryd.underlying21 Tryd.underlying9 (Sl.IntsAt.of_own own1))
      | (go_at_call_of 14 (Value.string t); refine (Ch.runes_any t _ (by omega)).mono ?_; rintro e w2 ⟨v2, rfl, own2, hb2⟩; have cv2 := Sl.run_string (P := Tryd.prog) w2 25 9 21 _ _ Tryd.underlying25 Tryd.underlying21 Tryd.underlying9 (Sl.IntsAt.of_own own2); have cv1b := Sl.run_string (P := Tryd.prog) w2 25 9 21 _ _ Tryd.underlying25 Tryd.underlying21 Tryd.underlying9 ((Sl.IntsAt.of_own own1).below hb2 (Nat.le_refl _))))
    all_goals (go_wp2_with fail; go_meet; exact ⟨rfl, rfl, Below.trans (Below.drew (Below.refl _ _)) (hb1.trans (hb2.mono hb1.size))⟩)
  case rest =>
    obtain ⟨rfl, rfl, hbw⟩ := hcut
    have oka := Ru.runes_okR s.data.toList
    have okb := Ru.runes_okR t.data.toList
    have la := Ch.runes_len s.data.toList.length s.data.toList (Nat.le_refl _)
    have lb := Ch.runes_len t.data.toList.length t.data.toList (Nat.le_refl _)
    have la2 := Ch.encs_len (Ru.runes s.data.toList)
    have lb2 := Ch.encs_len (Ru.runes t.data.toList)
    have las : s.data.toList.length = s.size := by simp
    have lbs : t.data.toList.length = t.size := by simp
    have jU := Ch.mapT_join Ch.upF _ _ oka okb
    have jF := Ch.mapT_join Ch.foldF _ _ oka okb
    have jD := Ch.downL_join _ _ oka okb
    have jT := Ch.titleL_join _ _ oka okb
    generalize Ru.encs (Ru.runes s.data.toList) = A at *
    generalize Ru.encs (Ru.runes t.data.toList) = B at *
    clear oka okb
    have lA : A.length ≤ 4194304 := by omega
    have lB : B.length ≤ 4194304 := by omega
    clear la lb la2 lb2 las lbs
    have c1 := fun w => up_list (A ++ B) w (by simp; omega)
    have c2 := fun w => up_list A w (by omega)
    have c3 := fun w => up_list B w (by omega)
    have c4 := fun w => fold_list (A ++ B) w (by simp; omega)
    have c5 := fun w => fold_list A w (by omega)
    have c6 := fun w => fold_list B w (by omega)
    have c7 := fun w h => down_list (A ++ [32] ++ B) w (by simp; omega) h
    have c8 := fun w h => down_list A w (by omega) h
    have c9 := fun w h => down_list B w (by omega) h
    have d1 := fun w h => title_list (A ++ [32] ++ B) w (by simp; omega) h
    have d2 := fun w h => title_list A w (by omega) h
    have d3 := fun w h => title_list B w (by omega) h
    change Ch.upL (A ++ B) = Ch.upL A ++ Ch.upL B at jU
    change Ch.foldL (A ++ B) = Ch.foldL A ++ Ch.foldL B at jF
    rw [jU, ← arr_app, ← arr_app] at c1
    rw [jF, ← arr_app, ← arr_app] at c4
    rw [jD, ← arr_sp, ← arr_sp] at c7
    rw [jT, ← arr_sp, ← arr_sp] at d1
    have q1 := Ch.mapT_len Ch.upF_len A
    have q2 := Ch.mapT_len Ch.upF_len B
    have q3 := Ch.mapT_len Ch.foldF_len A
    have q4 := Ch.mapT_len Ch.foldF_len B
    have q5 := down_len A
    have q6 := down_len B
    have q7 := title_len A
    have q8 := title_len B
    change (Ch.upL A).length ≤ _ at q1
    change (Ch.upL B).length ≤ _ at q2
    change (Ch.foldL A).length ≤ _ at q3
    change (Ch.foldL B).length ≤ _ at q4
    clear jU jF jD jT
    generalize Ch.upL A = UA at *
    generalize Ch.upL B = UB at *
    generalize Ch.foldL A = FA at *
    generalize Ch.foldL B = FB at *
    generalize Ch.downL A = DA at *
    generalize Ch.downL B = DB at *
    generalize Ch.titleL A = TA at *
    generalize Ch.titleL B = TB at *
    have z1 : ¬ 9223372036854775807 < A.length + B.length := by omega
    have z2 : ¬ 9223372036854775807 < UA.length + UB.length := by omega
    have z3 : ¬ 9223372036854775807 < FA.length + FB.length := by omega
    have z4 : ¬ 9223372036854775807 < A.length + 1 := by omega
    have z5 : ¬ 9223372036854775807 < A.length + 1 + B.length := by omega
    have z6 : ¬ 9223372036854775807 < DA.length + 1 := by omega
    have z7 : ¬ 9223372036854775807 < DA.length + 1 + DB.length := by omega
    have z8 : ¬ 9223372036854775807 < TA.length + 1 := by omega
    have z9 : ¬ 9223372036854775807 < TA.length + 1 + TB.length := by omega
    clear q1 q2 q3 q4 q5 q6 q7 q8 lA lB
    have K1 := Lib.hid c1; clear c1
    have K2 := Lib.hid c2; clear c2
    have K3 := Lib.hid c3; clear c3
    have K4 := Lib.hid c4; clear c4
    have K5 := Lib.hid c5; clear c5
    have K6 := Lib.hid c6; clear c6
    have K7 := Lib.hid c7; clear c7
    have K8 := Lib.hid c8; clear c8
    have K9 := Lib.hid c9; clear c9
    have K10 := Lib.hid d1; clear d1
    have K11 := Lib.hid d2; clear d2
    have K12 := Lib.hid d3; clear d3
    clear hs ht
    go_wp2_with fail
    refine (Ch.awake_any _).mono ?_; rintro e x0 ⟨rfl, hb⟩
    have b0 := hbw.trans (hb.mono hbw.size); clear hb hbw
    go_wp2_with fail
    refine (K1.out _).mono ?_; rintro e x1 ⟨rfl, hb⟩
    have b1 := b0.trans (hb.mono b0.size); clear hb b0
    go_wp2_with fail
    refine (K2.out _).mono ?_; rintro e x2 ⟨rfl, hb⟩
    have b2 := b1.trans (hb.mono b1.size); clear hb b1
    go_wp2_with fail
    refine (K3.out _).mono ?_; rintro e x3 ⟨rfl, hb⟩
    have b3 := b2.trans (hb.mono b2.size); clear hb b2
    go_wp2_with fail
    refine (K4.out _).mono ?_; rintro e x4 ⟨rfl, hb⟩
    have b4 := b3.trans (hb.mono b3.size); clear hb b3
    go_wp2_with fail
    refine (K5.out _).mono ?_; rintro e x5 ⟨rfl, hb⟩
    have b5 := b4.trans (hb.mono b4.size); clear hb b4
    go_wp2_with fail
    refine (K6.out _).mono ?_; rintro e x6 ⟨rfl, hb⟩
    have b6 := b5.trans (hb.mono b5.size); clear hb b5
    go_wp2_with fail
    refine (K7.out _ (Ch.tabs_below HT.out b6)).mono ?_; rintro e x7 ⟨rfl, hb⟩
    have b7 := b6.trans (hb.mono b6.size); clear hb b6
    go_wp2_with fail
    refine (K8.out _ (Ch.tabs_below HT.out b7)).mono ?_; rintro e x8 ⟨rfl, hb⟩
    have b8 := b7.trans (hb.mono b7.size); clear hb b7
    go_wp2_with fail
    refine (K9.out _ (Ch.tabs_below HT.out b8)).mono ?_; rintro e x9 ⟨rfl, hb⟩
    have b9 := b8.trans (hb.mono b8.size); clear hb b8
    go_wp2_with fail
    refine (K10.out _ (Ch.tabs_below HT.out b9)).mono ?_; rintro e x10 ⟨rfl, hb⟩
    have b10 := b9.trans (hb.mono b9.size); clear hb b9
    go_wp2_with fail
    refine (K11.out _ (Ch.tabs_below HT.out b10)).mono ?_; rintro e x11 ⟨rfl, hb⟩
    have b11 := b10.trans (hb.mono b10.size); clear hb b10
    go_wp2_with fail
    refine (K12.out _ (Ch.tabs_below HT.out b11)).mono ?_; rintro e x12 ⟨rfl, hb⟩
    have b12 := b11.trans (hb.mono b11.size); clear hb b11
    go_wp2_with fail
    go_ret
    exact ⟨rfl, b12⟩

/-! ### the row's step -/
theorem short {H : Type} {l m : List UInt8} (hk : Rows.uptoSmall H [.lit (.string l), .lit (.string m)] = true) : l.length ≤ 1048576 ∧ m.length ≤ 1048576 := by
  have h : Rows.uptoBulkAll [DataW.lit (H := H) (.string l), .lit (.string m)] ≤ 1048576 := of_decide_eq_true hk
  simp only [Rows.uptoBulkAll, Rows.uptoBulk] at h
  omega

def args0 : Array Value := #[.string .empty, .string .empty]
theorem laid_met (os : Os) : laidMetH Tryd.prog Rows.charsJoinsUptoRow.laid ((World.laidAll Tryd.prog os Rows.charsJoinsUptoRow.laid).forCall (fun _ _ => 0) ⟨#[], args0, []⟩).memory := by
  rw [MakeChecks.laidMetH_plain _ _ _ (by kernel_rfl)]
  exact laidMet_laidAll _ (by kernel_rfl) (by kernel_rfl)
theorem reads (os : Os) {H : Type} (enc : TypeId × Value → H) : ∃ places, DataW.whole enc Tryd.prog ((World.laidAll Tryd.prog os Rows.charsJoinsUptoRow.laid).forCall (fun _ _ => 0) ⟨#[], args0, []⟩).memory Tryd.f4.params.toList Rows.charsJoinsSpec.vars false args0.toList 8 = some ([.lit (.string []), .lit (.string [])], [], places) :=
  ⟨[], by kernel_rfl⟩

theorem xU8 : U8Extra Tryd.prog Tryd.lays260_ren := ⟨by kernel_rfl, by kernel_rfl, by kernel_rfl, by kernel_rfl, by kernel_rfl, by kernel_rfl, by kernel_rfl⟩
theorem accEq : (Rows.laid_unicode_utf8_acceptRanges : DataW Unit) = Lib.acceptData := by kernel_rfl
/-- THE TABLES, out of what the row lists. -/
theorem tabs {W : World} (hL : laidMetH Tryd.prog Rows.charsJoinsUptoRow.laid W) : Lib.Utf8Tabs 0 1 W := by
  rw [MakeChecks.laidMetH_plain _ _ _ (by kernel_rfl)] at hL
  exact utf8Tabs_of_readsT (U8Types.of260 Tryd.lays260) xU8 (Pinned.utf8First_eq ▸ Lib.laidMet.reads hL (.tail _ (.head _))) (accEq ▸ Lib.laidMet.reads hL (.head _))

set_option maxRecDepth 100000 in
theorem lifted (os : Os) (started : os.Started) (H : Type) (enc : TypeId × Value → H) (F : Stop.Interp) :
    ReturnsInHanded {} Tryd.checked os 4 .any ((Rows.OpenSpec.upto Rows.charsJoinsSpec).preRow enc Tryd.prog Tryd.f4 Rows.charsJoinsUptoRow.domain false Rows.charsJoinsUptoRow.laid) (((Rows.OpenSpec.upto Rows.charsJoinsSpec).at F).post enc Tryd.prog Tryd.f4 false true false false) := by
  obtain ⟨places, hx⟩ := reads os enc
  refine returnsInHanded_of_row (C := Tryd.checked) (s := Rows.OpenSpec.upto Rows.charsJoinsSpec) own started (by kernel_rfl) Tryd.func4
    (witness_row_at (enc := enc) (C := Tryd.checked) false (World.laidAll Tryd.prog os Rows.charsJoinsUptoRow.laid) args0 (World.laidAll_os _ _ _) (by kernel_rfl) (by kernel_rfl) (by kernel_rfl)
      (OpenSpec.preRow_of_cond 8 hx (by kernel_rfl) (fun k hk => by cases hk; kernel_rfl) (by kernel_rfl) (laid_met os))) ?_
  intro W base args ds gs before hval hW _ hcond _ hL _ _
  have hk := hcond _ rfl
  have hW' := hW
  obtain ⟨p, q, hA0, hV, rfl, hfz, hnd⟩ := hW
  have hA : DataW.TrodAll enc Tryd.prog W 0 (fun _ => true) true Tryd.f4.params.toList args.toList ds p := hA0
  rw [Tryd.params4] at hA hval
  obtain ⟨v0, vs0, d0, ds0, p0, q0, hargs, rfl, rfl, h0, r0⟩ := trodAll_cons hA
  obtain ⟨v1, vs1, d1, ds1, p1, q1, rfl, rfl, rfl, h1, r1⟩ := trodAll_cons r0
  obtain ⟨rfl, rfl, rfl⟩ := trodAll_nil r1
  obtain rfl : args = #[v0, v1] := by cases args; simp_all
  obtain ⟨rfl, rfl⟩ := trodVars_none hV
  obtain ⟨s, rfl, rfl, rfl, hmax⟩ := open_string Tryd.underlying9 (hval 0 9 v0 rfl rfl) h0
  obtain ⟨t, rfl, rfl, rfl, hmax2⟩ := open_string Tryd.underlying9 (hval 1 9 v1 rfl rfl) h1
  clear hA0
  simp only [List.append_nil] at hW' hk
  have hs := short hk
  refine (walk s t W (by simpa using hs.1) (by simpa using hs.2) (tabs hL)).mono fun e W' ⟨he, bel⟩ => ?_
  subst he
  exact ⟨_, rfl, _, _, _, [], [], [], hW', trodAll_mk1 (shut_bool Tryd.underlying4 _), (trodAll_cons_mk (shut_string Tryd.underlying9 hmax) (trodAll_cons_mk (shut_string Tryd.underlying9 hmax2) trodAll_mk0)), rfl, bel.frame _, fun h => by cases h⟩

theorem saidUpto : Rows.CharsJoinsUptoSaid :=
  OpenClaim.holds_of_cond 4 Tryd.f4 rfl rfl rfl rfl rfl rfl rfl ⟨rfl, rfl, rfl, rfl, rfl⟩ rfl rfl rfl rfl rfl (by kernel_rfl) Tryd.func4 (by kernel_rfl)
    (of_decide_eq_true (by kernel_rfl)) (by unfold Func.isWrapper; first | (rw [if_pos (by decide +kernel)]; kernel_rfl) | (rw [if_neg (by decide +kernel)]; exact ⟨rfl, rfl⟩))
    (fun os started H enc _ F => by rw [OpenClaim.pre_eq_preRow]; exact lifted os started H enc F)

theorem plain (f : FuncId) (fn : Func) (hf : Tryd.pinned.checked.prog.funcNamed "sextant/sextantlaw01.CharsJoins" = some f) (hfn : Tryd.pinned.checked.prog.funcs[f]? = some fn) :
    false = Tryd.pinned.checked.prog.looks [] ∧ ∀ (j : Nat) t, fn.params[j]? = some t → Tryd.pinned.checked.prog.wantsStandIn t = false := by
  obtain rfl : f = 4 := Option.some.inj ((show Tryd.prog.funcNamed "sextant/sextantlaw01.CharsJoins" = some 4 by kernel_rfl).symm.trans hf) |>.symm
  obtain rfl : fn = Tryd.f4 := (Option.some.inj (Tryd.func4.symm.trans hfn)).symm
  refine ⟨by kernel_rfl, fun j t ht => ?_⟩
  rw [Tryd.params4] at ht
  have hm : t ∈ [9] := by simpa using Array.mem_of_getElem? ht
  have hall : ([9].all fun u => !Tryd.prog.wantsStandIn u) = true := by kernel_rfl
  exact (show Tryd.prog.wantsStandIn t = false by simpa using List.all_eq_true.1 hall t hm)

theorem cardUpto : Rows.CharsJoinsUptoCardSaid :=
  Claim7.holds_tied_plain_at .later [] _ _ _ _ saidUpto (fun _ h => by cases h) (by kernel_rfl) (fun _ h => by cases h) charsJoinsUpto_row_tie rfl ⟨rfl, rfl⟩ (by kernel_rfl) rfl plain (by kernel_rfl)
end Go.Proofs.YtnkbeaeopcemjaaDoor.charsJoins
