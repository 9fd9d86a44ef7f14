/-
  PROVED HERE: CondTypesCardSaid: whatever two numbers, the call of sextantlaw16.CondTypes returns true. Conditions: none of ours.
-/
import Derived.Test.YthcdkhegdlbdiaaGreatDoorCards
import Derived.Test.YthcdkhegdlbdiaaGreatDoorTie
import Derived.WalkKit
import Derived.ProofKit
import Derived.OpenShut
import Derived.ShutString
import Derived.JoinedCond
import Derived.Lib.Hide
import Derived.Deep.DeepHandedRow
import Derived.PinnedBridge
import Derived.Lib.LaidU8T
import Derived.Lay
import Derived.LaidOnce
import Derived.SevenTiedAt
import Derived.SizedLaws
import Derived.Carry
import Derived.Lib.SmallJoins
import Derived.Test.YthcdkhegdlbdiaaGreatDoorCoTell
import Derived.Test.YthcdkhegdlbdiaaGreatDoorCoRef
namespace Go.Proofs.YthcdkhegdlbdiaaGreatDoor
open Go.RowKit
set_option linter.unusedVariables false

theorem Co.nm_ne : ∀ k, k < 20 → ¬ (Co.nm k).toList = [] := by decide +kernel

set_option maxHeartbeats 4000000 in
set_option maxRecDepth 1000000 in
theorem condTypes.walk (t of : Int) (w : World) (ht : (Lit.int .i64 t).wf = true) (ho : (Lit.int .i64 of).wf = true) :
    Calls Tryz.prog 4 #[.int .i64 t, .int .i64 of] w fun e w' => e = .returned (.bool true) ∧ Below w.heap.size w w' := by
  have KP := fun w => Co.parent_any t w
  have KN := fun w => Co.name_any t w
  have KU := fun w => Co.Under_any t of w
  have KR := fun w => Co.refName_any t w
  have KR2 := fun w => Co.refName_any of w
  have KRP : Co.thr t = true → ∀ w, Calls Tryz.prog 10 #[.int .i64 t] w fun e w' => e = .returned (.int .i64 (Co.par t.toNat)) ∧ Below w.heap.size w w' := by
    intro h w
    have h := of_decide_eq_true h
    have := Co.refParent_in t.toNat (by omega) w
    rw [show ((t.toNat : Nat) : Int) = t by omega] at this
    exact this
  have KRU : Co.thr t = true → Co.thr of = true → ∀ w, Calls Tryz.prog 11 #[.int .i64 t, .int .i64 of] w fun e w' => e = .returned (.bool (Co.under t of)) ∧ Below w.heap.size w w' := by
    intro h h2 w
    have h := of_decide_eq_true h
    have h2 := of_decide_eq_true h2
    have := Co.refUnder_in t.toNat (by omega) of (by omega) w
    rw [show ((t.toNat : Nat) : Int) = t by omega] at this
    exact this
  have n1 : Co.thr t = true → ¬ (Co.nm t.toNat).toList = [] := fun h => by
    have h := of_decide_eq_true h
    exact Co.nm_ne t.toNat (by omega)
  have n2 : Co.thr of = true → ¬ (Co.nm of.toNat).toList = [] := fun h => by
    have h := of_decide_eq_true h
    exact Co.nm_ne of.toNat (by omega)
  unfold Co.Under at KU
  clear ht ho
  generalize Co.under t of = U at *
  generalize Co.nm t.toNat = N1 at *
  generalize Co.nm of.toNat = N2 at *
  generalize Co.par t.toNat = P1 at *
  cases h1 : Co.thr t <;> cases h2 : Co.thr of
  all_goals
    rw [h1] at KP KN KU KR
    rw [h2] at KU KR2
    simp only [if_true, if_false, Bool.false_eq_true, Bool.and_true, Bool.and_false, Bool.true_and, Bool.false_and, Bool.and_self] at KP KN KU KR KR2
    first
    | (have n1 := n1 h1
       have n1b : N1.toList.isEmpty = false := by simpa using n1)
    | (have n1 := trivial)
    first
    | (have n2 := n2 h2
       have n2b : N2.toList.isEmpty = false := by simpa using n2)
    | (have n2 := trivial)
    have KP := Lib.hid KP
    have KN := Lib.hid KN
    have KU := Lib.hid KU
    have KR := Lib.hid KR
    have KR2 := Lib.hid KR2
    go_enter Tryz.func4, Tryz.ntmps4
    go_wp2_with fail
    refine (KP.out _).mono ?_
    rintro x w1 ⟨rfl, hb1⟩
    have HB1 := Lib.hid hb1
    clear hb1 KP
    go_wp2_with fail
    refine (KN.out _).mono ?_
    rintro x w2 ⟨rfl, hb2⟩
    have HB2 := Lib.hid (HB1.out.trans (hb2.mono HB1.out.size))
    clear hb2 KN
    go_wp2_with fail
    refine (KU.out _).mono ?_
    rintro x w3 ⟨rfl, hb3⟩
    have HB3 := Lib.hid (HB2.out.trans (hb3.mono HB2.out.size))
    clear hb3 KU
    go_wp2_with fail
    refine (KR.out _).mono ?_
    rintro x w4 ⟨rfl, hb4⟩
    have HB4 := Lib.hid (HB3.out.trans (hb4.mono HB3.out.size))
    clear hb4
    go_wp2_with fail
    refine (KR.out _).mono ?_
    rintro x w5 ⟨rfl, hb5⟩
    have HB5 := Lib.hid (HB4.out.trans (hb5.mono HB4.out.size))
    clear hb5
    go_wp2_with fail
    first
    | (refine (KR2.out _).mono ?_
       rintro x w6 ⟨rfl, hb6⟩
       have HB6 := Lib.hid (HB5.out.trans (hb6.mono HB5.out.size))
       clear hb6
       go_wp2_with fail)
    | (obtain ⟨w6, hw6⟩ : ∃ z, z = w5 := ⟨_, rfl⟩
       subst hw6
       have HB6 := HB5)
    refine (Co.awake_any _).mono ?_
    rintro x w7 ⟨rfl, hb7⟩
    have HB7 := Lib.hid (HB6.out.trans (hb7.mono HB6.out.size))
    clear hb7
    go_wp2_with fail
    first
    | (go_ret
       exact ⟨rfl, HB7.out⟩)
    | (refine (KRP h1 _).mono ?_
       rintro x w8 ⟨rfl, hb8⟩
       have HB8 := Lib.hid (HB7.out.trans (hb8.mono HB7.out.size))
       clear hb8
       go_wp2_with fail
       refine (KR.out _).mono ?_
       rintro x w9 ⟨rfl, hb9⟩
       have HB9 := Lib.hid (HB8.out.trans (hb9.mono HB8.out.size))
       clear hb9
       go_wp2_with fail
       first
       | (go_ret
          exact ⟨rfl, HB9.out⟩)
       | (refine (KRU h1 h2 _).mono ?_
          rintro x w10 ⟨rfl, hb10⟩
          have HB10 := Lib.hid (HB9.out.trans (hb10.mono HB9.out.size))
          clear hb10
          go_wp2
          go_ret
          exact ⟨by simp, HB10.out⟩))
end Go.Proofs.YthcdkhegdlbdiaaGreatDoor
namespace Go.Proofs.YthcdkhegdlbdiaaGreatDoor.condTypes
open Go.ChangeShapes Go.WideShapes Go.ChangeAt Go.RowKit Go.Joins
open Go.ChangeMaps (open_string shut_string)
set_option linter.unusedVariables false
set_option linter.unusedSimpArgs false

theorem own : ownKnob Tryz.prog.godebug = none := by kernel_rfl
theorem laidOut : laidOutB Tryz.prog = true := by kernel_rfl
def args0 : Array Value := #[.int .i64 0, .int .i64 0]
theorem laid_met (os : Os) : laidMetH Tryz.prog Rows.condTypesRow.laid ((World.laidAll Tryz.prog os Rows.condTypesRow.laid).forCall (fun _ _ => 0) ⟨#[], args0, []⟩).memory := by
  rw [MakeChecks.laidMetH_plain _ _ _ (by kernel_rfl)]
  exact laidMet_laidAll _ (by kernel_rfl) (by kernel_rfl)
theorem reads (os : Os) {H : Type} (enc : TypeId × Value → H) : ∃ places, DataW.whole enc Tryz.prog ((World.laidAll Tryz.prog os Rows.condTypesRow.laid).forCall (fun _ _ => 0) ⟨#[], args0, []⟩).memory Tryz.f4.params.toList Rows.condTypesSpec.vars false args0.toList 8 = some ([.lit (.int .i64 0), .lit (.int .i64 0)], [], places) :=
  ⟨[], by kernel_rfl⟩

set_option maxRecDepth 100000 in
theorem lifted (os : Os) (started : os.Started) (H : Type) (enc : TypeId × Value → H) (F : Stop.Interp) :
    ReturnsInHanded {} Tryz.checked os 4 .any ((OpenSpec.ofChange Rows.condTypesSpec).preRow enc Tryz.prog Tryz.f4 Rows.condTypesRow.domain false Rows.condTypesRow.laid) (((OpenSpec.ofChange Rows.condTypesSpec).at F).post enc Tryz.prog Tryz.f4 false true false false) := by
  obtain ⟨places, hx⟩ := reads os enc
  refine returnsInHanded_of_row (C := Tryz.checked) (s := OpenSpec.ofChange Rows.condTypesSpec) own started (by kernel_rfl) Tryz.func4
    (witness_row_at (enc := enc) (C := Tryz.checked) false (World.laidAll Tryz.prog os Rows.condTypesRow.laid) args0 (World.laidAll_os _ _ _) (by kernel_rfl) (by kernel_rfl) (by kernel_rfl)
      (OpenSpec.preRow_of_cond 8 hx (by kernel_rfl) (fun k hk => by cases hk) (by kernel_rfl) (laid_met os))) ?_
  intro W base args ds gs before hval hW _ hcond hsz hL hshaped _
  have hW' := hW
  obtain ⟨p, q, hA0, hV, rfl, hfz, hnd⟩ := hW
  have hA : DataW.TrodAll enc Tryz.prog W 0 (fun _ => true) true Tryz.f4.params.toList args.toList ds p := hA0
  rw [Tryz.params4] at hA hval
  obtain ⟨v0, vs0, d0, ds0, p0, q0, hargs, rfl, rfl, h0, r0⟩ := trodAll_cons hA
  obtain ⟨v1, vs1, d1, ds1, p1, q1, rfl, rfl, rfl, h1, r1⟩ := trodAll_cons r0
  obtain ⟨rfl, rfl, rfl⟩ := trodAll_nil r1
  obtain rfl : args = #[v0, v1] := by cases args; simp_all
  obtain ⟨rfl, rfl⟩ := trodVars_none hV
  clear hA0
  simp only [List.append_nil] at hW'
  have k0 := h0
  have lt0 : ∀ x ∈ p0, x.block < W.heap.size := fun x hx => by simpa using hW'.lt x (by simp [hx])
  have k1 := h1
  have lt1 : ∀ x ∈ p1, x.block < W.heap.size := fun x hx => by simpa using hW'.lt x (by simp [hx])
  have hsz2 : (DataW.weightsEach Tryz.prog [3, 3] [d0, d1]).all (· ≤ reachBytes) = true := by
    have := hsz
    rw [Tryz.params4] at this
    exact this
  obtain ⟨a0, rfl, rfl, rfl, w0⟩ := open_int Tryz.underlying3 (hval 0 3 v0 rfl rfl) h0
  obtain ⟨a1, rfl, rfl, rfl, w1⟩ := open_int Tryz.underlying3 (hval 1 3 v1 rfl rfl) h1
  refine (walk a0 a1 W w0 w1 ).mono fun e W' ⟨he, bel⟩ => ?_
  subst he
  exact ⟨_, rfl, _, _, _, [], _, [], hW', trodAll_mk1 (shut_bool Tryz.underlying4 _), (trodAll_cons_mk (Below.trod laidOut (by kernel_rfl) (of_decide_eq_true (by kernel_rfl)) k0 bel lt0) (trodAll_cons_mk (Below.trod laidOut (by kernel_rfl) (of_decide_eq_true (by kernel_rfl)) k1 bel lt1) trodAll_mk0)), rfl, bel.frame _, fun h => by cases h⟩

theorem said : Rows.CondTypesSaid :=
  OpenClaim.holds_of_cond 4 Tryz.f4 rfl rfl rfl rfl rfl rfl rfl ⟨rfl, rfl, rfl, rfl, rfl⟩ rfl rfl rfl rfl rfl (by kernel_rfl) Tryz.func4 (by kernel_rfl)
    (of_decide_eq_true (by kernel_rfl)) (by unfold Func.isWrapper; first | (rw [if_pos (by decide +kernel)]; kernel_rfl) | (rw [if_neg (by decide +kernel)]; exact ⟨rfl, rfl⟩))
    (fun os started H enc _ F => by rw [OpenClaim.pre_eq_preRow]; exact lifted os started H enc F)

theorem plain (f : FuncId) (fn : Func) (hf : Tryz.pinned.checked.prog.funcNamed "sextant/sextantlaw16.CondTypes" = some f) (hfn : Tryz.pinned.checked.prog.funcs[f]? = some fn) :
    false = Tryz.pinned.checked.prog.looks [] ∧ ∀ (j : Nat) t, fn.params[j]? = some t → Tryz.pinned.checked.prog.wantsStandIn t = false := by
  obtain rfl : f = 4 := Option.some.inj ((show Tryz.prog.funcNamed "sextant/sextantlaw16.CondTypes" = some 4 by kernel_rfl).symm.trans hf) |>.symm
  obtain rfl : fn = Tryz.f4 := (Option.some.inj (Tryz.func4.symm.trans hfn)).symm
  refine ⟨by kernel_rfl, fun j t ht => ?_⟩
  rw [Tryz.params4] at ht
  have hm : t ∈ [3, 3] := by simpa using Array.mem_of_getElem? ht
  have hall : ([3, 3].all fun u => !Tryz.prog.wantsStandIn u) = true := by kernel_rfl
  exact (show Tryz.prog.wantsStandIn t = false by simpa using List.all_eq_true.1 hall t hm)

theorem card : Rows.CondTypesCardSaid :=
  Claim7.holds_tied_plain_at .later [] _ _ _ _ said (fun _ h => by cases h) (by kernel_rfl) (fun _ h => by cases h) condTypes_row_tie rfl ⟨rfl, rfl⟩ (by kernel_rfl) rfl plain (by kernel_rfl)
end Go.Proofs.YthcdkhegdlbdiaaGreatDoor.condTypes
