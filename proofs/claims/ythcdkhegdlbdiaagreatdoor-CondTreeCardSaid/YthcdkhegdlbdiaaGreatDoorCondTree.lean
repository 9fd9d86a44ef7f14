/-
  PROVED HERE: CondTreeCardSaid: whatever three bytes, the call of sextantlaw16.CondTree returns true. Conditions: none of ours.
-/
import Derived.Test.YthcdkhegdlbdiaaGreatDoorCards
import Derived.Test.YthcdkhegdlbdiaaGreatDoorTie
import Derived.WalkKit
import Derived.ProofKit
import Derived.OpenShut
import Derived.ShutString
import Derived.JoinedCond
import Derived.Lib.Hide
import Derived.Deep.DeepHandedRow
import Derived.PinnedBridge
import Derived.Lib.LaidU8T
import Derived.Lay
import Derived.LaidOnce
import Derived.SevenTiedAt
import Derived.SizedLaws
import Derived.Carry
import Derived.Lib.SmallJoins
import Derived.Test.YthcdkhegdlbdiaaGreatDoorCoTell
namespace Go.Proofs.YthcdkhegdlbdiaaGreatDoor
open Go.RowKit
set_option linter.unusedVariables false

theorem Co.mod20 (a : Int) (ha : (Lit.int .u8 a).wf = true) : ∃ i : Nat, i < 20 ∧ wrap64 (a.tmod 20) = i := by
  have h := bounds_u8 ha
  have e : a.tmod 20 = a % 20 := Int.tmod_eq_emod_of_nonneg (by omega)
  rw [e]
  refine ⟨(a % 20).toNat, by omega, ?_⟩
  unfold wrap64
  omega
theorem condTree.law : ∀ i j k : Fin 20, ((!(Co.under i.val j.val)) || (!(Co.under j.val k.val)) || Co.under i.val k.val) = true ∧ ((!(Co.under i.val j.val)) || (!(Co.under j.val i.val)) || i.val == j.val) = true ∧ Co.under i.val 0 = true ∧ Co.under i.val i.val = true := by decide +kernel

set_option maxHeartbeats 4000000 in
set_option maxRecDepth 1000000 in
theorem condTree.walk (a b c : Int) (w : World) (ha : (Lit.int .u8 a).wf = true) (hb : (Lit.int .u8 b).wf = true) (hc : (Lit.int .u8 c).wf = true) :
    Calls Tryz.prog 3 #[.int .u8 a, .int .u8 b, .int .u8 c] w fun e w' => e = .returned (.bool true) ∧ Below w.heap.size w w' := by
  obtain ⟨i, hi, ei⟩ := Co.mod20 a ha
  obtain ⟨j, hj, ej⟩ := Co.mod20 b hb
  obtain ⟨k, hk, ek⟩ := Co.mod20 c hc
  have HL : ((!(Co.under i j)) || (!(Co.under j k)) || Co.under i k) = true ∧ ((!(Co.under i j)) || (!(Co.under j i)) || i == j) = true ∧ Co.under i 0 = true ∧ Co.under i i = true := condTree.law ⟨i, hi⟩ ⟨j, hj⟩ ⟨k, hk⟩
  have thr : ∀ n : Nat, n < 20 → Co.thr n = true := fun n hn => decide_eq_true (by omega)
  have K := fun (i j : Nat) (hi : i < 20) (hj : j < 20) w => Co.Under_any i j w
  unfold Co.Under at K
  have K1 := fun w => K i j hi hj w
  have K2 := fun w => K j k hj hk w
  have K3 := fun w => K i k hi hk w
  have K4 := fun w => K j i hj hi w
  have K5 := fun w => Co.Under_any i 0 w
  unfold Co.Under at K5
  have K6 := fun w => K i i hi hi w
  rw [thr i hi, thr j hj] at K1
  rw [thr j hj, thr k hk] at K2
  rw [thr i hi, thr k hk] at K3
  rw [thr j hj, thr i hi] at K4
  rw [thr i hi, show Co.thr 0 = true from rfl] at K5
  rw [thr i hi] at K6
  simp only [Bool.and_self, Bool.true_and, if_true] at K1 K2 K3 K4 K5 K6
  obtain ⟨l1, l2, l3, l4⟩ := HL
  rw [l3] at K5
  rw [l4] at K6
  generalize Co.under i j = U1 at *
  generalize Co.under j k = U2 at *
  generalize Co.under i k = U3 at *
  generalize Co.under j i = U4 at *
  have hij : (i == j) = decide ((i : Int) = (j : Int)) := by
    by_cases h : i = j
    · simp [h]
    · have h2 : ¬ ((i : Int) = (j : Int)) := by omega
      simp [h, h2]
  rw [hij] at l2
  have L1 := Lib.hid l1
  have L2 := Lib.hid l2
  have K1 := Lib.hid K1
  have K2 := Lib.hid K2
  have K3 := Lib.hid K3
  have K4 := Lib.hid K4
  have K5 := Lib.hid K5
  have K6 := Lib.hid K6
  clear l1 l2 l3 l4 hij K thr ha hb hc
  go_enter Tryz.func3, Tryz.ntmps3
  go_wp2_with fail
  refine (K1.out _).mono ?_
  rintro x w1 ⟨rfl, hb1⟩
  have HB1 := Lib.hid hb1
  clear hb1 K1
  go_wp2_with fail
  refine (K2.out _).mono ?_
  rintro x w2 ⟨rfl, hb2⟩
  have HB2 := Lib.hid (HB1.out.trans (hb2.mono HB1.out.size))
  clear hb2 K2
  go_wp2_with fail
  refine (K3.out _).mono ?_
  rintro x w3 ⟨rfl, hb3⟩
  have HB3 := Lib.hid (HB2.out.trans (hb3.mono HB2.out.size))
  clear hb3 K3
  go_wp2_with fail
  refine (K4.out _).mono ?_
  rintro x w4 ⟨rfl, hb4⟩
  have HB4 := Lib.hid (HB3.out.trans (hb4.mono HB3.out.size))
  clear hb4 K4
  go_wp2_with fail
  refine (K5.out _).mono ?_
  rintro x w5 ⟨rfl, hb5⟩
  have HB5 := Lib.hid (HB4.out.trans (hb5.mono HB4.out.size))
  clear hb5 K5
  go_wp2_with fail
  refine (K6.out _).mono ?_
  rintro x w6 ⟨rfl, hb6⟩
  have HB6 := Lib.hid (HB5.out.trans (hb6.mono HB5.out.size))
  clear hb6 K6
  go_wp2_with fail
  refine (Co.awake_any _).mono ?_
  rintro x w7 ⟨rfl, hb7⟩
  have HB7 := Lib.hid (HB6.out.trans (hb7.mono HB6.out.size))
  clear hb7
  clear ei ej ek
  go_wp2
  all_goals
    go_ret
    refine ⟨?_, HB7.out⟩
    have l1 := L1.out
    have l2 := L2.out
    clear L1 L2
    first | rfl | (simp_all; done)
end Go.Proofs.YthcdkhegdlbdiaaGreatDoor
namespace Go.Proofs.YthcdkhegdlbdiaaGreatDoor.condTree
open Go.ChangeShapes Go.WideShapes Go.ChangeAt Go.RowKit Go.Joins
open Go.ChangeMaps (open_string shut_string)
set_option linter.unusedVariables false
set_option linter.unusedSimpArgs false

theorem own : ownKnob Tryz.prog.godebug = none := by kernel_rfl
theorem laidOut : laidOutB Tryz.prog = true := by kernel_rfl
def args0 : Array Value := #[.int .u8 0, .int .u8 0, .int .u8 0]
theorem laid_met (os : Os) : laidMetH Tryz.prog Rows.condTreeRow.laid ((World.laidAll Tryz.prog os Rows.condTreeRow.laid).forCall (fun _ _ => 0) ⟨#[], args0, []⟩).memory := by
  rw [MakeChecks.laidMetH_plain _ _ _ (by kernel_rfl)]
  exact laidMet_laidAll _ (by kernel_rfl) (by kernel_rfl)
theorem reads (os : Os) {H : Type} (enc : TypeId × Value → H) : ∃ places, DataW.whole enc Tryz.prog ((World.laidAll Tryz.prog os Rows.condTreeRow.laid).forCall (fun _ _ => 0) ⟨#[], args0, []⟩).memory Tryz.f3.params.toList Rows.condTreeSpec.vars false args0.toList 8 = some ([.lit (.int .u8 0), .lit (.int .u8 0), .lit (.int .u8 0)], [], places) :=
  ⟨[], by kernel_rfl⟩

set_option maxRecDepth 100000 in
theorem lifted (os : Os) (started : os.Started) (H : Type) (enc : TypeId × Value → H) (F : Stop.Interp) :
    ReturnsInHanded {} Tryz.checked os 3 .any ((OpenSpec.ofChange Rows.condTreeSpec).preRow enc Tryz.prog Tryz.f3 Rows.condTreeRow.domain false Rows.condTreeRow.laid) (((OpenSpec.ofChange Rows.condTreeSpec).at F).post enc Tryz.prog Tryz.f3 false true false false) := by
  obtain ⟨places, hx⟩ := reads os enc
  refine returnsInHanded_of_row (C := Tryz.checked) (s := OpenSpec.ofChange Rows.condTreeSpec) own started (by kernel_rfl) Tryz.func3
    (witness_row_at (enc := enc) (C := Tryz.checked) false (World.laidAll Tryz.prog os Rows.condTreeRow.laid) args0 (World.laidAll_os _ _ _) (by kernel_rfl) (by kernel_rfl) (by kernel_rfl)
      (OpenSpec.preRow_of_cond 8 hx (by kernel_rfl) (fun k hk => by cases hk) (by kernel_rfl) (laid_met os))) ?_
  intro W base args ds gs before hval hW _ hcond hsz hL hshaped _
  have hW' := hW
  obtain ⟨p, q, hA0, hV, rfl, hfz, hnd⟩ := hW
  have hA : DataW.TrodAll enc Tryz.prog W 0 (fun _ => true) true Tryz.f3.params.toList args.toList ds p := hA0
  rw [Tryz.params3] at hA hval
  obtain ⟨v0, vs0, d0, ds0, p0, q0, hargs, rfl, rfl, h0, r0⟩ := trodAll_cons hA
  obtain ⟨v1, vs1, d1, ds1, p1, q1, rfl, rfl, rfl, h1, r1⟩ := trodAll_cons r0
  obtain ⟨v2, vs2, d2, ds2, p2, q2, rfl, rfl, rfl, h2, r2⟩ := trodAll_cons r1
  obtain ⟨rfl, rfl, rfl⟩ := trodAll_nil r2
  obtain rfl : args = #[v0, v1, v2] := by cases args; simp_all
  obtain ⟨rfl, rfl⟩ := trodVars_none hV
  clear hA0
  simp only [List.append_nil] at hW'
  have k0 := h0
  have lt0 : ∀ x ∈ p0, x.block < W.heap.size := fun x hx => by simpa using hW'.lt x (by simp [hx])
  have k1 := h1
  have lt1 : ∀ x ∈ p1, x.block < W.heap.size := fun x hx => by simpa using hW'.lt x (by simp [hx])
  have k2 := h2
  have lt2 : ∀ x ∈ p2, x.block < W.heap.size := fun x hx => by simpa using hW'.lt x (by simp [hx])
  have hsz2 : (DataW.weightsEach Tryz.prog [5, 5, 5] [d0, d1, d2]).all (· ≤ reachBytes) = true := by
    have := hsz
    rw [Tryz.params3] at this
    exact this
  obtain ⟨a0, rfl, rfl, rfl, w0⟩ := open_int Tryz.underlying5 (hval 0 5 v0 rfl rfl) h0
  obtain ⟨a1, rfl, rfl, rfl, w1⟩ := open_int Tryz.underlying5 (hval 1 5 v1 rfl rfl) h1
  obtain ⟨a2, rfl, rfl, rfl, w2⟩ := open_int Tryz.underlying5 (hval 2 5 v2 rfl rfl) h2
  refine (walk a0 a1 a2 W w0 w1 w2 ).mono fun e W' ⟨he, bel⟩ => ?_
  subst he
  exact ⟨_, rfl, _, _, _, [], _, [], hW', trodAll_mk1 (shut_bool Tryz.underlying4 _), (trodAll_cons_mk (Below.trod laidOut (by kernel_rfl) (of_decide_eq_true (by kernel_rfl)) k0 bel lt0) (trodAll_cons_mk (Below.trod laidOut (by kernel_rfl) (of_decide_eq_true (by kernel_rfl)) k1 bel lt1) (trodAll_cons_mk (Below.trod laidOut (by kernel_rfl) (of_decide_eq_true (by kernel_rfl)) k2 bel lt2) trodAll_mk0))), rfl, bel.frame _, fun h => by cases h⟩

theorem said : Rows.CondTreeSaid :=
  OpenClaim.holds_of_cond 3 Tryz.f3 rfl rfl rfl rfl rfl rfl rfl ⟨rfl, rfl, rfl, rfl, rfl⟩ rfl rfl rfl rfl rfl (by kernel_rfl) Tryz.func3 (by kernel_rfl)
    (of_decide_eq_true (by kernel_rfl)) (by unfold Func.isWrapper; first | (rw [if_pos (by decide +kernel)]; kernel_rfl) | (rw [if_neg (by decide +kernel)]; exact ⟨rfl, rfl⟩))
    (fun os started H enc _ F => by rw [OpenClaim.pre_eq_preRow]; exact lifted os started H enc F)

theorem plain (f : FuncId) (fn : Func) (hf : Tryz.pinned.checked.prog.funcNamed "sextant/sextantlaw16.CondTree" = some f) (hfn : Tryz.pinned.checked.prog.funcs[f]? = some fn) :
    false = Tryz.pinned.checked.prog.looks [] ∧ ∀ (j : Nat) t, fn.params[j]? = some t → Tryz.pinned.checked.prog.wantsStandIn t = false := by
  obtain rfl : f = 3 := Option.some.inj ((show Tryz.prog.funcNamed "sextant/sextantlaw16.CondTree" = some 3 by kernel_rfl).symm.trans hf) |>.symm
  obtain rfl : fn = Tryz.f3 := (Option.some.inj (Tryz.func3.symm.trans hfn)).symm
  refine ⟨by kernel_rfl, fun j t ht => ?_⟩
  rw [Tryz.params3] at ht
  have hm : t ∈ [5, 5, 5] := by simpa using Array.mem_of_getElem? ht
  have hall : ([5, 5, 5].all fun u => !Tryz.prog.wantsStandIn u) = true := by kernel_rfl
  exact (show Tryz.prog.wantsStandIn t = false by simpa using List.all_eq_true.1 hall t hm)

theorem card : Rows.CondTreeCardSaid :=
  Claim7.holds_tied_plain_at .later [] _ _ _ _ said (fun _ h => by cases h) (by kernel_rfl) (fun _ h => by cases h) condTree_row_tie rfl ⟨rfl, rfl⟩ (by kernel_rfl) rfl plain (by kernel_rfl)
end Go.Proofs.YthcdkhegdlbdiaaGreatDoor.condTree
