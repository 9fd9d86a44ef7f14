/-
  PROVED HERE: CharsFoldsUptoSaid: for every text whose reading is of bulk at most 1048576 the call of sextantlaw01.CharsFolds returns true, and the text reads as it did. The one condition is that bound.
-/
import Derived.Test.YtnkbeaeopcemjaaRows
import Derived.Test.YtnkbeaeopcemjaaChAwake
import Derived.WalkKit
import Derived.ProofKit
import Derived.OpenShut
import Derived.ShutString
import Derived.JoinedCond
import Derived.Lib.Hide
namespace Go.Proofs.Ytnkbeaeopcemjaa.charsFolds
open Go.ChangeShapes Go.WideShapes Go.ChangeAt Go.RowKit
open Go.ChangeMaps (open_string shut_string)
set_option linter.unusedVariables false
set_option linter.unusedSimpArgs false

theorem own : ownKnob Try.prog.godebug = none := by kernel_rfl

theorem arr_size (l : List UInt8) : (ByteArray.mk l.toArray).size = l.length := by simp [ByteArray.size]

theorem fold_list (l : List UInt8) (w : World) (h : l.length ≤ 8796093022208) :
    Calls Try.prog 10 #[.string ⟨l.toArray⟩] w fun e w' => e = .returned (.string ⟨(Ch.foldL l).toArray⟩) ∧ Below w.heap.size w w' := by
  have := Ch.fold_any ⟨l.toArray⟩ w (by rw [arr_size]; exact h)
  simpa using this
theorem up_list (l : List UInt8) (w : World) (h : l.length ≤ 8796093022208) :
    Calls Try.prog 11 #[.string ⟨l.toArray⟩] w fun e w' => e = .returned (.string ⟨(Ch.upL l).toArray⟩) ∧ Below w.heap.size w w' := by
  have := Ch.upcase_any ⟨l.toArray⟩ w (by rw [arr_size]; exact h)
  simpa using this

set_option maxHeartbeats 4000000 in
theorem walk (s : ByteArray) (w : World) (hs : s.size ≤ 1048576) :
    Calls Try.prog 4 #[.string s] w fun e w' => e = .returned (.bool true) ∧ Below w.heap.size w w' := by
  have hl : s.data.toList.length = s.size := by simp
  have l1 := Ch.mapT_len Ch.foldF_len s.data.toList
  have l2 := Ch.mapT_len Ch.upF_len s.data.toList
  change (Ch.foldL s.data.toList).length ≤ _ at l1
  change (Ch.upL s.data.toList).length ≤ _ at l2
  have c1 := fun w => Ch.fold_any s w (by omega)
  have c2 := fun w => Ch.upcase_any s w (by omega)
  have c3 := fun w => fold_list (Ch.foldL s.data.toList) w (by omega)
  have c4 := fun w => fold_list (Ch.upL s.data.toList) w (by omega)
  have c5 := fun w => up_list (Ch.upL s.data.toList) w (by omega)
  rw [Ch.fold_fold] at c3
  rw [Ch.fold_up] at c4
  rw [Ch.up_up] at c5
  generalize Ch.foldL s.data.toList = F at *
  generalize Ch.upL s.data.toList = U at *
  have k1 := Lib.hid c1; clear c1
  have k2 := Lib.hid c2; clear c2
  have k3 := Lib.hid c3; clear c3
  have k4 := Lib.hid c4; clear c4
  have k5 := Lib.hid c5; clear c5
  clear l1 l2 hl
  go_enter Try.func4, Try.ntmps4
  go_wp2_with fail
  refine (k1.out _).mono ?_; rintro e w1 ⟨rfl, hb1⟩
  go_wp2_with fail
  refine (k2.out _).mono ?_; rintro e w2 ⟨rfl, hb2⟩
  go_wp2_with fail
  refine (Ch.awake_any _).mono ?_; rintro e w3 ⟨rfl, hb3⟩
  go_wp2_with fail
  refine (k3.out _).mono ?_; rintro e w4 ⟨rfl, hb4⟩
  go_wp2_with fail
  refine (k4.out _).mono ?_; rintro e w5 ⟨rfl, hb5⟩
  go_wp2_with fail
  refine (k5.out _).mono ?_; rintro e w6 ⟨rfl, hb6⟩
  go_wp2_with fail
  go_ret
  have hz1 := hb1.size
  have hz2 := hb2.size
  have hz3 := hb3.size
  have hz4 := hb4.size
  have hz5 := hb5.size
  exact ⟨rfl, ((((hb1.trans (hb2.mono (by omega))).trans (hb3.mono (by omega))).trans (hb4.mono (by omega))).trans (hb5.mono (by omega))).trans (hb6.mono (by omega))⟩

/-! ### the row's step -/
theorem short {H : Type} {l : List UInt8} (hk : Rows.uptoSmall H [.lit (.string l)] = true) : l.length ≤ 1048576 := by
  have h : Rows.uptoBulkAll [DataW.lit (H := H) (.string l)] ≤ 1048576 := of_decide_eq_true hk
  simp only [Rows.uptoBulkAll, Rows.uptoBulk] at h
  omega

set_option maxRecDepth 100000 in
theorem lifted (os : Os) (started : os.Started) (H : Type) (enc : TypeId × Value → H) (F : Stop.Interp) :
    ReturnsInHanded {} Try.checked os 4 .any ((Rows.OpenSpec.upto Rows.charsFoldsSpec).pre6 enc Try.prog Try.f4 Rows.charsFoldsUptoRow.domain false) (((Rows.OpenSpec.upto Rows.charsFoldsSpec).at F).post enc Try.prog Try.f4 false true false false) := by
  refine returnsInHanded_of_cond (C := Try.checked) (s := Rows.OpenSpec.upto Rows.charsFoldsSpec) (k := Rows.uptoSmall) rfl own started (by kernel_rfl) Try.func4
    (OpenSpec.witness (enc := enc) (C := Try.checked) (s := Rows.OpenSpec.upto Rows.charsFoldsSpec) (k := Rows.uptoSmall) rfl false ⟨#[], #[.string .empty], []⟩ 8 (by kernel_rfl) (by kernel_rfl) (by kernel_rfl)
      (x := ([.lit (.string [])], [], [])) (by kernel_rfl) rfl (by kernel_rfl)) ?_
  intro W base args ds gs before hval hW _ hk _
  have hW' := hW
  obtain ⟨p, q, hA0, hV, rfl, hfz, hnd⟩ := hW
  have hA : DataW.TrodAll enc Try.prog W 0 (fun _ => true) true Try.f4.params.toList args.toList ds p := hA0
  rw [Try.params4] at hA hval
  obtain ⟨v0, vs0, d0, ds0, p0, q0, hargs, rfl, rfl, h0, r0⟩ := trodAll_cons hA
  obtain ⟨rfl, rfl, rfl⟩ := trodAll_nil r0
  obtain rfl : args = #[v0] := by cases args; simp_all
  obtain ⟨rfl, rfl⟩ := trodVars_none hV
  obtain ⟨s, rfl, rfl, rfl, hmax⟩ := open_string Try.underlying9 (hval 0 9 v0 rfl rfl) h0
  clear hA0
  simp only [List.append_nil] at hW' hk
  have hs := short hk
  refine (walk s W (by simpa using hs)).mono fun e W' ⟨he, bel⟩ => ?_
  subst he
  exact ⟨_, rfl, _, _, _, [], [], [], hW', trodAll_mk1 (shut_bool Try.underlying4 _), (trodAll_cons_mk (shut_string Try.underlying9 hmax) trodAll_mk0), rfl, bel.frame _, fun h => by cases h⟩

theorem proved : Rows.CharsFoldsUptoSaid :=
  OpenClaim.holds_of_cond 4 Try.f4 rfl rfl rfl rfl rfl rfl rfl ⟨rfl, rfl, rfl, rfl, rfl⟩ rfl rfl rfl rfl rfl (by kernel_rfl) Try.func4 (by kernel_rfl)
    (of_decide_eq_true (by kernel_rfl)) (by unfold Func.isWrapper; first | (rw [if_pos (by decide +kernel)]; kernel_rfl) | (rw [if_neg (by decide +kernel)]; exact ⟨rfl, rfl⟩))
    (fun os started H enc _ F => lifted os started H enc F)
end Go.Proofs.Ytnkbeaeopcemjaa.charsFolds
