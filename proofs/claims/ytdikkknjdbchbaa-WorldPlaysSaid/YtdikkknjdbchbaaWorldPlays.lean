/-
  PROVED HERE: WorldPlaysSaid: for every input the call of sextantlaw07.WorldPlays returns true, and every argument reads as it did. No conditions.
-/
import Derived.Test.YtdikkknjdbchbaaWpWalk
import Derived.Test.YtdikkknjdbchbaaWpOpen
import Derived.Test.YtdikkknjdbchbaaRows
import Derived.WalkKit
import Derived.ProofKit
import Derived.OpenShut
import Derived.ShutString
import Derived.HandedShaped
import Derived.Lib.Hide
import Derived.Carry
import Derived.SizedLaws
import Derived.Lib.SmallJoins
namespace Go.Proofs.Ytdikkknjdbchbaa
open Go.RowKit
theorem worldPlays.walk (v : Value) (W : Wo.W) (ov : Value) (os : List Wp.O) (w : World) (hW : Wo.In w v W) (hf : Wo.Fit W) (ho : Wp.Ops w ov os) (hok : ∀ k, k < os.length → Wp.Ok (os.getD k Wp.o0)) (hlen : os.length ≤ 140737488355328) :
    Calls Try.prog 4 #[v, ov] w fun e w' => e = .returned (.bool true) ∧ Below w.heap.size w w' := Wp.walk v W ov os w hW hf ho hok hlen
end Go.Proofs.Ytdikkknjdbchbaa
namespace Go.Proofs.Ytdikkknjdbchbaa.worldPlays
open Go.ChangeShapes Go.WideShapes Go.ChangeAt Go.RowKit Go.Joins
open Go.ChangeMaps (open_string shut_string)
set_option linter.unusedVariables false
set_option linter.unusedSimpArgs false

theorem own : ownKnob Try.prog.godebug = none := by kernel_rfl
theorem laidOut : laidOutB Try.prog = true := by kernel_rfl
def args0 : Array Value := #[.agg #[.slice none 0 0, .slice none 0 0, .slice none 0 0], .slice none 0 0]
set_option maxRecDepth 100000 in
theorem lifted (os : Os) (started : os.Started) (H : Type) (enc : TypeId × Value → H) :
    ReturnsInHanded {} Try.checked os 4 .any (Rows.worldPlaysSpec.pre6 enc Try.prog Try.f4 Rows.worldPlaysRow.domain false) (Rows.worldPlaysSpec.post enc Try.prog Try.f4 false true false false) := by
  refine returnsInHanded_of_change_shaped (C := Try.checked) own started (by kernel_rfl) Try.func4
    (ChangeSpec.witness6 (enc := enc) (C := Try.checked) false ⟨#[], args0, []⟩ 8 (by kernel_rfl) (by kernel_rfl) (by kernel_rfl) (by kernel_rfl)) ?_
  intro W base args ds gs before hval hW _ hsz hshaped _
  have hW' := hW
  obtain ⟨p, q, hA0, hV, rfl, hfz, hnd⟩ := hW
  have hA : DataW.TrodAll enc Try.prog W 0 (fun _ => true) true Try.f4.params.toList args.toList ds p := hA0
  rw [Try.params4] at hA hval
  obtain ⟨v0, vs0, d0, ds0, p0, q0, hargs, rfl, rfl, h0, r0⟩ := trodAll_cons hA
  obtain ⟨v1, vs1, d1, ds1, p1, q1, rfl, rfl, rfl, h1, r1⟩ := trodAll_cons r0
  obtain ⟨rfl, rfl, rfl⟩ := trodAll_nil r1
  obtain rfl : args = #[v0, v1] := by cases args; simp_all
  obtain ⟨rfl, rfl⟩ := trodVars_none hV
  clear hA0
  simp only [List.append_nil] at hW'
  have k0 := h0
  have lt0 : ∀ x ∈ p0, x.block < W.heap.size := fun x hx => by simpa using hW'.lt x (by simp [hx])
  have k1 := h1
  have lt1 : ∀ x ∈ p1, x.block < W.heap.size := fun x hx => by simpa using hW'.lt x (by simp [hx])
  have hsz2 : (DataW.weightsEach Try.prog [26, 39] [d0, d1]).all (· ≤ reachBytes) = true := by
    have := hsz
    rw [Try.params4] at this
    exact this
  obtain ⟨W0, hin0, hf0⟩ := Wp.world_open (hval 0 26 v0 rfl rfl) h0 (fun m hm => of_decide_eq_true (List.all_eq_true.1 hsz2 m (DataW.weights_mem_each (j := 0) rfl rfl m hm)))
  obtain ⟨os1, hin1, hl1, hk1⟩ := Wp.ops_open (okWide_slice Try.underlying39 (hval 1 39 v1 rfl rfl)) h1 (fun m hm => of_decide_eq_true (List.all_eq_true.1 hsz2 m (DataW.weights_mem_each (j := 1) rfl rfl m hm)))
  refine (walk v0 W0 v1 os1 W hin0 hf0 hin1 hk1 hl1 ).mono fun e W' ⟨he, bel⟩ => ?_
  subst he
  exact ⟨_, rfl, _, _, _, [], _, [], hW', trodAll_mk1 (shut_bool Try.underlying4 _), (trodAll_cons_mk (Below.trod laidOut (by kernel_rfl) (of_decide_eq_true (by kernel_rfl)) k0 bel lt0) (trodAll_cons_mk (Below.trod laidOut (by kernel_rfl) (of_decide_eq_true (by kernel_rfl)) k1 bel lt1) trodAll_mk0)), rfl, bel.frame _, fun h => by cases h⟩

theorem over : Rows.worldPlaysRow.holds Try.pinned (OpenSpec.ofChange Rows.worldPlaysSpec) :=
  OpenClaim.holds_of_wide 4 Try.f4 rfl rfl rfl rfl rfl rfl rfl ⟨rfl, rfl, rfl, rfl, rfl⟩ rfl rfl rfl rfl rfl (by kernel_rfl) Try.func4 (by kernel_rfl)
    (of_decide_eq_true (by kernel_rfl)) (by unfold Func.isWrapper; first | (rw [if_pos (by decide +kernel)]; kernel_rfl) | (rw [if_neg (by decide +kernel)]; exact ⟨rfl, rfl⟩))
    (fun os started H enc _ => lifted os started H enc)

theorem proved : Rows.WorldPlaysSaid := over
end Go.Proofs.Ytdikkknjdbchbaa.worldPlays
