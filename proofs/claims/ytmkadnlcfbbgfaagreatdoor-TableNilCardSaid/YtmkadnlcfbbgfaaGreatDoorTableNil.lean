/-
  PROVED HERE: TableNilCardSaid: whatever two data, the call of sextantlaw13.TableNil returns true, and the arguments read as they did. Conditions: none of ours.
-/
import Derived.Test.YtmkadnlcfbbgfaaGreatDoorCards
import Derived.Test.YtmkadnlcfbbgfaaGreatDoorTie
import Derived.WalkKit
import Derived.ProofKit
import Derived.OpenShut
import Derived.ShutString
import Derived.JoinedCond
import Derived.Lib.Hide
import Derived.Deep.DeepHandedRow
import Derived.PinnedBridge
import Derived.Lib.LaidU8T
import Derived.Lay
import Derived.LaidOnce
import Derived.SevenTiedAt
import Derived.SizedLaws
import Derived.Carry
import Derived.Lib.SmallJoins
import Derived.Test.YtmkadnlcfbbgfaaGreatDoorDtOpen
import Derived.Test.YtmkadnlcfbbgfaaGreatDoorTbGet
namespace Go.Proofs.YtmkadnlcfbbgfaaGreatDoor
open Go.RowKit
set_option linter.unusedVariables false

set_option maxHeartbeats 4000000 in
set_option maxRecDepth 1000000 in
theorem tableNil.walk (v u : Value) (w : World) (hv : Dt.Shaped v) (hu : Dt.Shaped u) :
    Calls Tryz.prog 3 #[v, u] w fun e w' => e = .returned (.bool true) ∧ Below w.heap.size w w' := by
  have KG := Lib.hid (fun w => Tb.get_nil v hv w)
  have KS := Lib.hid (fun w => Tb.set_nil v u hv hu w)
  have KD := Lib.hid (fun w => Tb.delete_nil v hv w)
  obtain ⟨k, n, g1, g2, a1, a2, a3, a4, a5, a6, l1, l2, l3, l4, l5, l6, c1, c2, c3, c4, c5, c6, s, rfl⟩ := hv
  obtain ⟨k', n', g1', g2', a1', a2', a3', a4', a5', a6', l1', l2', l3', l4', l5', l6', c1', c2', c3', c4', c5', c6', s', rfl⟩ := hu
  have hsz : ∀ o, (w.alloc o).heap.size = w.heap.size + 1 := by intro o; simp
  have hsz2 : ∀ o o2, ((w.alloc o).alloc o2).heap.size = w.heap.size + 2 := by intro o o2; simp
  have h1 : ∀ o o2, ((w.alloc o).alloc o2).heap[w.heap.size + 1]? = some o2 := by
    intro o o2
    have := heap_alloc_new (w.alloc o) o2
    rwa [hsz] at this
  have h0 : ∀ o o2, ((w.alloc o).alloc o2).heap[w.heap.size]? = some o := fun o o2 => (Lib.alloc_old _ _ _ (by rw [hsz]; omega)).trans (heap_alloc_new w o)
  have hb0 : ∀ o o2, Below w.heap.size w ((w.alloc o).alloc o2) := fun o o2 => ((Below.refl _ _).alloc (Nat.le_refl _) _).alloc (by rw [hsz]; omega) _
  go_enter Tryz.func3, Tryz.ntmps3
  go_wp2_with fail
  refine (Tb.clear_nil _).mono ?_
  rintro y w1 ⟨rfl, rfl⟩
  go_wp2_with fail
  refine (KG.out _).mono ?_
  rintro y w2 ⟨⟨z, rfl, hz⟩, hb2⟩
  obtain ⟨zk, zn, zg1, zg2, za1, za2, za3, za4, za5, za6, zl1, zl2, zl3, zl4, zl5, zl6, zc1, zc2, zc3, zc4, zc5, zc6, zs, rfl⟩ := hz
  have q0 := (hb2.block w.heap.size (by rw [hsz2]; omega)).trans (h0 _ _)
  have q1 := (hb2.block (w.heap.size + 1) (by rw [hsz2]; omega)).trans (h1 _ _)
  have HB2 := Lib.hid ((hb0 _ _).trans (hb2.mono (by rw [hsz2]; omega)))
  have hz2 : w.heap.size + 1 < w2.heap.size := (Array.getElem?_eq_some_iff.1 q1).1
  have e2 : ∀ o, (w2.alloc o).heap.size = w2.heap.size + 1 := by intro o; simp
  have Q0 := Lib.hid q0
  have Q1 := Lib.hid q1
  have HA2 : Hid (∀ o, Below w.heap.size w (w2.alloc o)) := Lib.hid (fun o => HB2.out.alloc (by omega) o)
  clear hb2 KG h0 h1 hb0 hsz hsz2 q0 q1
  go_wp2_with fail
  refine (Tb.awake_any _).mono ?_
  rintro y w3 ⟨rfl, hb3⟩
  have q0 := (hb3.block w.heap.size (by rw [e2]; omega)).trans ((Lib.alloc_old _ _ _ (by omega)).trans Q0.out)
  have q1 := (hb3.block (w.heap.size + 1) (by rw [e2]; omega)).trans ((Lib.alloc_old _ _ _ (by omega)).trans Q1.out)
  have HB3 := Lib.hid ((HA2.out _).trans (hb3.mono (by rw [e2]; omega)))
  have hz3 : w.heap.size + 1 < w3.heap.size := (Array.getElem?_eq_some_iff.1 q1).1
  clear Q0 Q1 hb3 HA2 e2
  have Q0 := Lib.hid q0
  have Q1 := Lib.hid q1
  obtain ⟨r0, r1, r2, r3, r4, r5, r6, r7, r8, r9, r10⟩ := Dt.cells11 q0
  obtain ⟨t0, t1, t2, t3, t4, t5, t6, t7, t8, t9, t10⟩ := Dt.cells11 q1
  clear q0 q1
  go_wp2_with fail
  refine (KS.out _).mono ?_
  rintro y w4 ⟨rfl, hb4⟩
  have q0 := (hb4.block w.heap.size (by omega)).trans Q0.out
  have HB4 := Lib.hid (HB3.out.trans (hb4.mono (by omega)))
  clear hb4 KS r0 r1 r2 r3 r4 r5 r6 r7 r8 r9 r10 t0 t1 t2 t3 t4 t5 t6 t7 t8 t9 t10
  obtain ⟨r0, r1, r2, r3, r4, r5, r6, r7, r8, r9, r10⟩ := Dt.cells11 q0
  clear q0
  go_wp2_with fail
  refine (KD.out _).mono ?_
  rintro y w5 ⟨rfl, hb5⟩
  have HB5 := Lib.hid (HB4.out.trans (hb5.mono HB4.out.size))
  clear hb5 KD r0 r1 r2 r3 r4 r5 r6 r7 r8 r9 r10
  go_wp2_with fail
  refine (Tb.len_nil _).mono ?_
  rintro y w6 ⟨rfl, rfl⟩
  go_wp2_with fail
  refine (Tb.keys_nil _).mono ?_
  rintro y w7 ⟨rfl, rfl⟩
  go_wp2_with fail
  refine (Tb.copy_nil _).mono ?_
  rintro y w8 ⟨rfl, rfl⟩
  go_wp2
  go_ret
  exact ⟨rfl, HB5.out⟩
end Go.Proofs.YtmkadnlcfbbgfaaGreatDoor
namespace Go.Proofs.YtmkadnlcfbbgfaaGreatDoor.tableNil
open Go.ChangeShapes Go.WideShapes Go.ChangeAt Go.RowKit Go.Joins
open Go.ChangeMaps (open_string shut_string)
set_option linter.unusedVariables false
set_option linter.unusedSimpArgs false

theorem own : ownKnob Tryz.prog.godebug = none := by kernel_rfl
theorem laidOut : laidOutB Tryz.prog = true := by kernel_rfl
def args0 : Array Value := #[.agg #[.int .i64 0, .int .i64 0, .bool false, .slice none 0 0, .slice none 0 0, .bool false, .slice none 0 0, .slice none 0 0, .string .empty, .slice none 0 0, .slice none 0 0], .agg #[.int .i64 0, .int .i64 0, .bool false, .slice none 0 0, .slice none 0 0, .bool false, .slice none 0 0, .slice none 0 0, .string .empty, .slice none 0 0, .slice none 0 0]]
theorem laid_met (os : Os) : laidMetH Tryz.prog Rows.tableNilRow.laid ((World.laidAll Tryz.prog os Rows.tableNilRow.laid).forCall (fun _ _ => 0) ⟨#[], args0, []⟩).memory := by
  rw [MakeChecks.laidMetH_plain _ _ _ (by kernel_rfl)]
  exact laidMet_laidAll _ (by kernel_rfl) (by kernel_rfl)
theorem reads (os : Os) {H : Type} (enc : TypeId × Value → H) : ∃ places, DataW.whole enc Tryz.prog ((World.laidAll Tryz.prog os Rows.tableNilRow.laid).forCall (fun _ _ => 0) ⟨#[], args0, []⟩).memory Tryz.f3.params.toList Rows.tableNilSpec.vars false args0.toList 8 = some ([.agg [.lit (.int .i64 0), .lit (.int .i64 0), .agg [.agg [.lit (.bool false), .nil, .nil], .agg [.lit (.bool false), .nil, .nil]], .lit (.string []), .nil, .nil], .agg [.lit (.int .i64 0), .lit (.int .i64 0), .agg [.agg [.lit (.bool false), .nil, .nil], .agg [.lit (.bool false), .nil, .nil]], .lit (.string []), .nil, .nil]], [], places) :=
  ⟨[], by kernel_rfl⟩

set_option maxRecDepth 100000 in
theorem lifted (os : Os) (started : os.Started) (H : Type) (enc : TypeId × Value → H) (F : Stop.Interp) :
    ReturnsInHanded {} Tryz.checked os 3 .any ((OpenSpec.ofChange Rows.tableNilSpec).preRow enc Tryz.prog Tryz.f3 Rows.tableNilRow.domain false Rows.tableNilRow.laid) (((OpenSpec.ofChange Rows.tableNilSpec).at F).post enc Tryz.prog Tryz.f3 false true false false) := by
  obtain ⟨places, hx⟩ := reads os enc
  refine returnsInHanded_of_row (C := Tryz.checked) (s := OpenSpec.ofChange Rows.tableNilSpec) own started (by kernel_rfl) Tryz.func3
    (witness_row_at (enc := enc) (C := Tryz.checked) false (World.laidAll Tryz.prog os Rows.tableNilRow.laid) args0 (World.laidAll_os _ _ _) (by kernel_rfl) (by kernel_rfl) (by kernel_rfl)
      (OpenSpec.preRow_of_cond 8 hx (by kernel_rfl) (fun k hk => by cases hk) (by kernel_rfl) (laid_met os))) ?_
  intro W base args ds gs before hval hW _ hcond hsz hL hshaped _
  have hW' := hW
  obtain ⟨p, q, hA0, hV, rfl, hfz, hnd⟩ := hW
  have hA : DataW.TrodAll enc Tryz.prog W 0 (fun _ => true) true Tryz.f3.params.toList args.toList ds p := hA0
  rw [Tryz.params3] at hA hval
  obtain ⟨v0, vs0, d0, ds0, p0, q0, hargs, rfl, rfl, h0, r0⟩ := trodAll_cons hA
  obtain ⟨v1, vs1, d1, ds1, p1, q1, rfl, rfl, rfl, h1, r1⟩ := trodAll_cons r0
  obtain ⟨rfl, rfl, rfl⟩ := trodAll_nil r1
  obtain rfl : args = #[v0, v1] := by cases args; simp_all
  obtain ⟨rfl, rfl⟩ := trodVars_none hV
  clear hA0
  simp only [List.append_nil] at hW'
  have k0 := h0
  have lt0 : ∀ x ∈ p0, x.block < W.heap.size := fun x hx => by simpa using hW'.lt x (by simp [hx])
  have k1 := h1
  have lt1 : ∀ x ∈ p1, x.block < W.heap.size := fun x hx => by simpa using hW'.lt x (by simp [hx])
  have hsz2 : (DataW.weightsEach Tryz.prog [30, 30] [d0, d1]).all (· ≤ reachBytes) = true := by
    have := hsz
    rw [Tryz.params3] at this
    exact this
  have sh0 : Dt.Shaped v0 := Dt.shaped_open (hval 0 30 v0 rfl rfl) h0
  have sh1 : Dt.Shaped v1 := Dt.shaped_open (hval 1 30 v1 rfl rfl) h1
  refine (walk v0 v1 W sh0 sh1 ).mono fun e W' ⟨he, bel⟩ => ?_
  subst he
  exact ⟨_, rfl, _, _, _, [], _, [], hW', trodAll_mk1 (shut_bool Tryz.underlying4 _), (trodAll_cons_mk (Below.trod laidOut (by kernel_rfl) (of_decide_eq_true (by kernel_rfl)) k0 bel lt0) (trodAll_cons_mk (Below.trod laidOut (by kernel_rfl) (of_decide_eq_true (by kernel_rfl)) k1 bel lt1) trodAll_mk0)), rfl, bel.frame _, fun h => by cases h⟩

theorem said : Rows.TableNilSaid :=
  OpenClaim.holds_of_cond 3 Tryz.f3 rfl rfl rfl rfl rfl rfl rfl ⟨rfl, rfl, rfl, rfl, rfl⟩ rfl rfl rfl rfl rfl (by kernel_rfl) Tryz.func3 (by kernel_rfl)
    (of_decide_eq_true (by kernel_rfl)) (by unfold Func.isWrapper; first | (rw [if_pos (by decide +kernel)]; kernel_rfl) | (rw [if_neg (by decide +kernel)]; exact ⟨rfl, rfl⟩))
    (fun os started H enc _ F => by rw [OpenClaim.pre_eq_preRow]; exact lifted os started H enc F)

theorem plain (f : FuncId) (fn : Func) (hf : Tryz.pinned.checked.prog.funcNamed "sextant/sextantlaw13.TableNil" = some f) (hfn : Tryz.pinned.checked.prog.funcs[f]? = some fn) :
    false = Tryz.pinned.checked.prog.looks [] ∧ ∀ (j : Nat) t, fn.params[j]? = some t → Tryz.pinned.checked.prog.wantsStandIn t = false := by
  obtain rfl : f = 3 := Option.some.inj ((show Tryz.prog.funcNamed "sextant/sextantlaw13.TableNil" = some 3 by kernel_rfl).symm.trans hf) |>.symm
  obtain rfl : fn = Tryz.f3 := (Option.some.inj (Tryz.func3.symm.trans hfn)).symm
  refine ⟨by kernel_rfl, fun j t ht => ?_⟩
  rw [Tryz.params3] at ht
  have hm : t ∈ [30, 30] := by simpa using Array.mem_of_getElem? ht
  have hall : ([30, 30].all fun u => !Tryz.prog.wantsStandIn u) = true := by kernel_rfl
  exact (show Tryz.prog.wantsStandIn t = false by simpa using List.all_eq_true.1 hall t hm)

theorem card : Rows.TableNilCardSaid :=
  Claim7.holds_tied_plain_at .later [] _ _ _ _ said (fun _ h => by cases h) (by kernel_rfl) (fun _ h => by cases h) tableNil_row_tie rfl ⟨rfl, rfl⟩ (by kernel_rfl) rfl plain (by kernel_rfl)
end Go.Proofs.YtmkadnlcfbbgfaaGreatDoor.tableNil
