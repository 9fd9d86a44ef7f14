/-
  PROVED HERE: DatumSoundsUptoCardSaid: for every datum and every text, of bulk at most 1048576, the call of sextantlaw08.DatumSounds returns true, and the arguments read as they did. Conditions: the bulk's bound, which the statement itself states; package utf8's two tables hold what their initialisers lay (tied by the card).
-/
import Derived.Test.YteklhapffplohaaGreatDoorCards
import Derived.Test.YteklhapffplohaaGreatDoorTie
import Derived.WalkKit
import Derived.ProofKit
import Derived.OpenShut
import Derived.ShutString
import Derived.JoinedCond
import Derived.Lib.Hide
import Derived.Deep.DeepHandedRow
import Derived.PinnedBridge
import Derived.Lib.LaidU8T
import Derived.Lay
import Derived.LaidOnce
import Derived.SevenTiedAt
import Derived.SizedLaws
import Derived.Carry
import Derived.Lib.SmallJoins
import Derived.Test.YteklhapffplohaaGreatDoorVzc
import Derived.Test.YteklhapffplohaaGreatDoorVt
set_option linter.unusedVariables false
set_option linter.unusedSimpArgs false
namespace Go.Proofs.YteklhapffplohaaGreatDoor
open Go.RowKit
theorem datumSounds.walk (v : Value) (l : Tr) (s : ByteArray) (w : World) (h0 : Tr.In w (fun _ => True) l v) (hx : Tr.txt l) (hs : s.size ≤ 1048576) (hT : Tr.Tabs w) :
 Calls Tryz.prog 3 #[v,.string s] w fun e w' => e = .returned (.bool true) ∧ Below w.heap.size w w' :=
 Dl.sounds_walk v l s w h0 hx hs hT
end Go.Proofs.YteklhapffplohaaGreatDoor
namespace Go.Proofs.YteklhapffplohaaGreatDoor.datumSounds
open Go.ChangeShapes Go.WideShapes Go.ChangeAt Go.RowKit Go.Joins
open Go.ChangeMaps (open_string shut_string)
theorem own : ownKnob Tryz.prog.godebug = none := by kernel_rfl
theorem laidOut : laidOutB Tryz.prog = true := by kernel_rfl
def args0 : Array Value := #[.agg #[.int .i64 0,.int .i64 0,.bool false,.slice none 0 0,.slice none 0 0,.bool false,.slice none 0 0,.slice none 0 0,.string .empty,.slice none 0 0,.slice none 0 0],.string .empty]
theorem laid_met (os : Os) : laidMetH Tryz.prog Rows.datumSoundsUptoRow.laid ((World.laidAll Tryz.prog os Rows.datumSoundsUptoRow.laid).forCall (fun _ _ => 0) ⟨#[],args0,[]⟩).memory := by
 rw [MakeChecks.laidMetH_plain _ _ _ (by kernel_rfl)];exact laidMet_laidAll _ (by kernel_rfl) (by kernel_rfl)
theorem reads (os : Os) {H : Type} (enc : TypeId × Value → H) : ∃ places,DataW.whole enc Tryz.prog ((World.laidAll Tryz.prog os Rows.datumSoundsUptoRow.laid).forCall (fun _ _ => 0) ⟨#[],args0,[]⟩).memory Tryz.f3.params.toList Rows.datumSoundsSpec.vars false args0.toList 8 = some ([.agg [.lit (.int .i64 0),.lit (.int .i64 0),.agg [.agg [.lit (.bool false),.nil,.nil],.agg [.lit (.bool false),.nil,.nil]],.lit (.string []),.nil,.nil],.lit (.string [])],[],places) :=
 ⟨[],by kernel_rfl⟩
theorem xU8 : U8Extra Tryz.prog Tryz.laysValid196_ren := ⟨by kernel_rfl,by kernel_rfl,by kernel_rfl,by kernel_rfl,by kernel_rfl,by kernel_rfl,by kernel_rfl⟩
theorem accEq : (Rows.laid_unicode_utf8_acceptRanges : DataW Unit) = Lib.acceptData := by kernel_rfl
theorem tabs {W : World} (hL : laidMetH Tryz.prog Rows.datumSoundsUptoRow.laid W) : Tr.Tabs W := by
 rw [MakeChecks.laidMetH_plain _ _ _ (by kernel_rfl)] at hL;exact utf8Tabs_of_readsT (U8Types.of196 Tryz.laysValid196) xU8 (Pinned.utf8First_eq ▸ Lib.laidMet.reads hL (by first | exact .tail _ (.tail _ (.tail _ (.tail _ (.head _)))) | exact .tail _ (.head _) | (unfold Rows.datumSoundsUptoRow; simp))) (accEq ▸ Lib.laidMet.reads hL (by first | exact .tail _ (.tail _ (.tail _ (.head _))) | exact .head _ | (unfold Rows.datumSoundsUptoRow; simp)))
theorem bulk_all {H : Type} {l : List (DataW H)} (hk : Rows.uptoSmall H l = true) : Rows.uptoBulkAll l ≤ 1048576 := of_decide_eq_true hk
set_option maxRecDepth 100000
theorem lifted (os : Os) (started : os.Started) (H : Type) (enc : TypeId × Value → H) (F : Stop.Interp) :
 ReturnsInHanded {} Tryz.checked os 3 .any ((Rows.OpenSpec.upto Rows.datumSoundsSpec).preRow enc Tryz.prog Tryz.f3 Rows.datumSoundsUptoRow.domain false Rows.datumSoundsUptoRow.laid) (((Rows.OpenSpec.upto Rows.datumSoundsSpec).at F).post enc Tryz.prog Tryz.f3 false true false false) := by
 obtain ⟨places,hx⟩ := reads os enc
 refine returnsInHanded_of_row (C := Tryz.checked) (s := Rows.OpenSpec.upto Rows.datumSoundsSpec) own started (by kernel_rfl) Tryz.func3
  (witness_row_at (enc := enc) (C := Tryz.checked) false (World.laidAll Tryz.prog os Rows.datumSoundsUptoRow.laid) args0 (World.laidAll_os _ _ _) (by kernel_rfl) (by kernel_rfl) (by kernel_rfl)
    (OpenSpec.preRow_of_cond 8 hx (by kernel_rfl) (fun k hk => by cases hk; kernel_rfl) (by kernel_rfl) (laid_met os))) ?_
 intro W base args ds gs before hval hW _ hcond hsz hL hshaped _
 have hk := hcond _ rfl
 have hW' := hW
 obtain ⟨p,q,hA0,hV,rfl,hfz,hnd⟩ := hW
 have hA : DataW.TrodAll enc Tryz.prog W 0 (fun _ => true) true Tryz.f3.params.toList args.toList ds p := hA0
 rw [Tryz.params3] at hA hval
 obtain ⟨v0,vs0,d0,ds0,p0,q0,hargs,rfl,rfl,h0,r0⟩ := trodAll_cons hA
 obtain ⟨v1,vs1,d1,ds1,p1,q1,rfl,rfl,rfl,h1,r1⟩ := trodAll_cons r0
 obtain ⟨rfl,rfl,rfl⟩ := trodAll_nil r1
 obtain rfl : args = #[v0,v1] := by cases args; simp_all
 obtain ⟨rfl,rfl⟩ := trodVars_none hV
 clear hA0
 simp only [List.append_nil] at hW' hk
 have k0 := h0
 have lt0 : ∀ x ∈ p0,x.block < W.heap.size := fun x hx => by simpa using hW'.lt x (by simp [hx])
 have k1 := h1
 have lt1 : ∀ x ∈ p1,x.block < W.heap.size := fun x hx => by simpa using hW'.lt x (by simp [hx])
 obtain ⟨l0,hin0,hf0⟩ := Up.treeX (N := 1048576) (Nat.le_refl _) (hval 0 30 v0 rfl rfl) h0 (Nat.le_trans (Up.mem (l := [d0,d1]) (by simp)) (bulk_all hk))
 obtain ⟨s1,rfl,rfl,rfl,hmax1⟩ := open_string Tryz.underlying9 (hval 1 9 v1 rfl rfl) h1
 have hs1 : s1.size ≤ 1048576 := by
  have hb := bulk_all hk;simp only [Rows.uptoBulkAll,Rows.uptoBulk] at hb;have : s1.data.toList.length = s1.size := by simp
  omega
 have hT := tabs hL
 refine (walk v0 l0 s1 W hin0 hf0 hs1 hT).mono fun e W' ⟨he,bel⟩ => ?_
 subst he
 exact ⟨_,rfl,_,_,_,[],_,[],hW',trodAll_mk1 (shut_bool Tryz.underlying4 _),(trodAll_cons_mk (Below.trod laidOut (by kernel_rfl) (of_decide_eq_true (by kernel_rfl)) k0 bel lt0) (trodAll_cons_mk (Below.trod laidOut (by kernel_rfl) (of_decide_eq_true (by kernel_rfl)) k1 bel lt1) trodAll_mk0)),rfl,bel.frame _,fun h => by cases h⟩
set_option maxRecDepth 512
theorem said : Rows.DatumSoundsUptoSaid :=
 OpenClaim.holds_of_cond 3 Tryz.f3 rfl rfl rfl rfl rfl rfl rfl ⟨rfl,rfl,rfl,rfl,rfl⟩ rfl rfl rfl rfl rfl (by kernel_rfl) Tryz.func3 (by kernel_rfl)
  (of_decide_eq_true (by kernel_rfl)) (by unfold Func.isWrapper; first | (rw [if_pos (by decide +kernel)]; kernel_rfl) | (rw [if_neg (by decide +kernel)]; exact ⟨rfl,rfl⟩))
  (fun os started H enc _ F => by rw [OpenClaim.pre_eq_preRow]; exact lifted os started H enc F)
theorem plain (f : FuncId) (fn : Func) (hf : Tryz.pinned.checked.prog.funcNamed "sextant/sextantlaw08.DatumSounds" = some f) (hfn : Tryz.pinned.checked.prog.funcs[f]? = some fn) :
 true = Tryz.pinned.checked.prog.looks [] ∧ ∀ (j : Nat) t,fn.params[j]? = some t → Tryz.pinned.checked.prog.wantsStandIn t = false := by
 obtain rfl : f = 3 := Option.some.inj ((show Tryz.prog.funcNamed "sextant/sextantlaw08.DatumSounds" = some 3 by kernel_rfl).symm.trans hf) |>.symm
 obtain rfl : fn = Tryz.f3 := (Option.some.inj (Tryz.func3.symm.trans hfn)).symm
 refine ⟨by kernel_rfl,fun j t ht => ?_⟩
 rw [Tryz.params3] at ht
 have hm : t ∈ [30,9] := by simpa using Array.mem_of_getElem? ht
 have hall : ([30,9].all fun u => !Tryz.prog.wantsStandIn u) = true := by kernel_rfl
 exact (show Tryz.prog.wantsStandIn t = false by simpa using List.all_eq_true.1 hall t hm)
theorem card : Rows.DatumSoundsUptoCardSaid :=
 Claim7.holds_tied_plain_at .later [] _ _ _ _ said (fun _ h => by cases h) (by kernel_rfl) (fun _ h => by cases h) datumSoundsUpto_row_tie rfl ⟨rfl,rfl⟩ (by kernel_rfl) rfl plain (by kernel_rfl)
end Go.Proofs.YteklhapffplohaaGreatDoor.datumSounds
