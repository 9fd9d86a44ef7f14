/-
  PROVED HERE: CodecDecodesCardSaid: whatever the transcoder and the bytes, the call of sextantlaw06.CodecDecodes returns true, and the arguments read as they did. Conditions: none of ours; package utf8's two tables hold what their initialisers lay (tied by the card).
-/
import Derived.Test.YtdpbpkggbgfkgaaDoorCards
import Derived.Test.YtdpbpkggbgfkgaaDoorTie
import Derived.WalkKit
import Derived.ProofKit
import Derived.OpenShut
import Derived.ShutString
import Derived.JoinedCond
import Derived.Lib.Hide
import Derived.Deep.DeepHandedRow
import Derived.PinnedBridge
import Derived.Lib.LaidU8T
import Derived.Lay
import Derived.LaidOnce
import Derived.SevenTiedAt
import Derived.SizedLaws
import Derived.Carry
import Derived.Lib.SmallJoins
import Derived.Test.YtdpbpkggbgfkgaaDoorCdAwake
import Derived.Test.YtdpbpkggbgfkgaaDoorBy
import Derived.Deep.RegionHeld3
namespace Go.Proofs.YtdpbpkggbgfkgaaDoor
open Go.RowKit
set_option linter.unusedVariables false
theorem Cd.BytesAt.of_in {w : World} {v : Value} {s : ByteArray} (h : By.In w v s) : Cd.BytesAt w w.heap.size v s := by
  rcases h with ⟨h, h0⟩ | ⟨a, cap, h, h0⟩ | ⟨h0, b, off, cap, hv, h1, h2, hc⟩
  · exact .inl ⟨h0, _, _, h⟩
  · exact .inl ⟨h0, _, _, h⟩
  · exact .inr ⟨h0, b, off, cap, hv, h1, h2, hc⟩
theorem Cd.infoByte : (Tryd.prog.info? 5).map (fun i => (i.zero, i.size, i.bytes)) = some (some (.int .u8 0), 1, 1) := by kernel_rfl

theorem Cd.own_empty2 (w : World) (o : Obj) (t : TypeId) : ((w.alloc o).alloc (.cells #[] t)).ownsRow (w.heap.size + 1) t 1 (.slice (some ⟨w.heap.size + 1, 0, none⟩) 0 0) 0 [] := by
  have := Sl.own_empty (w.alloc o) t
  simpa using this
theorem Cd.below_two (w : World) (o o2 : Obj) : Below w.heap.size w ((w.alloc o).alloc o2).drew := (((Below.refl _ _).alloc (Nat.le_refl _) _).alloc (by simp) _).drew
def Cd.Keep3 (B : Nat) (c l m : Int) (w' : World) : Prop := w'.cell? ⟨B, 0, none⟩ = some (.int .i64 c) ∧ w'.cell? ⟨B, 1, none⟩ = some (.int .i64 l) ∧ w'.cell? ⟨B, 2, none⟩ = some (.int .i64 m)
theorem Cd.keep3 {w w1 : World} {c l m : Int} {o : Obj} {t : TypeId} {cap : Nat} (h : ((w.alloc (.cells #[.int .i64 c, .int .i64 l, .int .i64 m] t)).alloc o).drew.grownBy w1 (Value.slice (some ⟨w.heap.size + 1, 0, none⟩) 0 cap).ownBlock) : Cd.Keep3 w.heap.size c l m w1 := by
  have e : w1.heap[w.heap.size]? = some (.cells #[.int .i64 c, .int .i64 l, .int .i64 m] t) := by
    rw [h.block _ (by simp [World.drew]; omega) (by simp [Value.ownBlock])]
    show ((w.alloc _).alloc o).heap[w.heap.size]? = _
    rw [Lib.alloc_old _ _ _ (by simp)]
    exact heap_alloc_new w _
  unfold Cd.Keep3
  simp only [World.cell?, e]
  exact ⟨rfl, rfl, rfl⟩
theorem Cd.keep_below {B B2 : Nat} {c l m : Int} {w w' : World} (h : Cd.Keep3 B c l m w) (hb : Below B2 w w') (hB : B < B2) : Cd.Keep3 B c l m w' := by
  unfold Cd.Keep3 at *
  rw [hb.cell (p := ⟨B, 0, none⟩) hB, hb.cell (p := ⟨B, 1, none⟩) hB, hb.cell (p := ⟨B, 2, none⟩) hB]
  exact h
theorem Cd.below_app {w w1 : World} {o o2 : Obj} {cap : Nat} (h : ((w.alloc o).alloc o2).drew.grownBy w1 (Value.slice (some ⟨w.heap.size + 1, 0, none⟩) 0 cap).ownBlock) : Below w.heap.size w w1 :=
  (Cd.below_two w o o2).grown h (by simp [World.drew]; omega) (fun k hk => by simp [Value.ownBlock] at hk; omega)
theorem Cd.size_app {w w1 : World} {o o2 : Obj} {row : Option Nat} (h : ((w.alloc o).alloc o2).drew.grownBy w1 row) : w.heap.size < w1.heap.size := by
  have := h.size
  simp [World.drew] at this
  omega
theorem Cd.in_app {w1 : World} {B : Nat} {t : TypeId} {v : Value} {s : ByteArray} (h : w1.ownsRow B t 1 v (0 + s.size) ([] ++ By.vals s)) : By.In w1 v s := by
  rw [Nat.zero_add, List.nil_append] at h
  exact By.In.of_own h

set_option maxHeartbeats 1000000 in
set_option maxRecDepth 1000000 in
theorem codecDecodes.walk (c l m : Int) (v : Value) (s : ByteArray) (w : World) (hs : s.size ≤ 140737488351232) (hv : By.In w v s) (hT : Lib.Utf8Tabs 0 1 w) (hTB : 0 < w.heap.size ∧ 1 < w.heap.size) :
    Calls Tryd.prog 3 #[Cd.coder c l m, v] w fun e w' => e = .returned (.bool true) ∧ Below w.heap.size w w' := by
  obtain ⟨i0, hi, hz0, hz1, hz2⟩ := info_parts Cd.infoByte
  have HV := Lib.hid hv; clear hv
  have HT := Lib.hid hT; clear hT
  have KD := fun v w h1 h2 h3 h4 h5 => Cd.decode_any s v w c l m h1 h2 h3 h4 h5
  have KR := fun v w h1 h2 h3 => Cd.decodeRef_any s v w c l m h1 h2 h3
  have KC := fun w => Cd.check_any c l m w
  have KS := fun w => Cd.checkR_any c l m w
  have KA := fun w h1 h2 => Cd.awake_any w h1 h2
  generalize Cd.decG c l m s = G at *
  generalize Cd.chk c l m = z at *
  unfold Cd.coder at *
  go_enter Tryd.func3, Tryd.ntmps3
  go_wp2_with fail
  have HO := Lib.hid (Cd.own_empty2 w (.cells #[.int .i64 c, .int .i64 l, .int .i64 m] 23) 5).drew
  have HI := Lib.hid (HV.out.below (Cd.below_two w (.cells #[.int .i64 c, .int .i64 l, .int .i64 m] 23) (.cells #[] 5)) (Nat.le_refl _))
  go_region_held3 (fun w' => w'.cell? ⟨w.heap.size, 0, none⟩ = some (.int .i64 c) ∧ w'.cell? ⟨w.heap.size, 1, none⟩ = some (.int .i64 l) ∧ w'.cell? ⟨w.heap.size, 2, none⟩ = some (.int .i64 m))
    (first | go_keep | exact hkeep)
    (first
      | (refine By.step_append_bytes (by rfl) _ _ _ (by rfl) (w.heap.size + 1) 5 i0 _ Tryd.underlying24 hi hz0 hz1 hz2 rfl _ 0 [] (by rfl) ?_ v s (by rfl) ?_ ?_ ?_ ?_ ?_
         exact HO.out
         exact HI.out
         (unfold maxLen; omega)
         omega
         simp
         intro v1 w1 hown1 hgrow1 _
         have hkeep := Cd.keep3 hgrow1
         have hb1 := Cd.below_app hgrow1
         have hs1 := Cd.size_app hgrow1
         have hin1 := Cd.in_app hown1
         clear hown1 hgrow1)
      | (go_at_call 11
         refine (KD v1 w1 (Cd.tabs_below HT.out hb1 hTB.1 hTB.2) (by omega) (by omega) (Cd.BytesAt.of_in hin1) hin1.slice).mono ?_
         rintro x w2 ⟨rfl, hb2⟩
         have hkeep := Cd.keep_below hkeep hb2 hs1))
  have HB2 := Lib.hid (hb1.trans (hb2.mono (by omega)))
  have hs2 := hb2.size
  have HK2 := Lib.hid (show Cd.Keep3 w.heap.size c l m w2 from hkeep)
  have HV2 := Lib.hid (HV.out.below HB2.out (Nat.le_refl _))
  obtain ⟨k0, k1, k2⟩ := HK2.out
  clear hb1 hb2 hkeep hin1 HO HI KD
  go_wp2_with fail
  refine (KR v w2 (by omega) (Cd.BytesAt.of_in HV2.out) HV2.out.slice).mono ?_
  rintro x w3 ⟨rfl, hb3⟩
  have HB3 := Lib.hid (HB2.out.trans (hb3.mono (by omega)))
  have hs3 := hb3.size
  have HK3 := Lib.hid (Cd.keep_below HK2.out hb3 (by omega))
  clear k0 k1 k2 hb3
  obtain ⟨k0, k1, k2⟩ := HK3.out
  go_wp2_with fail
  have hacc : Below w.heap.size w w3.drew := HB3.out.drew
  have hlt : w.heap.size < w3.drew.heap.size := by show w.heap.size < w3.heap.size; omega
  have hkeep : Cd.Keep3 w.heap.size c l m w3.drew := HK3.out
  clear KR HK2 HB2 HV2 HV
  go_region_held3 (fun w' => w'.cell? ⟨w.heap.size, 0, none⟩ = some (.int .i64 c) ∧ w'.cell? ⟨w.heap.size, 1, none⟩ = some (.int .i64 l) ∧ w'.cell? ⟨w.heap.size, 2, none⟩ = some (.int .i64 m))
    (first | go_keep | exact hkeep)
    (first
      | (go_at_call 13
         refine (KA _ (Cd.tabs_below HT.out hacc hTB.1 hTB.2) (by omega)).mono ?_
         rintro x w4 ⟨rfl, hb4⟩
         have hkeep := Cd.keep_below hkeep hb4 hlt
         have hacc := hacc.trans (hb4.mono (Nat.le_of_lt hlt))
         have hlt := Nat.lt_of_lt_of_le hlt hb4.size
         clear hb4)
      | (go_at_call 14
         refine (KC _).mono ?_
         rintro x w5 ⟨rfl, hb5⟩
         have hkeep := Cd.keep_below hkeep hb5 hlt
         have hacc := hacc.trans (hb5.mono (Nat.le_of_lt hlt))
         have hlt := Nat.lt_of_lt_of_le hlt hb5.size
         clear hb5)
      | (go_at_call 15
         refine (KS _).mono ?_
         rintro x w6 ⟨rfl, hb6⟩
         have hkeep := Cd.keep_below hkeep hb6 hlt
         have hacc := hacc.trans (hb6.mono (Nat.le_of_lt hlt))
         have hlt := Nat.lt_of_lt_of_le hlt hb6.size
         clear hb6))
  all_goals
    go_wp2
    go_ret
    exact ⟨rfl, hacc⟩
end Go.Proofs.YtdpbpkggbgfkgaaDoor
namespace Go.Proofs.YtdpbpkggbgfkgaaDoor.codecDecodes
open Go.ChangeShapes Go.WideShapes Go.ChangeAt Go.RowKit Go.Joins
open Go.ChangeMaps (open_string shut_string)
set_option linter.unusedVariables false
set_option linter.unusedSimpArgs false

theorem own : ownKnob Tryd.prog.godebug = none := by kernel_rfl
theorem laidOut : laidOutB Tryd.prog = true := by kernel_rfl
theorem cellsC : Tryd.prog.cellsOf 23 = 3 := by kernel_rfl
theorem cellsB : Tryd.prog.cellsOf 5 = 1 := by kernel_rfl
theorem bytesB : Tryd.prog.bytesOf 5 = 1 := by kernel_rfl
def args0 : Array Value := #[.agg #[.int .i64 0, .int .i64 0, .int .i64 0], .slice none 0 0]
theorem laid_met (os : Os) : laidMetH Tryd.prog Rows.codecDecodesRow.laid ((World.laidAll Tryd.prog os Rows.codecDecodesRow.laid).forCall (fun _ _ => 0) ⟨#[], args0, []⟩).memory := by
  rw [MakeChecks.laidMetH_plain _ _ _ (by kernel_rfl)]
  exact laidMet_laidAll _ (by kernel_rfl) (by kernel_rfl)
theorem reads (os : Os) {H : Type} (enc : TypeId × Value → H) : ∃ places, DataW.whole enc Tryd.prog ((World.laidAll Tryd.prog os Rows.codecDecodesRow.laid).forCall (fun _ _ => 0) ⟨#[], args0, []⟩).memory Tryd.f3.params.toList Rows.codecDecodesSpec.vars false args0.toList 8 = some ([.agg [.lit (.int .i64 0), .lit (.int .i64 0), .lit (.int .i64 0)], .nil], [], places) :=
  ⟨[], by kernel_rfl⟩
theorem xU8 : U8Extra Tryd.prog Tryd.lays260_ren := ⟨by kernel_rfl, by kernel_rfl, by kernel_rfl, by kernel_rfl, by kernel_rfl, by kernel_rfl, by kernel_rfl⟩
theorem accEq : (Rows.laid_unicode_utf8_acceptRanges : DataW Unit) = Lib.acceptData := by kernel_rfl
theorem tabs {W : World} (hL : laidMetH Tryd.prog Rows.codecDecodesRow.laid W) : Lib.Utf8Tabs 0 1 W := by
  rw [MakeChecks.laidMetH_plain _ _ _ (by kernel_rfl)] at hL
  exact utf8Tabs_of_readsT (U8Types.of260 Tryd.lays260) xU8 (Pinned.utf8First_eq ▸ Lib.laidMet.reads hL (.tail _ (.head _))) (accEq ▸ Lib.laidMet.reads hL (.head _))
theorem tabsLt {W : World} (h : Lib.Utf8Tabs 0 1 W) : 0 < W.heap.size ∧ 1 < W.heap.size :=
  ⟨World.block_lt_of_cell? W _ (h.1 0 (by decide)), World.block_lt_of_cell? W _ (h.2 0 (by decide)).1⟩

set_option maxRecDepth 100000 in
theorem lifted (os : Os) (started : os.Started) (H : Type) (enc : TypeId × Value → H) (F : Stop.Interp) :
    ReturnsInHanded {} Tryd.checked os 3 .any ((OpenSpec.ofChange Rows.codecDecodesSpec).preRow enc Tryd.prog Tryd.f3 Rows.codecDecodesRow.domain false Rows.codecDecodesRow.laid) (((OpenSpec.ofChange Rows.codecDecodesSpec).at F).post enc Tryd.prog Tryd.f3 false true false false) := by
  obtain ⟨places, hx⟩ := reads os enc
  refine returnsInHanded_of_row (C := Tryd.checked) (s := OpenSpec.ofChange Rows.codecDecodesSpec) own started (by kernel_rfl) Tryd.func3
    (witness_row_at (enc := enc) (C := Tryd.checked) false (World.laidAll Tryd.prog os Rows.codecDecodesRow.laid) args0 (World.laidAll_os _ _ _) (by kernel_rfl) (by kernel_rfl) (by kernel_rfl)
      (OpenSpec.preRow_of_cond 8 hx (by kernel_rfl) (fun k hk => by cases hk) (by kernel_rfl) (laid_met os))) ?_
  intro W base args ds gs before hval hW _ hcond hsz hL hshaped _
  have hW' := hW
  obtain ⟨p, q, hA0, hV, rfl, hfz, hnd⟩ := hW
  have hA : DataW.TrodAll enc Tryd.prog W 0 (fun _ => true) true Tryd.f3.params.toList args.toList ds p := hA0
  rw [Tryd.params3] at hA hval
  obtain ⟨v0, vs0, d0, ds0, p0, q0, hargs, rfl, rfl, h0, r0⟩ := trodAll_cons hA
  obtain ⟨v1, vs1, d1, ds1, p1, q1, rfl, rfl, rfl, h1, r1⟩ := trodAll_cons r0
  obtain ⟨rfl, rfl, rfl⟩ := trodAll_nil r1
  obtain rfl : args = #[v0, v1] := by cases args; simp_all
  obtain ⟨rfl, rfl⟩ := trodVars_none hV
  clear hA0
  simp only [List.append_nil] at hW'
  have k0 := h0
  have lt0 : ∀ x ∈ p0, x.block < W.heap.size := fun x hx => by simpa using hW'.lt x (by simp [hx])
  have k1 := h1
  have lt1 : ∀ x ∈ p1, x.block < W.heap.size := fun x hx => by simpa using hW'.lt x (by simp [hx])
  have hsz2 : (DataW.weightsEach Tryd.prog [23, 24] [d0, d1]).all (· ≤ reachBytes) = true := by
    have := hsz
    rw [Tryd.params3] at this
    exact this
  obtain ⟨cv0, lv0, mv0, y0a, y0b, y0c, m0, rfl, rfl, rfl, hy0a, hy0b, hy0c⟩ := open_agg3 Tryd.underlying23 (by kernel_rfl) cellsC (hval 0 23 v0 rfl rfl) h0
  obtain ⟨n0a, e0a, rfl, w0a⟩ := DataW.trod_int Tryd.underlying3 hy0a
  obtain ⟨n0b, e0b, rfl, w0b⟩ := DataW.trod_int Tryd.underlying3 hy0b
  obtain ⟨n0c, e0c, rfl, w0c⟩ := DataW.trod_int Tryd.underlying3 hy0c
  simp only [List.cons.injEq, and_true] at e0a e0b e0c
  subst e0a e0b e0c
  obtain ⟨s1, hin1, hd1⟩ := By.In.open Tryd.underlying24 Tryd.underlying5 cellsB (okWide_slice Tryd.underlying24 (hval 1 24 v1 rfl rfl)) h1
  have hs1 : s1.size ≤ 140737488351232 := by
    rcases hd1 with ⟨_, h⟩ | ⟨elems, spare, rfl, h⟩
    · omega
    · have := sized_slice hsz2 (j := 1) (t := 24) (e := 5) rfl rfl Tryd.underlying24
      rw [bytesB] at this
      simp only [reachBytes] at this
      omega
  have hT := tabs hL
  refine (walk n0a n0b n0c v1 s1 W hs1 hin1 hT (tabsLt hT)).mono fun e W' ⟨he, bel⟩ => ?_
  subst he
  exact ⟨_, rfl, _, _, _, [], _, [], hW', trodAll_mk1 (shut_bool Tryd.underlying4 _), (trodAll_cons_mk (Below.trod laidOut (by kernel_rfl) (of_decide_eq_true (by kernel_rfl)) k0 bel lt0) (trodAll_cons_mk (Below.trod laidOut (by kernel_rfl) (of_decide_eq_true (by kernel_rfl)) k1 bel lt1) trodAll_mk0)), rfl, bel.frame _, fun h => by cases h⟩

theorem said : Rows.CodecDecodesSaid :=
  OpenClaim.holds_of_cond 3 Tryd.f3 rfl rfl rfl rfl rfl rfl rfl ⟨rfl, rfl, rfl, rfl, rfl⟩ rfl rfl rfl rfl rfl (by kernel_rfl) Tryd.func3 (by kernel_rfl)
    (of_decide_eq_true (by kernel_rfl)) (by unfold Func.isWrapper; first | (rw [if_pos (by decide +kernel)]; kernel_rfl) | (rw [if_neg (by decide +kernel)]; exact ⟨rfl, rfl⟩))
    (fun os started H enc _ F => by rw [OpenClaim.pre_eq_preRow]; exact lifted os started H enc F)

theorem plain (f : FuncId) (fn : Func) (hf : Tryd.pinned.checked.prog.funcNamed "sextant/sextantlaw06.CodecDecodes" = some f) (hfn : Tryd.pinned.checked.prog.funcs[f]? = some fn) :
    false = Tryd.pinned.checked.prog.looks [] ∧ ∀ (j : Nat) t, fn.params[j]? = some t → Tryd.pinned.checked.prog.wantsStandIn t = false := by
  obtain rfl : f = 3 := Option.some.inj ((show Tryd.prog.funcNamed "sextant/sextantlaw06.CodecDecodes" = some 3 by kernel_rfl).symm.trans hf) |>.symm
  obtain rfl : fn = Tryd.f3 := (Option.some.inj (Tryd.func3.symm.trans hfn)).symm
  refine ⟨by kernel_rfl, fun j t ht => ?_⟩
  rw [Tryd.params3] at ht
  have hm : t ∈ [23, 24] := by simpa using Array.mem_of_getElem? ht
  have hall : ([23, 24].all fun u => !Tryd.prog.wantsStandIn u) = true := by kernel_rfl
  exact (show Tryd.prog.wantsStandIn t = false by simpa using List.all_eq_true.1 hall t hm)

theorem card : Rows.CodecDecodesCardSaid :=
  Claim7.holds_tied_plain_at .later [] _ _ _ _ said (fun _ h => by cases h) (by kernel_rfl) (fun _ h => by cases h) codecDecodes_row_tie rfl ⟨rfl, rfl⟩ (by kernel_rfl) rfl plain (by kernel_rfl)
end Go.Proofs.YtdpbpkggbgfkgaaDoor.codecDecodes
