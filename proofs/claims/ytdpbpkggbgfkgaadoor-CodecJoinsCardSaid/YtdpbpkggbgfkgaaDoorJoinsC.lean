/-
  PROVED HERE: CodecJoinsCardSaid: whatever the transcoder and the two texts, the call of sextantlaw06.CodecJoins returns true, and the arguments read as they did. Conditions: none of ours; package utf8's two tables hold what their initialisers lay (tied by the card).
-/
import Derived.Test.YtdpbpkggbgfkgaaDoorCards
import Derived.Test.YtdpbpkggbgfkgaaDoorTie
import Derived.WalkKit
import Derived.ProofKit
import Derived.OpenShut
import Derived.ShutString
import Derived.JoinedCond
import Derived.Lib.Hide
import Derived.Deep.DeepHandedRow
import Derived.PinnedBridge
import Derived.Lib.LaidU8T
import Derived.Lay
import Derived.LaidOnce
import Derived.SevenTiedAt
import Derived.SizedLaws
import Derived.Carry
import Derived.Lib.SmallJoins
import Derived.Test.YtdpbpkggbgfkgaaDoorCdTheory3
import Derived.Test.YtdpbpkggbgfkgaaDoorCdAwake
import Derived.Test.YtdpbpkggbgfkgaaDoorByIf
import Derived.Test.YtdpbpkggbgfkgaaDoorSame
import Derived.Outline
namespace Go.Proofs.YtdpbpkggbgfkgaaDoor
open Go.RowKit
set_option linter.unusedVariables false

theorem Cd.own_empty1 (w : World) (t : TypeId) : (w.alloc (.cells #[] t)).ownsRow w.heap.size t 1 (.slice (some ⟨w.heap.size, 0, none⟩) 0 0) 0 [] := Sl.own_empty w t

set_option maxHeartbeats 2000000 in
set_option maxRecDepth 1000000 in
theorem codecJoins.walk (c l m : Int) (s t : ByteArray) (w : World) (hs : s.size ≤ 140737488351232) (ht : t.size ≤ 140737488351232) (hT : Lib.Utf8Tabs 0 1 w) (hTB : 0 < w.heap.size ∧ 1 < w.heap.size) :
    Calls Tryd.prog 9 #[Cd.coder c l m, .string s, .string t] w fun e w' => e = .returned (.bool true) ∧ Below w.heap.size w w' := by
  obtain ⟨i0, hi, iz0, iz1, iz2⟩ := info_parts Cd.infoB8
  have HT := Lib.hid hT; clear hT
  have KA := fun w h1 h2 => Cd.awake_any w h1 h2
  have KS := fun w h1 h2 => Cd.encode_any s w c l 0 (by omega) h1 h2
  have KU := fun w h1 h2 => Cd.encode_any t w c l 0 (by omega) h1 h2
  have ls := Cd.encG_len c l 0 s
  have lt := Cd.encG_len c l 0 t
  have hz0 : w.heap.size < (w.alloc (Obj.cells #[.int .i64 c, .int .i64 l, .int .i64 0] 23)).heap.size := by simp
  have HB0 := Lib.hid (show Below w.heap.size w (w.alloc (Obj.cells #[.int .i64 c, .int .i64 l, .int .i64 0] 23)) from (Below.refl _ _).alloc (Nat.le_refl _) _)
  have HQ := Lib.hid (heap_alloc_new w (Obj.cells #[.int .i64 c, .int .i64 l, .int .i64 0] 23))
  have HJ := Lib.hid (fun st h1 h2 h3 h4 => Cd.enc_joins c l s t st h1 h2 h3 h4)
  have hwell : (Cd.encG c l 0 s).2.2 = 0 → s.size ≤ 65536 := fun h => (Cd.chkN_good c l 0 _ (Cd.enc_well c l s h).1).2 |> fun h => by omega
  have HWL := Lib.hid hwell; clear hwell
  obtain ⟨A, hA⟩ : ∃ A, Cd.encG c l 0 s = A := ⟨_, rfl⟩
  obtain ⟨B, hB⟩ : ∃ B, Cd.encG c l 0 t = B := ⟨_, rfl⟩
  rw [hA] at KS ls HJ HWL
  rw [hB] at KU lt HJ
  have KST := fun w h h1 h2 => Cd.encode_any (s ++ t) w c l 0 h h1 h2
  clear hA hB
  unfold Cd.coder at *
  go_enter Tryd.func9, Tryd.ntmps9
  go_wp2_with fail
  refine (KS _ (Cd.tabs_below HT.out HB0.out hTB.1 hTB.2) (by omega)).mono ?_
  rintro x w1 ⟨v1, rfl, hin1, hb1⟩
  have HB1 := Lib.hid (HB0.out.trans (hb1.mono (Nat.le_of_lt hz0)))
  have hz1' : w.heap.size < w1.heap.size := Nat.lt_of_lt_of_le hz0 hb1.size
  have HQ1 := Lib.hid ((hb1.block _ hz0).trans HQ.out)
  have HI1 := Lib.hid hin1
  obtain ⟨f0, f1, f2⟩ := Cd.coder_cells HQ.out hb1 hz0
  clear hin1 hb1 KS
  go_wp2_with fail
  refine (KU _ (Cd.tabs_below HT.out HB1.out hTB.1 hTB.2) (by omega)).mono ?_
  rintro x w2 ⟨v2, rfl, hin2, hb2⟩
  have HB2 := Lib.hid (HB1.out.trans (hb2.mono (Nat.le_of_lt hz1')))
  have hz2' : w.heap.size < w2.heap.size := Nat.lt_of_lt_of_le hz1' hb2.size
  have HQ2 := Lib.hid ((hb2.block _ hz1').trans HQ1.out)
  have HI1 := Lib.hid (HI1.out.below hb2 (Nat.le_refl _))
  have HI2 := Lib.hid hin2
  clear hin2 hb2 KU f0 f1 f2
  go_wp2_with fail
  refine (KA _ (Cd.tabs_below HT.out HB2.out hTB.1 hTB.2) (by omega)).mono ?_
  rintro x w3 ⟨rfl, hb3⟩
  have HB3 := Lib.hid (HB2.out.trans (hb3.mono (Nat.le_of_lt hz2')))
  have hz3' : w.heap.size < w3.heap.size := Nat.lt_of_lt_of_le hz2' hb3.size
  have HQ3 := Lib.hid ((hb3.block _ hz2').trans HQ2.out)
  have HI1 := Lib.hid (HI1.out.below hb3 (Nat.le_refl _))
  have HI2 := Lib.hid (HI2.out.below hb3 (Nat.le_refl _))
  obtain ⟨f0, f1, f2⟩ := Cd.coder_cells HQ2.out hb3 hz2'
  clear hb3
  have HBAD : Hid (∀ x, x = false → True) := Lib.hid (fun _ _ => trivial)
  by_cases hgood : A.2.2 = 0 ∧ B.2.2 = 0 ∧ s.size + t.size ≤ 65536
  · obtain ⟨a0, b0, hsum⟩ := hgood
    have HJJ := Lib.hid (HJ.out (s ++ t) (by simp) (by simp; omega) a0 b0)
    have b1 : (A.2.2 != 0) = false := by simp [a0]
    have b2 : (B.2.2 != 0) = false := by simp [b0]
    have hszI : (s.size : Int) ≤ 65536 - (t.size : Int) := by omega
    have KST := KST
    rw [HJJ.out] at KST
    clear a0 b0 KA
    go_wp2_with fail
    refine (KST _ (by simp; omega) (Cd.tabs_below HT.out HB3.out hTB.1 hTB.2) (by omega)).mono ?_
    rintro x w4 ⟨v4, rfl, hin4, hb4⟩
    have HB4 := Lib.hid (HB3.out.trans (hb4.mono (Nat.le_of_lt hz3')))
    have hz4 : w.heap.size < w4.heap.size := Nat.lt_of_lt_of_le hz3' hb4.size
    have hbe : Below w4.heap.size w4 (w4.alloc (.cells #[] 5)) := (Below.refl _ _).alloc (Nat.le_refl _) _
    have HI1 := Lib.hid ((HI1.out.below hb4 (Nat.le_refl _)).below hbe (Nat.le_refl _))
    have HI2 := Lib.hid (HI2.out.below hb4 (Nat.le_refl _))
    have HI4 := Lib.hid hin4
    have HOE := Lib.hid (Sl.own_empty w4 5)
    have hbe0 := HB4.out.alloc (Nat.le_of_lt hz4) (.cells #[] 5)
    have HBE := Lib.hid hbe0
    have hze : (w4.alloc (.cells #[] 5)).heap.size = w4.heap.size + 1 := by simp
    have hze1 : w4.heap.size ≤ (w4.alloc (.cells #[] 5)).heap.size := by omega
    clear hin4 hb4 hbe hbe0 KST f0 f1 f2 hze
    have hla : A.1.length ≤ 8 * 65536 := by omega
    have hlb : B.1.length ≤ 8 * 65536 := by omega
    go_wp2_with (at_builtin; refine By.wpList_append_bytes_if (by rfl) _ _ 24 rfl w4.heap.size 5 i0 (.int .u8 0) Tryd.underlying24 hi iz0 iz1 iz2 rfl _ 0 [] rfl HOE.out _ ⟨A.1.toArray⟩ rfl HI1.out ?c3 ?c4 ?c5 ?_)
    case c3 => rw [Cd.size_mk]; unfold maxLen; omega
    case c4 => rw [Cd.size_mk]; omega
    case c5 => exact hze1
    intro v5 w5 ho5 hgr5 _
    have hb5 : Below w4.heap.size w4 w5 := ((Below.refl w4.heap.size w4).alloc (Nat.le_refl _) _).grown hgr5 hze1 (fun k hk => by simp [Value.ownBlock] at hk; omega)
    have ho5b : w5.ownsRow w4.heap.size 5 1 v5 A.1.length (By.bv A.1) := by
      rw [By.vals_bv] at ho5
      simpa using ho5
    have HO5 := Lib.hid ho5b
    have HI2 := Lib.hid (HI2.out.below hb5 (Nat.le_refl _))
    have HB5 := Lib.hid hb5
    have hs5 := hb5.size
    clear ho5 ho5b hgr5 hb5
    go_wp2_with (at_builtin; refine By.wpList_append_bytes_if (by rfl) _ _ 24 rfl w4.heap.size 5 i0 (.int .u8 0) Tryd.underlying24 hi iz0 iz1 iz2 rfl _ A.1.length (By.bv A.1) rfl HO5.out _ ⟨B.1.toArray⟩ rfl HI2.out ?c3 ?c4 ?c5 ?_)
    case c3 => rw [Cd.size_mk]; unfold maxLen; omega
    case c4 => rw [Cd.size_mk]; omega
    case c5 => exact hs5
    intro v6 w6 ho6 hgr6 _
    have hb6 : Below w4.heap.size w4 w6 := HB5.out.grown hgr6 hs5 (fun k hk => (HO5.out.lt k hk).1)
    have ho6b : w6.ownsRow w4.heap.size 5 1 v6 (A.1 ++ B.1).length (By.bv (A.1 ++ B.1)) := by
      rw [By.vals_bv, ← By.bv_append] at ho6
      simpa using ho6
    have HI6 := Lib.hid (By.In.of_bv ho6b)
    have HI4 := Lib.hid (HI4.out.below hb6 (Nat.le_refl _))
    have HB6 := Lib.hid (HB4.out.trans (hb6.mono (Nat.le_of_lt hz4)))
    have hz6 : w.heap.size < w6.heap.size := Nat.lt_of_lt_of_le hz4 hb6.size
    clear ho6 ho6b hgr6 hb6
    go_wp2_with fail
    refine (By.same_any ⟨(A.1 ++ B.1).toArray⟩ v4 v6 w6 (by rw [Cd.size_mk, List.length_append]; omega) HI4.out HI6.out).mono ?_
    rintro x w7 ⟨rfl, hb7⟩
    have HB7 := Lib.hid (HB6.out.trans (hb7.mono (Nat.le_of_lt hz6)))
    clear hb7
    go_wp2
    go_ret
    exact ⟨rfl, HB7.out⟩
  · go_wp2_with fail
    all_goals
      refine (KA _ (Cd.tabs_below HT.out HB3.out hTB.1 hTB.2) (by omega)).mono ?_
      rintro x w4 ⟨rfl, hb4⟩
      have HB4 := Lib.hid (HB3.out.trans (hb4.mono (Nat.le_of_lt hz3')))
      clear hb4
      go_wp2
      go_ret
      exact ⟨rfl, HB4.out⟩
end Go.Proofs.YtdpbpkggbgfkgaaDoor
namespace Go.Proofs.YtdpbpkggbgfkgaaDoor.codecJoins
open Go.ChangeShapes Go.WideShapes Go.ChangeAt Go.RowKit Go.Joins
open Go.ChangeMaps (open_string shut_string)
set_option linter.unusedVariables false
set_option linter.unusedSimpArgs false

theorem own : ownKnob Tryd.prog.godebug = none := by kernel_rfl
theorem laidOut : laidOutB Tryd.prog = true := by kernel_rfl
theorem cellsC : Tryd.prog.cellsOf 23 = 3 := by kernel_rfl
def args0 : Array Value := #[.agg #[.int .i64 0, .int .i64 0, .int .i64 0], .string .empty, .string .empty]
theorem laid_met (os : Os) : laidMetH Tryd.prog Rows.codecJoinsRow.laid ((World.laidAll Tryd.prog os Rows.codecJoinsRow.laid).forCall (fun _ _ => 0) ⟨#[], args0, []⟩).memory := by
  rw [MakeChecks.laidMetH_plain _ _ _ (by kernel_rfl)]
  exact laidMet_laidAll _ (by kernel_rfl) (by kernel_rfl)
theorem reads (os : Os) {H : Type} (enc : TypeId × Value → H) : ∃ places, DataW.whole enc Tryd.prog ((World.laidAll Tryd.prog os Rows.codecJoinsRow.laid).forCall (fun _ _ => 0) ⟨#[], args0, []⟩).memory Tryd.f9.params.toList Rows.codecJoinsSpec.vars false args0.toList 8 = some ([.agg [.lit (.int .i64 0), .lit (.int .i64 0), .lit (.int .i64 0)], .lit (.string []), .lit (.string [])], [], places) :=
  ⟨[], by kernel_rfl⟩
theorem xU8 : U8Extra Tryd.prog Tryd.lays260_ren := ⟨by kernel_rfl, by kernel_rfl, by kernel_rfl, by kernel_rfl, by kernel_rfl, by kernel_rfl, by kernel_rfl⟩
theorem accEq : (Rows.laid_unicode_utf8_acceptRanges : DataW Unit) = Lib.acceptData := by kernel_rfl
theorem tabs {W : World} (hL : laidMetH Tryd.prog Rows.codecJoinsRow.laid W) : Lib.Utf8Tabs 0 1 W := by
  rw [MakeChecks.laidMetH_plain _ _ _ (by kernel_rfl)] at hL
  exact utf8Tabs_of_readsT (U8Types.of260 Tryd.lays260) xU8 (Pinned.utf8First_eq ▸ Lib.laidMet.reads hL (.tail _ (.head _))) (accEq ▸ Lib.laidMet.reads hL (.head _))
theorem tabsLt {W : World} (h : Lib.Utf8Tabs 0 1 W) : 0 < W.heap.size ∧ 1 < W.heap.size :=
  ⟨World.block_lt_of_cell? W _ (h.1 0 (by decide)), World.block_lt_of_cell? W _ (h.2 0 (by decide)).1⟩

set_option maxRecDepth 100000 in
theorem lifted (os : Os) (started : os.Started) (H : Type) (enc : TypeId × Value → H) (F : Stop.Interp) :
    ReturnsInHanded {} Tryd.checked os 9 .any ((OpenSpec.ofChange Rows.codecJoinsSpec).preRow enc Tryd.prog Tryd.f9 Rows.codecJoinsRow.domain false Rows.codecJoinsRow.laid) (((OpenSpec.ofChange Rows.codecJoinsSpec).at F).post enc Tryd.prog Tryd.f9 false true false false) := by
  obtain ⟨places, hx⟩ := reads os enc
  refine returnsInHanded_of_row (C := Tryd.checked) (s := OpenSpec.ofChange Rows.codecJoinsSpec) own started (by kernel_rfl) Tryd.func9
    (witness_row_at (enc := enc) (C := Tryd.checked) false (World.laidAll Tryd.prog os Rows.codecJoinsRow.laid) args0 (World.laidAll_os _ _ _) (by kernel_rfl) (by kernel_rfl) (by kernel_rfl)
      (OpenSpec.preRow_of_cond 8 hx (by kernel_rfl) (fun k hk => by cases hk) (by kernel_rfl) (laid_met os))) ?_
  intro W base args ds gs before hval hW _ hcond hsz hL hshaped _
  have hW' := hW
  obtain ⟨p, q, hA0, hV, rfl, hfz, hnd⟩ := hW
  have hA : DataW.TrodAll enc Tryd.prog W 0 (fun _ => true) true Tryd.f9.params.toList args.toList ds p := hA0
  rw [Tryd.params9] at hA hval
  obtain ⟨v0, vs0, d0, ds0, p0, q0, hargs, rfl, rfl, h0, r0⟩ := trodAll_cons hA
  obtain ⟨v1, vs1, d1, ds1, p1, q1, rfl, rfl, rfl, h1, r1⟩ := trodAll_cons r0
  obtain ⟨v2, vs2, d2, ds2, p2, q2, rfl, rfl, rfl, h2, r2⟩ := trodAll_cons r1
  obtain ⟨rfl, rfl, rfl⟩ := trodAll_nil r2
  obtain rfl : args = #[v0, v1, v2] := by cases args; simp_all
  obtain ⟨rfl, rfl⟩ := trodVars_none hV
  clear hA0
  simp only [List.append_nil] at hW'
  have k0 := h0
  have lt0 : ∀ x ∈ p0, x.block < W.heap.size := fun x hx => by simpa using hW'.lt x (by simp [hx])
  have k1 := h1
  have lt1 : ∀ x ∈ p1, x.block < W.heap.size := fun x hx => by simpa using hW'.lt x (by simp [hx])
  have k2 := h2
  have lt2 : ∀ x ∈ p2, x.block < W.heap.size := fun x hx => by simpa using hW'.lt x (by simp [hx])
  have hsz2 : (DataW.weightsEach Tryd.prog [23, 9, 9] [d0, d1, d2]).all (· ≤ reachBytes) = true := by
    have := hsz
    rw [Tryd.params9] at this
    exact this
  obtain ⟨cv0, lv0, mv0, y0a, y0b, y0c, m0, rfl, rfl, rfl, hy0a, hy0b, hy0c⟩ := open_agg3 Tryd.underlying23 (by kernel_rfl) cellsC (hval 0 23 v0 rfl rfl) h0
  obtain ⟨n0a, e0a, rfl, w0a⟩ := DataW.trod_int Tryd.underlying3 hy0a
  obtain ⟨n0b, e0b, rfl, w0b⟩ := DataW.trod_int Tryd.underlying3 hy0b
  obtain ⟨n0c, e0c, rfl, w0c⟩ := DataW.trod_int Tryd.underlying3 hy0c
  simp only [List.cons.injEq, and_true] at e0a e0b e0c
  subst e0a e0b e0c
  obtain ⟨s1, rfl, rfl, rfl, hmax1⟩ := open_string Tryd.underlying9 (hval 1 9 v1 rfl rfl) h1
  have hs1 : s1.size ≤ 140737488351232 := by
    have := sized_string hsz2 (j := 1) (t := 9) rfl rfl
    simp only [reachBytes] at this
    simpa using this
  obtain ⟨s2, rfl, rfl, rfl, hmax2⟩ := open_string Tryd.underlying9 (hval 2 9 v2 rfl rfl) h2
  have hs2 : s2.size ≤ 140737488351232 := by
    have := sized_string hsz2 (j := 2) (t := 9) rfl rfl
    simp only [reachBytes] at this
    simpa using this
  have hT := tabs hL
  refine (walk n0a n0b n0c s1 s2 W hs1 hs2 hT (tabsLt hT)).mono fun e W' ⟨he, bel⟩ => ?_
  subst he
  exact ⟨_, rfl, _, _, _, [], _, [], hW', trodAll_mk1 (shut_bool Tryd.underlying4 _), (trodAll_cons_mk (Below.trod laidOut (by kernel_rfl) (of_decide_eq_true (by kernel_rfl)) k0 bel lt0) (trodAll_cons_mk (Below.trod laidOut (by kernel_rfl) (of_decide_eq_true (by kernel_rfl)) k1 bel lt1) (trodAll_cons_mk (Below.trod laidOut (by kernel_rfl) (of_decide_eq_true (by kernel_rfl)) k2 bel lt2) trodAll_mk0))), rfl, bel.frame _, fun h => by cases h⟩

theorem said : Rows.CodecJoinsSaid :=
  OpenClaim.holds_of_cond 9 Tryd.f9 rfl rfl rfl rfl rfl rfl rfl ⟨rfl, rfl, rfl, rfl, rfl⟩ rfl rfl rfl rfl rfl (by kernel_rfl) Tryd.func9 (by kernel_rfl)
    (of_decide_eq_true (by kernel_rfl)) (by unfold Func.isWrapper; first | (rw [if_pos (by decide +kernel)]; kernel_rfl) | (rw [if_neg (by decide +kernel)]; exact ⟨rfl, rfl⟩))
    (fun os started H enc _ F => by rw [OpenClaim.pre_eq_preRow]; exact lifted os started H enc F)

theorem plain (f : FuncId) (fn : Func) (hf : Tryd.pinned.checked.prog.funcNamed "sextant/sextantlaw06.CodecJoins" = some f) (hfn : Tryd.pinned.checked.prog.funcs[f]? = some fn) :
    false = Tryd.pinned.checked.prog.looks [] ∧ ∀ (j : Nat) t, fn.params[j]? = some t → Tryd.pinned.checked.prog.wantsStandIn t = false := by
  obtain rfl : f = 9 := Option.some.inj ((show Tryd.prog.funcNamed "sextant/sextantlaw06.CodecJoins" = some 9 by kernel_rfl).symm.trans hf) |>.symm
  obtain rfl : fn = Tryd.f9 := (Option.some.inj (Tryd.func9.symm.trans hfn)).symm
  refine ⟨by kernel_rfl, fun j t ht => ?_⟩
  rw [Tryd.params9] at ht
  have hm : t ∈ [23, 9, 9] := by simpa using Array.mem_of_getElem? ht
  have hall : ([23, 9, 9].all fun u => !Tryd.prog.wantsStandIn u) = true := by kernel_rfl
  exact (show Tryd.prog.wantsStandIn t = false by simpa using List.all_eq_true.1 hall t hm)

theorem card : Rows.CodecJoinsCardSaid :=
  Claim7.holds_tied_plain_at .later [] _ _ _ _ said (fun _ h => by cases h) (by kernel_rfl) (fun _ h => by cases h) codecJoins_row_tie rfl ⟨rfl, rfl⟩ (by kernel_rfl) rfl plain (by kernel_rfl)
end Go.Proofs.YtdpbpkggbgfkgaaDoor.codecJoins
