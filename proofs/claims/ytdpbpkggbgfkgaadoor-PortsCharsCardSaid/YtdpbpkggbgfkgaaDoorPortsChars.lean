/-
  PROVED HERE: PortsCharsCardSaid: whatever the transcoder and the bytes, the call of sextantlaw20.PortsChars returns true, and the arguments read as they did. Conditions: none of ours; package utf8's two tables hold what their initialisers lay (tied by the card).
-/
import Derived.Test.YtdpbpkggbgfkgaaDoorCards
import Derived.Test.YtdpbpkggbgfkgaaDoorTie
import Derived.WalkKit
import Derived.ProofKit
import Derived.OpenShut
import Derived.ShutString
import Derived.JoinedCond
import Derived.Lib.Hide
import Derived.Deep.DeepHandedRow
import Derived.PinnedBridge
import Derived.Lib.LaidU8T
import Derived.Lay
import Derived.LaidOnce
import Derived.SevenTiedAt
import Derived.SizedLaws
import Derived.Carry
import Derived.Lib.SmallJoins
import Derived.Test.YtdpbpkggbgfkgaaDoorPoAwake
import Derived.Test.YtdpbpkggbgfkgaaDoorSl
import Derived.Outline
namespace Go.Proofs.YtdpbpkggbgfkgaaDoor
open Go.RowKit
set_option linter.unusedVariables false

theorem Cd.endsI_len (xs : List Int) : ∀ n k, xs.length - k ≤ n → (Cd.endsI xs k).length ≤ xs.length - k := by
  intro n
  induction n with
  | zero => intro k h; rw [Cd.endsI_end xs k (by omega)]; simp
  | succ n ih =>
    intro k h
    by_cases hk : k < xs.length
    · by_cases h1 : xs.getD k 0 = 13
      · by_cases h2 : k + 1 < xs.length ∧ (xs.getD (k + 1) 0 = 10 ∨ xs.getD (k + 1) 0 = 133)
        · rw [Cd.endsI_two xs k hk _ _ rfl rfl h1 h2.1 h2.2, List.length_cons]
          have := ih (k + 1 + 1) (by omega)
          omega
        · rw [Cd.endsI_cr xs k hk _ _ rfl rfl h1 h2, List.length_cons]
          have := ih (k + 1) (by omega)
          omega
      · by_cases h2 : xs.getD k 0 = 133 ∨ xs.getD k 0 = 8232
        · rw [Cd.endsI_nl xs k hk _ rfl h1 h2, List.length_cons]
          have := ih (k + 1) (by omega)
          omega
        · rw [Cd.endsI_id xs k hk _ rfl h1 h2, List.length_cons]
          have := ih (k + 1) (by omega)
          omega
    · rw [Cd.endsI_end xs k hk]; simp
theorem Cd.endsL_len (l : Int) (xs : List Int) : (Cd.endsL l xs).length ≤ xs.length := by
  unfold Cd.endsL
  split
  · exact Nat.le_refl _
  · exact Cd.endsI_len xs _ 0 (Nat.le_refl _)
/-- What Decode hands back is the text of good characters, no more than there were bytes. -/
theorem Po.dec_text (c l m : Int) (s : ByteArray) : ∃ ys : List Int, (∀ r ∈ ys, Ru.okR r) ∧ Ru.encs ys = (Cd.decG c l m s).1 ∧ ys.length ≤ s.size := by
  unfold Cd.decG
  split
  · exact ⟨[], (fun r h => by cases h), rfl, Nat.zero_le _⟩
  split
  · exact ⟨[], (fun r h => by cases h), rfl, Nat.zero_le _⟩
  · refine ⟨(Cd.endsL l (Cd.feed m (Cd.unitsU c s) [] 0 0).1).map Po.fix, ?_, Po.encs_fix _, ?_⟩
    · intro r h
      obtain ⟨x, _, rfl⟩ := List.mem_map.1 h
      exact Po.fix_ok x
    · have h1 := Cd.endsL_len l (Cd.feed m (Cd.unitsU c s) [] 0 0).1
      have h2 := Cd.feed_len m (Cd.unitsU c s) [] 0 0
      have h3 := Cd.unitsU_len c s
      rw [List.length_map]
      rw [List.length_nil] at h2
      omega
theorem Po.dec_six (c l m : Int) (s : ByteArray) (h : (Cd.decG c l m s).2.2 = 6) : ∃ q : Nat, (Cd.decG c l m s).2.1 = (q : Int) ∧ q < s.size := by
  by_cases hc : Cd.chkN c l m s.size = 0
  · obtain ⟨hg, hs⟩ := Cd.chkN_good c l m _ hc
    unfold Cd.good at hg
    have hc0 : Cd.chkN c l 0 s.size = 0 := by
      have g0 : Cd.good c l 0 := by unfold Cd.good; omega
      unfold Cd.chkN
      rw [if_pos g0, if_neg (by omega)]
    rcases (show m = 0 ∨ m = 1 ∨ m = 2 by omega) with rfl | rfl | rfl
    · rcases Cd.dec_places c l s with ⟨_, h2⟩ | ⟨_, q, h2, h3, _⟩
      · exact absurd h h2
      · exact ⟨q, h2, h3⟩
    · rw [Cd.dec_one c l s hc0] at h; exact absurd (show (0 : Int) = 6 from h) (by decide)
    · rw [Cd.dec_two c l s hc0] at h; exact absurd (show (0 : Int) = 6 from h) (by decide)
  · have e : Cd.decG c l m s = ([], 0, Cd.chkN c l m s.size) := by unfold Cd.decG; rw [if_pos hc]
    rw [e] at h
    have h : Cd.chkN c l m s.size = 6 := h
    unfold Cd.chkN at h
    repeat' split at h
    all_goals omega
theorem Po.encs_len : ∀ xs : List Int, (Ru.encs xs).length ≤ 4 * xs.length
  | [] => by simp [Ru.encs_nil]
  | r :: xs => by
    have h1 := Ru.encode_length r
    have h2 := Po.encs_len xs
    rw [Ru.encs_cons, List.length_append, List.length_cons]
    omega
theorem Po.str_append (a b : List UInt8) : (⟨a.toArray⟩ : ByteArray) ++ ⟨b.toArray⟩ = ⟨(a ++ b).toArray⟩ := by
  apply ByteArray.ext
  simp [ByteArray.data_append]
theorem Po.take_step (ys : List Int) (n : Nat) (h : n < ys.length) : Ru.encs (ys.take (n + 1)) = Ru.encs (ys.take n) ++ Lib.encodeRune (ys[n]) := by
  rw [List.take_succ_eq_append_getElem h, Ru.encs_append, Ru.encs_cons, Ru.encs_nil, List.append_nil]

set_option maxHeartbeats 4000000 in
set_option maxRecDepth 1000000 in
theorem portsChars.walk (c l m : Int) (v : Value) (b : ByteArray) (w : World) (hbs : b.size ≤ 140737488351232) (hv : By.In w v b) (hT : Lib.Utf8Tabs 0 1 w) (hTB : 0 < w.heap.size ∧ 1 < w.heap.size) :
    Calls Tryd.prog 4 #[Cd.coder c l m, v] w fun e w' => e = .returned (.bool true) ∧ Below w.heap.size w w' := by
  have HT := Lib.hid hT; clear hT
  have KA := fun w h1 h2 => Po.awake_any w h1 h2
  obtain ⟨ad, cap, rfl⟩ := hv.slice
  have HV := Lib.hid hv; clear hv
  have hz0 : w.heap.size < (w.alloc (Obj.cells #[.int .i64 c, .int .i64 l, .int .i64 m] 23)).heap.size := by simp
  have HB0 := Lib.hid (show Below w.heap.size w (w.alloc (Obj.cells #[.int .i64 c, .int .i64 l, .int .i64 m] 23)) from (Below.refl _ _).alloc (Nat.le_refl _) _)
  have HQ := Lib.hid (heap_alloc_new w (Obj.cells #[.int .i64 c, .int .i64 l, .int .i64 m] 23))
  by_cases hbig : b.size > 2000
  · have hbi : (b.size : Int) > 2000 := by omega
    have hcapb : b.size ≤ cap := by
      obtain ⟨_, _, _, _, h, _⟩ := HV.out.at (by omega)
      exact h
    have hcapi : (2000 : Int) ≤ (cap : Int) := by omega
    have HVS := Lib.hid (HV.out.take (q := 2000) (by omega))
    have hsz : (b.extract 0 2000).size ≤ 2000 := by rw [Cd.size_take b 2000 (by omega)]; exact Nat.le_refl _
    have HV0 := Lib.hid (HVS.out.below HB0.out (Nat.le_refl _))
    have KD := fun v w h1 h2 h3 h4 h5 => Cd.decode_any (b.extract 0 2000) v w c l m h1 h2 h3 h4 h5
    obtain ⟨ys0, ho0, hy0, hl0⟩ := Po.dec_text c l m (b.extract 0 2000)
    have h6 := Po.dec_six c l m (b.extract 0 2000)
    have OB := fun w h1 h2 h3 h4 h5 h6 => Po.open_bad c l m (.slice ad 2000 cap) (b.extract 0 2000) w h1 h2 h3 h4 h5 h6
    have OK := fun w h1 h3 h4 h5 => Po.open_ok c l m (.slice ad 2000 cap) (b.extract 0 2000) ys0 w h1 hy0 (by omega) h3 h4 h5
    have OF := fun q ys w h1 h2 h3 h4 h5 h6 h7 => Po.open_fault c l m (.slice ad 2000 cap) (b.extract 0 2000) q ys w h1 h2 h3 h4 (by omega) h5 h6 h7
    by_cases hz : (Cd.decG c l m (b.extract 0 2000)).2.2 = 0
    · clear OB OF h6
      generalize Cd.decG c l m (b.extract 0 2000) = D at *
      obtain ⟨x0, a0, z0⟩ := D
      simp only at hz hy0 KD
      obtain ⟨ys, hys⟩ : ∃ ys, ys = ys0 := ⟨_, rfl⟩
      subst hys
      have hy := hy0
      have HO := Lib.hid ho0
      have hl : ys.length ≤ 2000 := by omega
      clear ho0 hl0 hy0
      have KO := fun w h3 h4 h5 => OK w hz h3 h4 h5
      try simp only at hy
      subst hz
      subst hy
      unfold Cd.coder at *
      go_enter Tryd.func4, Tryd.ntmps4
      go_wp2_with fail
      refine (KD _ _ (Cd.tabs_below HT.out HB0.out hTB.1 hTB.2) (by omega) (by omega) (Cd.BytesAt.ofIn HV0.out) (Cd.slice_take HV0.out)).mono ?_
      rintro x w2 ⟨rfl, hb2⟩
      have HB2 := Lib.hid (HB0.out.trans (hb2.mono (Nat.le_of_lt hz0)))
      have hz2 : w.heap.size < w2.heap.size := Nat.lt_of_lt_of_le hz0 hb2.size
      have HQ2 := Lib.hid ((hb2.block _ hz0).trans HQ.out)
      have HV2 := Lib.hid (HV0.out.below hb2 (Nat.le_refl _))
      obtain ⟨f0, f1, f2⟩ := Cd.coder_cells HQ.out hb2 hz0
      clear hb2 KD
      go_wp2_with fail
      refine (KO w2 HV2.out (Cd.tabs_below HT.out HB2.out hTB.1 hTB.2) (by omega)).mono ?_
      rintro x w3 ⟨p, rfl, hp0, hA, hb3⟩
      have HB3 := Lib.hid (HB2.out.trans (hb3.mono (Nat.le_of_lt hz2)))
      have hz3 : w.heap.size < w3.heap.size := Nat.lt_of_lt_of_le hz2 hb3.size
      have hp : w.heap.size ≤ p := by omega
      have HA := Lib.hid hA
      clear hb3 KO f0 f1 f2 hA hp0
      go_wp2_with fail
      refine (KA _ (Cd.tabs_below HT.out HB3.out hTB.1 hTB.2) (by omega)).mono ?_
      rintro x w4 ⟨rfl, hb4⟩
      have HB4 := Lib.hid (HB3.out.trans (hb4.mono (Nat.le_of_lt hz3)))
      have hz4 : w.heap.size < w4.heap.size := Nat.lt_of_lt_of_le hz3 hb4.size
      have HA4 := Lib.hid (HA.out.below hb4 HA.out.lt)
      clear hb4 KA
      go_wp2_with fail
      go_loopw [10, 12] (fun o i wr => ∃ n : Nat, o = .string ⟨(Ru.encs (ys.take n)).toArray⟩ ∧ i = .int .i64 n ∧ n ≤ ys.length ∧ Po.At wr p (ys.drop n) false ∧ Below w.heap.size w wr) (fun _ i _ => ys.length + 1 - (intOf i).toNat)
      case atStart => exact ⟨0, rfl, rfl, Nat.zero_le _, HA4.out, HB4.out⟩
      case round =>
        obtain ⟨n, rfl, rfl, hn, hA, hb⟩ := hrel
        have HB := Lib.hid hb
        have HW := Lib.hid (Cd.tabs_below HT.out hb hTB.1 hTB.2)
        clear hb
        by_cases hlt : n < ys.length
        · have hd : ys.drop n = ys[n] :: ys.drop (n + 1) := by rw [List.drop_eq_getElem_cons hlt]
          rw [hd] at hA
          have hstep := Lib.hid (Po.take_step ys n hlt)
          have hr := HO.out (ys[n]) (List.getElem_mem hlt)
          generalize ys[n] = r at *
          have HRR := Lib.hid hr
          have he := Sl.encode_eq r
          have hk1 : (Ru.encs (ys.take n)).length ≤ 8000 := by have := Po.encs_len (ys.take n); rw [List.length_take] at this; omega
          have hk2 : (Lib.encodeRune r).length ≤ 4 := (Ru.encode_length r).2
          have KP := Lib.hid (Po.peek_some wr p r (ys.drop (n + 1)) false hA hr HW.out)
          have HA := Lib.hid hA
          clear hA hr hd
          go_wp2_with fail
          refine KP.out.mono ?_
          rintro x wx ⟨rfl, hbx⟩
          have HA2 := Lib.hid (HA.out.below hbx HA.out.lt)
          have HB2 := Lib.hid (HB.out.trans (hbx.mono HB.out.size))
          have KR := Lib.hid (Po.read_some wx p r (ys.drop (n + 1)) false HA2.out HRR.out (Cd.tabs_below HT.out HB2.out hTB.1 hTB.2))
          clear hbx KP
          go_wp2_with fail
          refine KR.out.mono ?_
          rintro x wy ⟨rfl, hA3, hby⟩
          have HB3 := Lib.hid (HB2.out.trans (hby.mono hp))
          have HA3 := Lib.hid hA3
          clear hby hA3 KR
          go_wp2
          go_roundw
          case rel => exact ⟨n + 1, by rw [hstep.out, Po.str_append], rfl, by omega, HA3.out, HB3.out⟩
          case measure => simp [intOf]; omega
        · have hd : ys.drop n = [] := List.drop_eq_nil_of_le (by omega)
          rw [hd] at hA
          obtain rfl : n = ys.length := by omega
          rw [List.take_length]
          have KP := Lib.hid (Po.peek_none wr p false hA)
          have HA := Lib.hid hA
          clear hA hd
          go_wp2_with fail
          refine KP.out.mono ?_
          rintro x wx ⟨rfl, hbx⟩
          have HA2 := Lib.hid (HA.out.below hbx HA.out.lt)
          have HB2 := Lib.hid (HB.out.trans (hbx.mono HB.out.size))
          have KR := Lib.hid (Po.read_none wx p false HA2.out)
          clear hbx KP
          go_wp2_with fail
          refine KR.out.mono ?_
          rintro x wy ⟨rfl, hby⟩
          have HA3 := Lib.hid (HA2.out.below hby HA2.out.lt)
          have HB3 := Lib.hid (HB2.out.trans (hby.mono HB2.out.size))
          have KR2 := Lib.hid (Po.read_none wy p false HA3.out)
          clear hby KR
          go_wp2_with fail
          refine KR2.out.mono ?_
          rintro x wz ⟨rfl, hbz⟩
          have HB4 := Lib.hid (HB3.out.trans (hbz.mono HB3.out.size))
          clear hbz KR2
          go_wp2
          go_ret
          exact ⟨rfl, HB4.out⟩
    · by_cases hz6 : (Cd.decG c l m (b.extract 0 2000)).2.2 = 6
      · obtain ⟨q, hq, hqs⟩ := h6 hz6
        obtain ⟨ys, ho, hy, hl1⟩ := Po.dec_text c l m (((b.extract 0 2000)).extract 0 q)
        have hqz := Cd.size_take ((b.extract 0 2000)) q (by omega)
        have hl : ys.length ≤ 2000 := by omega
        have HO := Lib.hid ho
        clear ho hl1 hqz OB OK h6 ho0 hy0 hl0 hz
        have OF := OF q ys
        generalize Cd.decG c l m (b.extract 0 2000) = D at *
        obtain ⟨x0, a0, z0⟩ := D
        obtain ⟨hz, hz'⟩ : z0 = 6 ∧ True := ⟨hz6, trivial⟩
        simp only at hz KD
        have KO := fun w h3 h4 h5 => OF w hz6 hq hqs hy h3 h4 h5
        try simp only at hy
        subst hz
        clear hz'

        unfold Cd.coder at *
        go_enter Tryd.func4, Tryd.ntmps4
        go_wp2_with fail
        refine (KD _ _ (Cd.tabs_below HT.out HB0.out hTB.1 hTB.2) (by omega) (by omega) (Cd.BytesAt.ofIn HV0.out) (Cd.slice_take HV0.out)).mono ?_
        rintro x w2 ⟨rfl, hb2⟩
        have HB2 := Lib.hid (HB0.out.trans (hb2.mono (Nat.le_of_lt hz0)))
        have hz2 : w.heap.size < w2.heap.size := Nat.lt_of_lt_of_le hz0 hb2.size
        have HQ2 := Lib.hid ((hb2.block _ hz0).trans HQ.out)
        have HV2 := Lib.hid (HV0.out.below hb2 (Nat.le_refl _))
        obtain ⟨f0, f1, f2⟩ := Cd.coder_cells HQ.out hb2 hz0
        clear hb2 KD
        go_wp2_with fail
        refine (KO w2 HV2.out (Cd.tabs_below HT.out HB2.out hTB.1 hTB.2) (by omega)).mono ?_
        rintro x w3 ⟨p, rfl, hp0, hA, hb3⟩
        have HB3 := Lib.hid (HB2.out.trans (hb3.mono (Nat.le_of_lt hz2)))
        have hz3 : w.heap.size < w3.heap.size := Nat.lt_of_lt_of_le hz2 hb3.size
        have hp : w.heap.size ≤ p := by omega
        have HA := Lib.hid hA
        clear hb3 KO f0 f1 f2 hA hp0
        go_wp2_with fail
        refine (KA _ (Cd.tabs_below HT.out HB3.out hTB.1 hTB.2) (by omega)).mono ?_
        rintro x w4 ⟨rfl, hb4⟩
        have HB4 := Lib.hid (HB3.out.trans (hb4.mono (Nat.le_of_lt hz3)))
        have hz4 : w.heap.size < w4.heap.size := Nat.lt_of_lt_of_le hz3 hb4.size
        have HA4 := Lib.hid (HA.out.below hb4 HA.out.lt)
        clear hb4 KA
        go_wp2_with fail
        go_loopw [10, 12] (fun o i wr => ∃ n : Nat, o = .string ⟨(Ru.encs (ys.take n)).toArray⟩ ∧ i = .int .i64 n ∧ n ≤ ys.length ∧ Po.At wr p (ys.drop n) true ∧ Below w.heap.size w wr) (fun _ i _ => ys.length + 1 - (intOf i).toNat)
        case atStart => exact ⟨0, rfl, rfl, Nat.zero_le _, HA4.out, HB4.out⟩
        case round =>
          obtain ⟨n, rfl, rfl, hn, hA, hb⟩ := hrel
          have HB := Lib.hid hb
          have HW := Lib.hid (Cd.tabs_below HT.out hb hTB.1 hTB.2)
          clear hb
          by_cases hlt : n < ys.length
          · have hd : ys.drop n = ys[n] :: ys.drop (n + 1) := by rw [List.drop_eq_getElem_cons hlt]
            rw [hd] at hA
            have hstep := Lib.hid (Po.take_step ys n hlt)
            have hr := HO.out (ys[n]) (List.getElem_mem hlt)
            generalize ys[n] = r at *
            have HRR := Lib.hid hr
            have he := Sl.encode_eq r
            have hk1 : (Ru.encs (ys.take n)).length ≤ 8000 := by have := Po.encs_len (ys.take n); rw [List.length_take] at this; omega
            have hk2 : (Lib.encodeRune r).length ≤ 4 := (Ru.encode_length r).2
            have KP := Lib.hid (Po.peek_some wr p r (ys.drop (n + 1)) true hA hr HW.out)
            have HA := Lib.hid hA
            clear hA hr hd
            go_wp2_with fail
            refine KP.out.mono ?_
            rintro x wx ⟨rfl, hbx⟩
            have HA2 := Lib.hid (HA.out.below hbx HA.out.lt)
            have HB2 := Lib.hid (HB.out.trans (hbx.mono HB.out.size))
            have KR := Lib.hid (Po.read_some wx p r (ys.drop (n + 1)) true HA2.out HRR.out (Cd.tabs_below HT.out HB2.out hTB.1 hTB.2))
            clear hbx KP
            go_wp2_with fail
            refine KR.out.mono ?_
            rintro x wy ⟨rfl, hA3, hby⟩
            have HB3 := Lib.hid (HB2.out.trans (hby.mono hp))
            have HA3 := Lib.hid hA3
            clear hby hA3 KR
            go_wp2
            go_roundw
            case rel => exact ⟨n + 1, by rw [hstep.out, Po.str_append], rfl, by omega, HA3.out, HB3.out⟩
            case measure => simp [intOf]; omega
          · have hd : ys.drop n = [] := List.drop_eq_nil_of_le (by omega)
            rw [hd] at hA
            obtain rfl : n = ys.length := by omega
            rw [List.take_length]
            have KP := Lib.hid (Po.peek_none wr p true hA)
            have HA := Lib.hid hA
            clear hA hd
            go_wp2_with fail
            refine KP.out.mono ?_
            rintro x wx ⟨rfl, hbx⟩
            have HA2 := Lib.hid (HA.out.below hbx HA.out.lt)
            have HB2 := Lib.hid (HB.out.trans (hbx.mono HB.out.size))
            have KR := Lib.hid (Po.read_none wx p true HA2.out)
            clear hbx KP
            go_wp2_with fail
            refine KR.out.mono ?_
            rintro x wy ⟨rfl, hby⟩
            have HA3 := Lib.hid (HA2.out.below hby HA2.out.lt)
            have HB3 := Lib.hid (HB2.out.trans (hby.mono HB2.out.size))
            have KR2 := Lib.hid (Po.read_none wy p true HA3.out)
            clear hby KR
            go_wp2_with fail
            refine KR2.out.mono ?_
            rintro x wz ⟨rfl, hbz⟩
            have HB4 := Lib.hid (HB3.out.trans (hbz.mono HB3.out.size))
            clear hbz KR2
            go_wp2
            go_ret
            exact ⟨rfl, HB4.out⟩
      · have KB := fun w h1 h2 h3 => OB w hz hz6 (by omega) h1 h2 h3
        clear OB OK OF h6 ho0 hy0 hl0
        generalize Cd.decG c l m (b.extract 0 2000) = D at *
        obtain ⟨x0, a0, z0⟩ := D
        simp only at hz hz6 KD KB
        have hd1 : (z0 != 6) = true := by simp [hz6]
        have hd2 : (z0 != 0) = true := by simp [hz]
        clear hz hz6
        unfold Cd.coder at *
        go_enter Tryd.func4, Tryd.ntmps4
        go_wp2_with fail
        refine (KD _ _ (Cd.tabs_below HT.out HB0.out hTB.1 hTB.2) (by omega) (by omega) (Cd.BytesAt.ofIn HV0.out) (Cd.slice_take HV0.out)).mono ?_
        rintro x w2 ⟨rfl, hb2⟩
        have HB2 := Lib.hid (HB0.out.trans (hb2.mono (Nat.le_of_lt hz0)))
        have hz2 : w.heap.size < w2.heap.size := Nat.lt_of_lt_of_le hz0 hb2.size
        have HQ2 := Lib.hid ((hb2.block _ hz0).trans HQ.out)
        have HV2 := Lib.hid (HV0.out.below hb2 (Nat.le_refl _))
        obtain ⟨f0, f1, f2⟩ := Cd.coder_cells HQ.out hb2 hz0
        clear hb2 KD
        go_wp2_with fail
        refine (KB w2 HV2.out (Cd.tabs_below HT.out HB2.out hTB.1 hTB.2) (by omega)).mono ?_
        rintro x w3 ⟨rfl, hb3⟩
        have HB3 := Lib.hid (HB2.out.trans (hb3.mono (Nat.le_of_lt hz2)))
        have hz3 : w.heap.size < w3.heap.size := Nat.lt_of_lt_of_le hz2 hb3.size
        clear hb3 KB f0 f1 f2
        go_wp2_with fail
        refine (KA _ (Cd.tabs_below HT.out HB3.out hTB.1 hTB.2) (by omega)).mono ?_
        rintro x w4 ⟨rfl, hb4⟩
        have HB4 := Lib.hid (HB3.out.trans (hb4.mono (Nat.le_of_lt hz3)))
        have hz4 : w.heap.size < w4.heap.size := Nat.lt_of_lt_of_le hz3 hb4.size
        clear hb4
        go_wp2_with fail
        refine (KA _ (Cd.tabs_below HT.out HB4.out hTB.1 hTB.2) (by omega)).mono ?_
        rintro x w5 ⟨rfl, hb5⟩
        have HB5 := Lib.hid (HB4.out.trans (hb5.mono (Nat.le_of_lt hz4)))
        have hz5 : w.heap.size < w5.heap.size := Nat.lt_of_lt_of_le hz4 hb5.size
        clear hb5
        go_wp2
        go_ret
        exact ⟨rfl, HB5.out⟩
  · have HVS := Lib.hid HV.out
    have hbi : (b.size : Int) ≤ 2000 := by omega
    have HV0 := Lib.hid (HVS.out.below HB0.out (Nat.le_refl _))
    have KD := fun v w h1 h2 h3 h4 h5 => Cd.decode_any b v w c l m h1 h2 h3 h4 h5
    obtain ⟨ys0, ho0, hy0, hl0⟩ := Po.dec_text c l m b
    have h6 := Po.dec_six c l m b
    have OB := fun w h1 h2 h3 h4 h5 h6 => Po.open_bad c l m (.slice ad b.size cap) b w h1 h2 h3 h4 h5 h6
    have OK := fun w h1 h3 h4 h5 => Po.open_ok c l m (.slice ad b.size cap) b ys0 w h1 hy0 (by omega) h3 h4 h5
    have OF := fun q ys w h1 h2 h3 h4 h5 h6 h7 => Po.open_fault c l m (.slice ad b.size cap) b q ys w h1 h2 h3 h4 (by omega) h5 h6 h7
    by_cases hz : (Cd.decG c l m b).2.2 = 0
    · clear OB OF h6
      generalize Cd.decG c l m b = D at *
      obtain ⟨x0, a0, z0⟩ := D
      simp only at hz hy0 KD
      obtain ⟨ys, hys⟩ : ∃ ys, ys = ys0 := ⟨_, rfl⟩
      subst hys
      have hy := hy0
      have HO := Lib.hid ho0
      have hl : ys.length ≤ 2000 := by omega
      clear ho0 hl0 hy0
      have KO := fun w h3 h4 h5 => OK w hz h3 h4 h5
      try simp only at hy
      subst hz
      subst hy
      unfold Cd.coder at *
      go_enter Tryd.func4, Tryd.ntmps4
      go_wp2_with fail
      refine (KD _ _ (Cd.tabs_below HT.out HB0.out hTB.1 hTB.2) (by omega) (by omega) (Cd.BytesAt.ofIn HV0.out) (Cd.slice_take HV0.out)).mono ?_
      rintro x w2 ⟨rfl, hb2⟩
      have HB2 := Lib.hid (HB0.out.trans (hb2.mono (Nat.le_of_lt hz0)))
      have hz2 : w.heap.size < w2.heap.size := Nat.lt_of_lt_of_le hz0 hb2.size
      have HQ2 := Lib.hid ((hb2.block _ hz0).trans HQ.out)
      have HV2 := Lib.hid (HV0.out.below hb2 (Nat.le_refl _))
      obtain ⟨f0, f1, f2⟩ := Cd.coder_cells HQ.out hb2 hz0
      clear hb2 KD
      go_wp2_with fail
      refine (KO w2 HV2.out (Cd.tabs_below HT.out HB2.out hTB.1 hTB.2) (by omega)).mono ?_
      rintro x w3 ⟨p, rfl, hp0, hA, hb3⟩
      have HB3 := Lib.hid (HB2.out.trans (hb3.mono (Nat.le_of_lt hz2)))
      have hz3 : w.heap.size < w3.heap.size := Nat.lt_of_lt_of_le hz2 hb3.size
      have hp : w.heap.size ≤ p := by omega
      have HA := Lib.hid hA
      clear hb3 KO f0 f1 f2 hA hp0
      go_wp2_with fail
      refine (KA _ (Cd.tabs_below HT.out HB3.out hTB.1 hTB.2) (by omega)).mono ?_
      rintro x w4 ⟨rfl, hb4⟩
      have HB4 := Lib.hid (HB3.out.trans (hb4.mono (Nat.le_of_lt hz3)))
      have hz4 : w.heap.size < w4.heap.size := Nat.lt_of_lt_of_le hz3 hb4.size
      have HA4 := Lib.hid (HA.out.below hb4 HA.out.lt)
      clear hb4 KA
      go_wp2_with fail
      go_loopw [10, 12] (fun o i wr => ∃ n : Nat, o = .string ⟨(Ru.encs (ys.take n)).toArray⟩ ∧ i = .int .i64 n ∧ n ≤ ys.length ∧ Po.At wr p (ys.drop n) false ∧ Below w.heap.size w wr) (fun _ i _ => ys.length + 1 - (intOf i).toNat)
      case atStart => exact ⟨0, rfl, rfl, Nat.zero_le _, HA4.out, HB4.out⟩
      case round =>
        obtain ⟨n, rfl, rfl, hn, hA, hb⟩ := hrel
        have HB := Lib.hid hb
        have HW := Lib.hid (Cd.tabs_below HT.out hb hTB.1 hTB.2)
        clear hb
        by_cases hlt : n < ys.length
        · have hd : ys.drop n = ys[n] :: ys.drop (n + 1) := by rw [List.drop_eq_getElem_cons hlt]
          rw [hd] at hA
          have hstep := Lib.hid (Po.take_step ys n hlt)
          have hr := HO.out (ys[n]) (List.getElem_mem hlt)
          generalize ys[n] = r at *
          have HRR := Lib.hid hr
          have he := Sl.encode_eq r
          have hk1 : (Ru.encs (ys.take n)).length ≤ 8000 := by have := Po.encs_len (ys.take n); rw [List.length_take] at this; omega
          have hk2 : (Lib.encodeRune r).length ≤ 4 := (Ru.encode_length r).2
          have KP := Lib.hid (Po.peek_some wr p r (ys.drop (n + 1)) false hA hr HW.out)
          have HA := Lib.hid hA
          clear hA hr hd
          go_wp2_with fail
          refine KP.out.mono ?_
          rintro x wx ⟨rfl, hbx⟩
          have HA2 := Lib.hid (HA.out.below hbx HA.out.lt)
          have HB2 := Lib.hid (HB.out.trans (hbx.mono HB.out.size))
          have KR := Lib.hid (Po.read_some wx p r (ys.drop (n + 1)) false HA2.out HRR.out (Cd.tabs_below HT.out HB2.out hTB.1 hTB.2))
          clear hbx KP
          go_wp2_with fail
          refine KR.out.mono ?_
          rintro x wy ⟨rfl, hA3, hby⟩
          have HB3 := Lib.hid (HB2.out.trans (hby.mono hp))
          have HA3 := Lib.hid hA3
          clear hby hA3 KR
          go_wp2
          go_roundw
          case rel => exact ⟨n + 1, by rw [hstep.out, Po.str_append], rfl, by omega, HA3.out, HB3.out⟩
          case measure => simp [intOf]; omega
        · have hd : ys.drop n = [] := List.drop_eq_nil_of_le (by omega)
          rw [hd] at hA
          obtain rfl : n = ys.length := by omega
          rw [List.take_length]
          have KP := Lib.hid (Po.peek_none wr p false hA)
          have HA := Lib.hid hA
          clear hA hd
          go_wp2_with fail
          refine KP.out.mono ?_
          rintro x wx ⟨rfl, hbx⟩
          have HA2 := Lib.hid (HA.out.below hbx HA.out.lt)
          have HB2 := Lib.hid (HB.out.trans (hbx.mono HB.out.size))
          have KR := Lib.hid (Po.read_none wx p false HA2.out)
          clear hbx KP
          go_wp2_with fail
          refine KR.out.mono ?_
          rintro x wy ⟨rfl, hby⟩
          have HA3 := Lib.hid (HA2.out.below hby HA2.out.lt)
          have HB3 := Lib.hid (HB2.out.trans (hby.mono HB2.out.size))
          have KR2 := Lib.hid (Po.read_none wy p false HA3.out)
          clear hby KR
          go_wp2_with fail
          refine KR2.out.mono ?_
          rintro x wz ⟨rfl, hbz⟩
          have HB4 := Lib.hid (HB3.out.trans (hbz.mono HB3.out.size))
          clear hbz KR2
          go_wp2
          go_ret
          exact ⟨rfl, HB4.out⟩
    · by_cases hz6 : (Cd.decG c l m b).2.2 = 6
      · obtain ⟨q, hq, hqs⟩ := h6 hz6
        obtain ⟨ys, ho, hy, hl1⟩ := Po.dec_text c l m ((b).extract 0 q)
        have hqz := Cd.size_take (b) q (by omega)
        have hl : ys.length ≤ 2000 := by omega
        have HO := Lib.hid ho
        clear ho hl1 hqz OB OK h6 ho0 hy0 hl0 hz
        have OF := OF q ys
        generalize Cd.decG c l m b = D at *
        obtain ⟨x0, a0, z0⟩ := D
        obtain ⟨hz, hz'⟩ : z0 = 6 ∧ True := ⟨hz6, trivial⟩
        simp only at hz KD
        have KO := fun w h3 h4 h5 => OF w hz6 hq hqs hy h3 h4 h5
        try simp only at hy
        subst hz
        clear hz'

        unfold Cd.coder at *
        go_enter Tryd.func4, Tryd.ntmps4
        go_wp2_with fail
        refine (KD _ _ (Cd.tabs_below HT.out HB0.out hTB.1 hTB.2) (by omega) (by omega) (Cd.BytesAt.ofIn HV0.out) (Cd.slice_take HV0.out)).mono ?_
        rintro x w2 ⟨rfl, hb2⟩
        have HB2 := Lib.hid (HB0.out.trans (hb2.mono (Nat.le_of_lt hz0)))
        have hz2 : w.heap.size < w2.heap.size := Nat.lt_of_lt_of_le hz0 hb2.size
        have HQ2 := Lib.hid ((hb2.block _ hz0).trans HQ.out)
        have HV2 := Lib.hid (HV0.out.below hb2 (Nat.le_refl _))
        obtain ⟨f0, f1, f2⟩ := Cd.coder_cells HQ.out hb2 hz0
        clear hb2 KD
        go_wp2_with fail
        refine (KO w2 HV2.out (Cd.tabs_below HT.out HB2.out hTB.1 hTB.2) (by omega)).mono ?_
        rintro x w3 ⟨p, rfl, hp0, hA, hb3⟩
        have HB3 := Lib.hid (HB2.out.trans (hb3.mono (Nat.le_of_lt hz2)))
        have hz3 : w.heap.size < w3.heap.size := Nat.lt_of_lt_of_le hz2 hb3.size
        have hp : w.heap.size ≤ p := by omega
        have HA := Lib.hid hA
        clear hb3 KO f0 f1 f2 hA hp0
        go_wp2_with fail
        refine (KA _ (Cd.tabs_below HT.out HB3.out hTB.1 hTB.2) (by omega)).mono ?_
        rintro x w4 ⟨rfl, hb4⟩
        have HB4 := Lib.hid (HB3.out.trans (hb4.mono (Nat.le_of_lt hz3)))
        have hz4 : w.heap.size < w4.heap.size := Nat.lt_of_lt_of_le hz3 hb4.size
        have HA4 := Lib.hid (HA.out.below hb4 HA.out.lt)
        clear hb4 KA
        go_wp2_with fail
        go_loopw [10, 12] (fun o i wr => ∃ n : Nat, o = .string ⟨(Ru.encs (ys.take n)).toArray⟩ ∧ i = .int .i64 n ∧ n ≤ ys.length ∧ Po.At wr p (ys.drop n) true ∧ Below w.heap.size w wr) (fun _ i _ => ys.length + 1 - (intOf i).toNat)
        case atStart => exact ⟨0, rfl, rfl, Nat.zero_le _, HA4.out, HB4.out⟩
        case round =>
          obtain ⟨n, rfl, rfl, hn, hA, hb⟩ := hrel
          have HB := Lib.hid hb
          have HW := Lib.hid (Cd.tabs_below HT.out hb hTB.1 hTB.2)
          clear hb
          by_cases hlt : n < ys.length
          · have hd : ys.drop n = ys[n] :: ys.drop (n + 1) := by rw [List.drop_eq_getElem_cons hlt]
            rw [hd] at hA
            have hstep := Lib.hid (Po.take_step ys n hlt)
            have hr := HO.out (ys[n]) (List.getElem_mem hlt)
            generalize ys[n] = r at *
            have HRR := Lib.hid hr
            have he := Sl.encode_eq r
            have hk1 : (Ru.encs (ys.take n)).length ≤ 8000 := by have := Po.encs_len (ys.take n); rw [List.length_take] at this; omega
            have hk2 : (Lib.encodeRune r).length ≤ 4 := (Ru.encode_length r).2
            have KP := Lib.hid (Po.peek_some wr p r (ys.drop (n + 1)) true hA hr HW.out)
            have HA := Lib.hid hA
            clear hA hr hd
            go_wp2_with fail
            refine KP.out.mono ?_
            rintro x wx ⟨rfl, hbx⟩
            have HA2 := Lib.hid (HA.out.below hbx HA.out.lt)
            have HB2 := Lib.hid (HB.out.trans (hbx.mono HB.out.size))
            have KR := Lib.hid (Po.read_some wx p r (ys.drop (n + 1)) true HA2.out HRR.out (Cd.tabs_below HT.out HB2.out hTB.1 hTB.2))
            clear hbx KP
            go_wp2_with fail
            refine KR.out.mono ?_
            rintro x wy ⟨rfl, hA3, hby⟩
            have HB3 := Lib.hid (HB2.out.trans (hby.mono hp))
            have HA3 := Lib.hid hA3
            clear hby hA3 KR
            go_wp2
            go_roundw
            case rel => exact ⟨n + 1, by rw [hstep.out, Po.str_append], rfl, by omega, HA3.out, HB3.out⟩
            case measure => simp [intOf]; omega
          · have hd : ys.drop n = [] := List.drop_eq_nil_of_le (by omega)
            rw [hd] at hA
            obtain rfl : n = ys.length := by omega
            rw [List.take_length]
            have KP := Lib.hid (Po.peek_none wr p true hA)
            have HA := Lib.hid hA
            clear hA hd
            go_wp2_with fail
            refine KP.out.mono ?_
            rintro x wx ⟨rfl, hbx⟩
            have HA2 := Lib.hid (HA.out.below hbx HA.out.lt)
            have HB2 := Lib.hid (HB.out.trans (hbx.mono HB.out.size))
            have KR := Lib.hid (Po.read_none wx p true HA2.out)
            clear hbx KP
            go_wp2_with fail
            refine KR.out.mono ?_
            rintro x wy ⟨rfl, hby⟩
            have HA3 := Lib.hid (HA2.out.below hby HA2.out.lt)
            have HB3 := Lib.hid (HB2.out.trans (hby.mono HB2.out.size))
            have KR2 := Lib.hid (Po.read_none wy p true HA3.out)
            clear hby KR
            go_wp2_with fail
            refine KR2.out.mono ?_
            rintro x wz ⟨rfl, hbz⟩
            have HB4 := Lib.hid (HB3.out.trans (hbz.mono HB3.out.size))
            clear hbz KR2
            go_wp2
            go_ret
            exact ⟨rfl, HB4.out⟩
      · have KB := fun w h1 h2 h3 => OB w hz hz6 (by omega) h1 h2 h3
        clear OB OK OF h6 ho0 hy0 hl0
        generalize Cd.decG c l m b = D at *
        obtain ⟨x0, a0, z0⟩ := D
        simp only at hz hz6 KD KB
        have hd1 : (z0 != 6) = true := by simp [hz6]
        have hd2 : (z0 != 0) = true := by simp [hz]
        clear hz hz6
        unfold Cd.coder at *
        go_enter Tryd.func4, Tryd.ntmps4
        go_wp2_with fail
        refine (KD _ _ (Cd.tabs_below HT.out HB0.out hTB.1 hTB.2) (by omega) (by omega) (Cd.BytesAt.ofIn HV0.out) (Cd.slice_take HV0.out)).mono ?_
        rintro x w2 ⟨rfl, hb2⟩
        have HB2 := Lib.hid (HB0.out.trans (hb2.mono (Nat.le_of_lt hz0)))
        have hz2 : w.heap.size < w2.heap.size := Nat.lt_of_lt_of_le hz0 hb2.size
        have HQ2 := Lib.hid ((hb2.block _ hz0).trans HQ.out)
        have HV2 := Lib.hid (HV0.out.below hb2 (Nat.le_refl _))
        obtain ⟨f0, f1, f2⟩ := Cd.coder_cells HQ.out hb2 hz0
        clear hb2 KD
        go_wp2_with fail
        refine (KB w2 HV2.out (Cd.tabs_below HT.out HB2.out hTB.1 hTB.2) (by omega)).mono ?_
        rintro x w3 ⟨rfl, hb3⟩
        have HB3 := Lib.hid (HB2.out.trans (hb3.mono (Nat.le_of_lt hz2)))
        have hz3 : w.heap.size < w3.heap.size := Nat.lt_of_lt_of_le hz2 hb3.size
        clear hb3 KB f0 f1 f2
        go_wp2_with fail
        refine (KA _ (Cd.tabs_below HT.out HB3.out hTB.1 hTB.2) (by omega)).mono ?_
        rintro x w4 ⟨rfl, hb4⟩
        have HB4 := Lib.hid (HB3.out.trans (hb4.mono (Nat.le_of_lt hz3)))
        have hz4 : w.heap.size < w4.heap.size := Nat.lt_of_lt_of_le hz3 hb4.size
        clear hb4
        go_wp2_with fail
        refine (KA _ (Cd.tabs_below HT.out HB4.out hTB.1 hTB.2) (by omega)).mono ?_
        rintro x w5 ⟨rfl, hb5⟩
        have HB5 := Lib.hid (HB4.out.trans (hb5.mono (Nat.le_of_lt hz4)))
        have hz5 : w.heap.size < w5.heap.size := Nat.lt_of_lt_of_le hz4 hb5.size
        clear hb5
        go_wp2
        go_ret
        exact ⟨rfl, HB5.out⟩
end Go.Proofs.YtdpbpkggbgfkgaaDoor
namespace Go.Proofs.YtdpbpkggbgfkgaaDoor.portsChars
open Go.ChangeShapes Go.WideShapes Go.ChangeAt Go.RowKit Go.Joins
open Go.ChangeMaps (open_string shut_string)
set_option linter.unusedVariables false
set_option linter.unusedSimpArgs false

theorem own : ownKnob Tryd.prog.godebug = none := by kernel_rfl
theorem laidOut : laidOutB Tryd.prog = true := by kernel_rfl
theorem cellsC : Tryd.prog.cellsOf 23 = 3 := by kernel_rfl
theorem cellsB : Tryd.prog.cellsOf 5 = 1 := by kernel_rfl
theorem bytesB : Tryd.prog.bytesOf 5 = 1 := by kernel_rfl
def args0 : Array Value := #[.agg #[.int .i64 0, .int .i64 0, .int .i64 0], .slice none 0 0]
theorem laid_met (os : Os) : laidMetH Tryd.prog Rows.portsCharsRow.laid ((World.laidAll Tryd.prog os Rows.portsCharsRow.laid).forCall (fun _ _ => 0) ⟨#[], args0, []⟩).memory := by
  rw [MakeChecks.laidMetH_plain _ _ _ (by kernel_rfl)]
  exact laidMet_laidAll _ (by kernel_rfl) (by kernel_rfl)
theorem reads (os : Os) {H : Type} (enc : TypeId × Value → H) : ∃ places, DataW.whole enc Tryd.prog ((World.laidAll Tryd.prog os Rows.portsCharsRow.laid).forCall (fun _ _ => 0) ⟨#[], args0, []⟩).memory Tryd.f4.params.toList Rows.portsCharsSpec.vars false args0.toList 8 = some ([.agg [.lit (.int .i64 0), .lit (.int .i64 0), .lit (.int .i64 0)], .nil], [], places) :=
  ⟨[], by kernel_rfl⟩
theorem xU8 : U8Extra Tryd.prog Tryd.lays260_ren := ⟨by kernel_rfl, by kernel_rfl, by kernel_rfl, by kernel_rfl, by kernel_rfl, by kernel_rfl, by kernel_rfl⟩
theorem accEq : (Rows.laid_unicode_utf8_acceptRanges : DataW Unit) = Lib.acceptData := by kernel_rfl
theorem tabs {W : World} (hL : laidMetH Tryd.prog Rows.portsCharsRow.laid W) : Lib.Utf8Tabs 0 1 W := by
  rw [MakeChecks.laidMetH_plain _ _ _ (by kernel_rfl)] at hL
  exact utf8Tabs_of_readsT (U8Types.of260 Tryd.lays260) xU8 (Pinned.utf8First_eq ▸ Lib.laidMet.reads hL (.tail _ (.head _))) (accEq ▸ Lib.laidMet.reads hL (.head _))
theorem tabsLt {W : World} (h : Lib.Utf8Tabs 0 1 W) : 0 < W.heap.size ∧ 1 < W.heap.size :=
  ⟨World.block_lt_of_cell? W _ (h.1 0 (by decide)), World.block_lt_of_cell? W _ (h.2 0 (by decide)).1⟩

set_option maxRecDepth 100000 in
theorem lifted (os : Os) (started : os.Started) (H : Type) (enc : TypeId × Value → H) (F : Stop.Interp) :
    ReturnsInHanded {} Tryd.checked os 4 .any ((OpenSpec.ofChange Rows.portsCharsSpec).preRow enc Tryd.prog Tryd.f4 Rows.portsCharsRow.domain false Rows.portsCharsRow.laid) (((OpenSpec.ofChange Rows.portsCharsSpec).at F).post enc Tryd.prog Tryd.f4 false true false false) := by
  obtain ⟨places, hx⟩ := reads os enc
  refine returnsInHanded_of_row (C := Tryd.checked) (s := OpenSpec.ofChange Rows.portsCharsSpec) own started (by kernel_rfl) Tryd.func4
    (witness_row_at (enc := enc) (C := Tryd.checked) false (World.laidAll Tryd.prog os Rows.portsCharsRow.laid) args0 (World.laidAll_os _ _ _) (by kernel_rfl) (by kernel_rfl) (by kernel_rfl)
      (OpenSpec.preRow_of_cond 8 hx (by kernel_rfl) (fun k hk => by cases hk) (by kernel_rfl) (laid_met os))) ?_
  intro W base args ds gs before hval hW _ hcond hsz hL hshaped _
  have hW' := hW
  obtain ⟨p, q, hA0, hV, rfl, hfz, hnd⟩ := hW
  have hA : DataW.TrodAll enc Tryd.prog W 0 (fun _ => true) true Tryd.f4.params.toList args.toList ds p := hA0
  rw [Tryd.params4] at hA hval
  obtain ⟨v0, vs0, d0, ds0, p0, q0, hargs, rfl, rfl, h0, r0⟩ := trodAll_cons hA
  obtain ⟨v1, vs1, d1, ds1, p1, q1, rfl, rfl, rfl, h1, r1⟩ := trodAll_cons r0
  obtain ⟨rfl, rfl, rfl⟩ := trodAll_nil r1
  obtain rfl : args = #[v0, v1] := by cases args; simp_all
  obtain ⟨rfl, rfl⟩ := trodVars_none hV
  clear hA0
  simp only [List.append_nil] at hW'
  have k0 := h0
  have lt0 : ∀ x ∈ p0, x.block < W.heap.size := fun x hx => by simpa using hW'.lt x (by simp [hx])
  have k1 := h1
  have lt1 : ∀ x ∈ p1, x.block < W.heap.size := fun x hx => by simpa using hW'.lt x (by simp [hx])
  have hsz2 : (DataW.weightsEach Tryd.prog [23, 24] [d0, d1]).all (· ≤ reachBytes) = true := by
    have := hsz
    rw [Tryd.params4] at this
    exact this
  obtain ⟨cv0, lv0, mv0, y0a, y0b, y0c, m0, rfl, rfl, rfl, hy0a, hy0b, hy0c⟩ := open_agg3 Tryd.underlying23 (by kernel_rfl) cellsC (hval 0 23 v0 rfl rfl) h0
  obtain ⟨n0a, e0a, rfl, w0a⟩ := DataW.trod_int Tryd.underlying3 hy0a
  obtain ⟨n0b, e0b, rfl, w0b⟩ := DataW.trod_int Tryd.underlying3 hy0b
  obtain ⟨n0c, e0c, rfl, w0c⟩ := DataW.trod_int Tryd.underlying3 hy0c
  simp only [List.cons.injEq, and_true] at e0a e0b e0c
  subst e0a e0b e0c
  obtain ⟨s1, hin1, hd1⟩ := By.In.open Tryd.underlying24 Tryd.underlying5 cellsB (okWide_slice Tryd.underlying24 (hval 1 24 v1 rfl rfl)) h1
  have hs1 : s1.size ≤ 140737488351232 := by
    rcases hd1 with ⟨_, h⟩ | ⟨elems, spare, rfl, h⟩
    · omega
    · have := sized_slice hsz2 (j := 1) (t := 24) (e := 5) rfl rfl Tryd.underlying24
      rw [bytesB] at this
      simp only [reachBytes] at this
      omega
  have hT := tabs hL
  refine (walk n0a n0b n0c v1 s1 W hs1 hin1 hT (tabsLt hT)).mono fun e W' ⟨he, bel⟩ => ?_
  subst he
  exact ⟨_, rfl, _, _, _, [], _, [], hW', trodAll_mk1 (shut_bool Tryd.underlying4 _), (trodAll_cons_mk (Below.trod laidOut (by kernel_rfl) (of_decide_eq_true (by kernel_rfl)) k0 bel lt0) (trodAll_cons_mk (Below.trod laidOut (by kernel_rfl) (of_decide_eq_true (by kernel_rfl)) k1 bel lt1) trodAll_mk0)), rfl, bel.frame _, fun h => by cases h⟩

theorem said : Rows.PortsCharsSaid :=
  OpenClaim.holds_of_cond 4 Tryd.f4 rfl rfl rfl rfl rfl rfl rfl ⟨rfl, rfl, rfl, rfl, rfl⟩ rfl rfl rfl rfl rfl (by kernel_rfl) Tryd.func4 (by kernel_rfl)
    (of_decide_eq_true (by kernel_rfl)) (by unfold Func.isWrapper; first | (rw [if_pos (by decide +kernel)]; kernel_rfl) | (rw [if_neg (by decide +kernel)]; exact ⟨rfl, rfl⟩))
    (fun os started H enc _ F => by rw [OpenClaim.pre_eq_preRow]; exact lifted os started H enc F)

theorem plain (f : FuncId) (fn : Func) (hf : Tryd.pinned.checked.prog.funcNamed "sextant/sextantlaw20.PortsChars" = some f) (hfn : Tryd.pinned.checked.prog.funcs[f]? = some fn) :
    false = Tryd.pinned.checked.prog.looks [] ∧ ∀ (j : Nat) t, fn.params[j]? = some t → Tryd.pinned.checked.prog.wantsStandIn t = false := by
  obtain rfl : f = 4 := Option.some.inj ((show Tryd.prog.funcNamed "sextant/sextantlaw20.PortsChars" = some 4 by kernel_rfl).symm.trans hf) |>.symm
  obtain rfl : fn = Tryd.f4 := (Option.some.inj (Tryd.func4.symm.trans hfn)).symm
  refine ⟨by kernel_rfl, fun j t ht => ?_⟩
  rw [Tryd.params4] at ht
  have hm : t ∈ [23, 24] := by simpa using Array.mem_of_getElem? ht
  have hall : ([23, 24].all fun u => !Tryd.prog.wantsStandIn u) = true := by kernel_rfl
  exact (show Tryd.prog.wantsStandIn t = false by simpa using List.all_eq_true.1 hall t hm)

theorem card : Rows.PortsCharsCardSaid :=
  Claim7.holds_tied_plain_at .later [] _ _ _ _ said (fun _ h => by cases h) (by kernel_rfl) (fun _ h => by cases h) portsChars_row_tie rfl ⟨rfl, rfl⟩ (by kernel_rfl) rfl plain (by kernel_rfl)
end Go.Proofs.YtdpbpkggbgfkgaaDoor.portsChars
