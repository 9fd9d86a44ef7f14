/-
  The walk of codec.Encode.
-/
import Derived.Test.YtdpbpkggbgfkgaaDoorCdEncSmall
import Derived.Test.YtdpbpkggbgfkgaaDoorCdUnitsA
import Derived.Outline
import Derived.Deep.DeepCutAuto
namespace Go.Proofs.YtdpbpkggbgfkgaaDoor
open Go.RowKit
set_option linter.unusedVariables false

theorem Cd.runes_at (T : ByteArray) (p : Nat) (h : p < T.size) : Ru.runes (T.data.toList.drop p) = ((Utf8.decode T p).1 : Int) :: Ru.runes (T.data.toList.drop (p + (Utf8.decode T p).2)) := by
  have hl : T.data.toList.length = T.size := by simp
  have hne : T.data.toList.drop p ≠ [] := by intro e; have := congrArg List.length e; rw [List.length_drop, hl] at this; simp at this; omega
  rw [Ru.runes_step _ hne, ← Ru.decode_drop, List.drop_drop]
theorem Cd.runes_end (T : ByteArray) (p : Nat) (h : ¬ p < T.size) : Ru.runes (T.data.toList.drop p) = [] := by
  have hl : T.data.toList.length = T.size := by simp
  rw [List.drop_eq_nil_of_le (by omega)]
  rfl
theorem Cd.stepB_good (c m : Int) (out : List UInt8) (x : Int) (h : Cd.okP c x = true) : Cd.stepB c m false out x = some (out ++ Cd.putL c x) := by
  unfold Cd.stepB
  rw [h]
  rfl
theorem Cd.stepB_bad0 (c : Int) (out : List UInt8) (x : Int) {bad : Bool} (h : (Cd.okP c x && !bad) = false) : Cd.stepB c 0 bad out x = none := by
  unfold Cd.stepB
  rw [h]
  rfl
theorem Cd.stepB_bad1 (out : List UInt8) (x : Int) {bad : Bool} (h : (Cd.okP 2 x && !bad) = false) : Cd.stepB 2 1 bad out x = some (out ++ [63]) := by
  unfold Cd.stepB
  rw [h]
  rfl
theorem Cd.stepB_bad2 (c : Int) (out : List UInt8) (x : Int) {bad : Bool} (h : (Cd.okP c x && !bad) = false) (hc : c ≠ 2) : Cd.stepB c 1 bad out x = some (out ++ Cd.putL c 65533) := by
  unfold Cd.stepB
  rw [h, if_neg hc]
  rfl
theorem Cd.stepB_bad3 (c : Int) (out : List UInt8) (x : Int) {bad : Bool} (h : (Cd.okP c x && !bad) = false) : Cd.stepB c 2 bad out x = some out := by
  unfold Cd.stepB
  rw [h]
  rfl
theorem Cd.coder_cells {w w' : World} {B B2 : Nat} {c l m : Int} (h : w.heap[B]? = some (.cells #[.int .i64 c, .int .i64 l, .int .i64 m] 23 (0, 0))) (hb : Below B2 w w') (hB : B < B2) :
    w'.cell? ⟨B, 0, none⟩ = some (.int .i64 c) ∧ w'.cell? ⟨B, 1, none⟩ = some (.int .i64 l) ∧ w'.cell? ⟨B, 2, none⟩ = some (.int .i64 m) := by
  have e := (hb.block _ hB).trans h
  simp only [World.cell?, e]
  exact ⟨rfl, rfl, rfl⟩
theorem Cd.decode_okR (s : ByteArray) (pos : Nat) (h : pos < s.size) : Ru.okR ((Utf8.decode s pos).1 : Int) := by
  have hl : s.data.toList.length = s.size := by simp
  have := Ru.decode_ok (s.data.toList.drop pos) (by intro e; have := congrArg List.length e; rw [List.length_drop, hl] at this; simp at this; omega)
  rw [← Ru.decode_drop] at this
  exact this

set_option maxHeartbeats 4000000 in
set_option maxRecDepth 1000000 in
theorem Cd.encode_good (s : ByteArray) (w : World) (c l m : Int) (hg : Cd.good c l m) (hs : s.size ≤ 65536) (hT : Lib.Utf8Tabs 0 1 w) (hTB : 0 < w.heap.size ∧ 1 < w.heap.size) (G : List UInt8 × Int × Int) (hG : Cd.encF c l m (Cd.utf8U s 0) [] = G) :
    Calls Tryd.prog 20 #[Cd.coder c l m, .string s] w fun x w' => ∃ v, x = .returned (.tuple #[v, .int .i64 G.2.1, .int .i64 G.2.2]) ∧ By.In w' v ⟨G.1.toArray⟩ ∧ Below w.heap.size w w' := by
  have KC := Lib.hid (fun w => Cd.checkN_any c l m s.size w)
  have hk : Cd.chkN c l m s.size = 0 := by unfold Cd.chkN; rw [if_pos hg, if_neg (by omega)]
  rw [hk] at KC
  have HT := Lib.hid hT; clear hT hk
  have HG := Lib.hid hG; clear hG
  unfold Cd.coder at *
  go_enter Tryd.func20, Tryd.ntmps20
  go_wp2_with fail
  refine (KC.out _).mono ?_; rintro x w1 ⟨rfl, hb⟩
  have hs1 := hb.size
  rw [show (w.alloc (Obj.cells #[.int .i64 c, .int .i64 l, .int .i64 m] 23)).heap.size = w.heap.size + 1 by simp] at hs1
  have hb0 : Below w.heap.size w w1 := ((Below.refl w.heap.size w).alloc (Nat.le_refl _) _).trans (hb.mono (by simp))
  have q1 : w1.heap[w.heap.size]? = some (.cells #[.int .i64 c, .int .i64 l, .int .i64 m] 23 (0, 0)) := by
    rw [hb.block _ (by simp)]
    exact heap_alloc_new _ _
  have Q1 := Lib.hid q1; clear q1
  have HB0 := Lib.hid hb0; clear hb0 hb KC
  go_wp2_with fail
  go_loopw [4] (fun v wr => ∃ (pos : Nat) (acc : List UInt8), wr.ownsRow w1.heap.size 5 1 v acc.length (By.bv acc) ∧ wr.heap[w1.heap.size]? = some (.stringIter s pos) ∧ Below w1.heap.size w1 wr ∧ Cd.encF c l m (Cd.utf8U s pos) acc = G ∧ acc.length ≤ 16 * pos ∧ pos ≤ s.size) (fun _ wr => s.size - wr.iterPos w1.heap.size)
  case atStart => exact ⟨0, [], World.ownsRow_nil _ _ _ _, World.iter_heap w1 s 0, (Below.refl _ w1).alloc (Nat.le_refl _) _, HG.out, by simp, Nat.zero_le _⟩
  case round =>
    obtain ⟨pos, acc, hown, hit, hbw, hacc, hal, hpl⟩ := hrel
    have hsz : w1.heap.size < wr.heap.size := (Array.getElem?_eq_some_iff.1 hit).1
    have HACC := Lib.hid hacc; clear hacc
    by_cases hp : pos < s.size
    · have hnx : ∀ ty, (Instr.next (.pointer (some ⟨w1.heap.size, 0, none⟩)) true ty).run Tryd.prog wr = _ := fun ty => Lib.run_next_any_at wr w1.heap.size s pos ty hit hp
      have hwd := Lib.decode_width_pos s pos hp
      have hd1 := decode_le s pos
      have hfit := Cd.decode_fits s pos hp
      have hown2 := Sl.own_iterAt hown hit (pos + (Utf8.decode s pos).2)
      have hit2 := Lib.iterAt_heap wr w1.heap.size s pos (pos + (Utf8.decode s pos).2) hit
      have hbw2 := Lib.below_iterAt hbw (k := w1.heap.size) (by omega) s (pos + (Utf8.decode s pos).2)
      have hsz2 : w1.heap.size < (wr.iterAt w1.heap.size s (pos + (Utf8.decode s pos).2)).heap.size := by rw [Lib.iterAt_size]; omega
      have hacc2 := HACC.out
      rw [Cd.utf8U_one s pos hp] at hacc2
      have hok := Cd.decode_okR s pos hp
      have hgo := Cd.decodeGo_at s pos hp
      have KD := fun w h => Tryd.utf8_DecodeRuneInString (s.extract pos s.size) w h
      rw [hgo] at KD
      have HITW := Lib.hid hit
      clear hgo hown hit hbw HACC
      generalize wr.iterAt w1.heap.size s (pos + (Utf8.decode s pos).2) = wi at *
      generalize (Utf8.decode s pos).1 = R at *
      generalize (Utf8.decode s pos).2 = W at *
      have HACC := Lib.hid hacc2; clear hacc2
      have HOK := Lib.hid hok; clear hok
      have HOWN := Lib.hid hown2; clear hown2
      have HIT := Lib.hid hit2; clear hit2
      have HBW := Lib.hid hbw2; clear hbw2
      have KDR := Lib.hid KD; clear KD
      have hcf := Cd.coder_cells (Q1.out) HBW.out (by omega)
      have HCF := Lib.hid hcf; clear hcf
      go_upto_if 34 with (fail)
      go_cut [10] (fun t wx => t = .string ⟨(Cd.textU l R).toArray⟩ ∧ wx = wi)
      case first =>
        by_cases h10 : R = 10
        · have f1 := HCF.out.2.1
          have hb10 : ((R : Int) == 10) = true := by simp; omega
          have ET : Hid (Cd.textU l (R : Int) = Cd.eolB l) := by unfold Cd.textU; rw [if_pos (by omega)]; exact Lib.hid rfl
          clear h10
          go_wp2_with fail
          refine (Cd.eols_any l _).mono ?_; rintro x w3 ⟨rfl, rfl⟩
          go_wp2_with fail
          go_meet
          rw [ET.out]
          exact ⟨rfl, rfl⟩
        · have ET : Hid (Cd.textU l (R : Int) = Lib.encodeRune R) := by unfold Cd.textU; rw [if_neg (by omega)]; exact Lib.hid rfl
          have hb10 : ((R : Int) == 10) = false := by simp; omega
          clear h10
          go_wp2_with fail
          go_meet
          rw [ET.out, ← Sl.encode_eq]
          exact ⟨rfl, rfl⟩
      case rest =>
      obtain ⟨rfl, rfl⟩ := hcut
      go_wp2_with fail
      refine (KDR.out _ (Cd.tabs_below HT.out (HB0.out.trans (HBW.out.mono (by omega))) hTB.1 hTB.2)).mono ?_; rintro x w3 ⟨rfl, hbd⟩
      have hown3 := Sl.own_below HOWN.out hbd (Nat.le_refl _)
      have hit3 := (hbd.block _ (by omega)).trans HIT.out
      have hbw3 := HBW.out.trans (hbd.mono (by omega))
      have hsz3 : w1.heap.size < w3.heap.size := by have := hbd.size; omega
      have hcf3 := Cd.coder_cells (Q1.out) hbw3 (by omega)
      clear HOWN HIT HBW HCF KDR hbd hsz2 hnx
      have HOWN := Lib.hid hown3; clear hown3
      have HIT := Lib.hid hit3; clear hit3
      have HBW := Lib.hid hbw3; clear hbw3
      have HCF := Lib.hid hcf3; clear hcf3
      go_upto_region 11 with fail
      go_cut [13] (fun vb wx => vb = .bool (!decide (R ≠ 65533 ∨ 1 < W)) ∧ wx = w3)
      case first =>
        rcases (show (R ≠ 65533) ∨ (R = 65533 ∧ W = 1) ∨ (R = 65533 ∧ 1 < W) by omega) with h1 | ⟨h1, h2⟩ | ⟨h1, h2⟩
        · have hb1 : ((R : Int) == 65533) = false := by simp; omega
          have hf : Hid ((!decide (R ≠ 65533 ∨ 1 < W)) = false) := by rw [decide_eq_true (.inl h1)]; exact Lib.hid rfl
          clear h1
          go_wp2_with fail
          go_meet
          rw [hf.out]
          exact ⟨rfl, rfl⟩
        · have hb1 : ((R : Int) == 65533) = true := by simp; omega
          have hb2 : ((W : Int) == 1) = true := by simp; omega
          have hf : Hid ((!decide (R ≠ 65533 ∨ 1 < W)) = true) := by rw [decide_eq_false (by omega)]; exact Lib.hid rfl
          clear h1 h2
          go_wp2_with fail
          go_meet
          rw [hf.out]
          exact ⟨rfl, rfl⟩
        · have hb1 : ((R : Int) == 65533) = true := by simp; omega
          have hb2 : ((W : Int) == 1) = false := by simp; omega
          have hf : Hid ((!decide (R ≠ 65533 ∨ 1 < W)) = false) := by rw [decide_eq_true (.inr h2)]; exact Lib.hid rfl
          clear h1 h2
          go_wp2_with fail
          go_meet
          rw [hf.out]
          exact ⟨rfl, rfl⟩
      case rest =>
      obtain ⟨rfl, rfl⟩ := hcut
      have hbad : decide (R ≠ 65533 ∨ 1 < W) = false → R = 65533 := by
        intro h
        have := of_decide_eq_false h
        omega
      have HBAD := Lib.hid hbad; clear hbad
      generalize decide (R ≠ 65533 ∨ 1 < W) = ok at *
      have hru := Cd.textU_runes l R HOK.out
      have htl := Cd.textU_len l R
      have hbr : ok = false → Cd.charsU l R = [65533] := fun h => by
        have := HBAD.out h
        unfold Cd.charsU
        rw [this, if_neg (by omega)]
        rfl
      have HBR := Lib.hid hbr; clear hbr
      obtain ⟨RES, hres⟩ : ∃ RES, Cd.stepsB c m (!ok) (Cd.charsU l R) acc = RES := ⟨_, rfl⟩
      have HRES := Lib.hid hres; clear hres
      generalize hbd : (!ok) = bd at *
      have HBD := Lib.hid hbd; clear hbd
      have htz : (⟨(Cd.textU l (R : Int)).toArray⟩ : ByteArray).size = (Cd.textU l (R : Int)).length := by show (List.toArray _).size = _; simp
      have htd : (⟨(Cd.textU l (R : Int)).toArray⟩ : ByteArray).data.toList = Cd.textU l (R : Int) := by simp
      have HRU : Hid (Ru.runes (⟨(Cd.textU l (R : Int)).toArray⟩ : ByteArray).data.toList = Cd.charsU l R) := Lib.hid (by rw [htd]; exact hru)
      have hTl : (⟨(Cd.textU l (R : Int)).toArray⟩ : ByteArray).size ≤ 4 := by rw [htz]; exact htl.2
      clear htz htd hru htl
      generalize (⟨(Cd.textU l (R : Int)).toArray⟩ : ByteArray) = T at *
      have hal4 : acc.length ≤ 16 * 65536 := by omega
      go_wp2_with fail
      go_loopw [4] (fun v wr => ∃ (p2 : Nat) (ac : List UInt8), wr.ownsRow w1.heap.size 5 1 v ac.length (By.bv ac) ∧ wr.heap[wc.heap.size]? = some (.stringIter T p2) ∧ wr.heap[w1.heap.size]? = some (.stringIter s (pos + W)) ∧ Below w1.heap.size w1 wr ∧ Cd.stepsB c m bd (Ru.runes (T.data.toList.drop p2)) ac = RES ∧ ac.length ≤ acc.length + 4 * p2 ∧ p2 ≤ T.size ∧ (bd = true → ∀ x ∈ Ru.runes (T.data.toList.drop p2), x = 65533)) (fun _ wr => T.size - wr.iterPos wc.heap.size)
      case atStart =>
        refine ⟨0, acc, HOWN.out.alloc _, World.iter_heap wc T 0, (Lib.alloc_old _ _ _ hsz3).trans HIT.out, HBW.out.alloc (by omega) _, ?_, by omega, Nat.zero_le _, ?_⟩
        · rw [List.drop_zero, HRU.out]
          exact HRES.out
        · intro h x hx
          rw [List.drop_zero, HRU.out, HBR.out (by have := HBD.out; rw [h] at this; simpa using this)] at hx
          simpa using hx
      case round =>
        obtain ⟨p2, ac, hownr, hitr, hito, hbwr, hrun, hacl, hp2l, hall⟩ := hrel
        have hszr : wc.heap.size < wr.heap.size := (Array.getElem?_eq_some_iff.1 hitr).1
        by_cases hp2 : p2 < T.size
        · have hnx2 : ∀ ty, (Instr.next (.pointer (some ⟨wc.heap.size, 0, none⟩)) true ty).run Tryd.prog wr = _ := fun ty => Lib.run_next_any_at wr wc.heap.size T p2 ty hitr hp2
          have hwd2 := Lib.decode_width_pos T p2 hp2
          have hfit2 := Cd.decode_fits T p2 hp2
          have hownj := Sl.own_iterAt hownr hitr (p2 + (Utf8.decode T p2).2)
          have hitj := Lib.iterAt_heap wr wc.heap.size T p2 (p2 + (Utf8.decode T p2).2) hitr
          have hbwj := Lib.below_iterAt hbwr (k := wc.heap.size) (by omega) T (p2 + (Utf8.decode T p2).2)
          have hitoj := (Lib.iterAt_other wr wc.heap.size w1.heap.size T (p2 + (Utf8.decode T p2).2) (by omega)).trans hito
          have hszj : wc.heap.size < (wr.iterAt wc.heap.size T (p2 + (Utf8.decode T p2).2)).heap.size := by rw [Lib.iterAt_size]; omega
          have hx2 := Cd.decode_okR T p2 hp2
          have hX0 : 0 ≤ ((Utf8.decode T p2).1 : Int) ∧ ((Utf8.decode T p2).1 : Int) ≤ 1114111 := by unfold Ru.okR at hx2; omega
          have hra := Cd.runes_at T p2 hp2
          rw [hra] at hrun hall
          have HITR := Lib.hid hitr
          clear hra hx2 hownr hitr hito hbwr
          generalize wr.iterAt wc.heap.size T (p2 + (Utf8.decode T p2).2) = wj at *
          generalize (Utf8.decode T p2).1 = X at *
          generalize (Utf8.decode T p2).2 = W2 at *
          obtain ⟨f0, _, f2⟩ := Cd.coder_cells (Q1.out) hbwj (by omega)
          have HRUN := Lib.hid hrun; clear hrun
          have HALL := Lib.hid hall; clear hall
          have HOWNJ := Lib.hid hownj; clear hownj
          have HITJ := Lib.hid hitj; clear hitj
          have HITOJ := Lib.hid hitoj; clear hitoj
          have HBWJ := Lib.hid hbwj; clear hbwj
          cases bd with
          | false =>
            by_cases hgood : c ≠ 2 ∨ (X : Int) < 256
            · have hokp : Cd.okP c (X : Int) = true := decide_eq_true hgood
              have hc2 : c = 2 → (X : Int) < 256 := fun h => hgood.resolve_left (fun hh => hh h)
              clear hgood
              have hst := Cd.stepB_good c m ac (X : Int) hokp
              have HSTEP := Lib.hid (Cd.stepsB_step HRUN.out hst)
              have hpl2 := Cd.putL_len c X
              clear hst
              have c2 : c = 2 → (X : Int) < 256 := hc2
              have HC2 := Lib.hid c2; clear c2 hc2 hokp
              go_wp2_with fail
              refine (Cd.put_new w1.heap.size _ ac.length (By.bv ac) c X ⟨hg.1, hg.2.1⟩ (by omega) (by omega) HC2.out wj HOWNJ.out (by omega) (by omega)).mono ?_
              rintro x w5 ⟨v1, rfl, ho, hgr⟩
              have H1 := Lib.hid (Sl.iter_grown HOWNJ.out hgr HITJ.out)
              have H2 := Lib.hid (Sl.iter_grown HOWNJ.out hgr HITOJ.out)
              have H3 := Lib.hid (Sl.below_own HBWJ.out HOWNJ.out hgr (Nat.le_refl _) (by omega))
              rw [← By.bv_append, ← List.length_append] at ho
              have HO := Lib.hid ho
              clear ho hgr f0 f2
              go_wp2
              go_roundw
              case rel =>
                refine ⟨p2 + W2, ac ++ Cd.putL c X, HO.out, H1.out, H2.out, H3.out, HSTEP.out, by (rw [List.length_append]; omega), by omega, fun h x hx => HALL.out h x (List.mem_cons_of_mem _ hx)⟩
              case measure =>
                simp only [World.iterPos, H1.out, HITR.out]
                omega
            · obtain rfl : c = 2 := by omega
              have HBB : Hid ((Cd.okP 2 (X : Int) && !false) = false) := by unfold Cd.okP; rw [decide_eq_false hgood]; exact Lib.hid rfl
              have HOKP : Hid (Cd.okP 2 (X : Int) = false) := Lib.hid (decide_eq_false hgood)
              have HK1 : Hid ((2 : Int) = 1 → (X : Int) = 65533) := Lib.hid (fun h => absurd h (by decide))
              clear hgood
              go_wp2_with fail
              refine (Cd.put_keep w1.heap.size _ ac.length (By.bv ac) 2 X ⟨hg.1, hg.2.1⟩ (by omega) (by omega) HK1.out wj HOWNJ.out (by omega) (by omega)).mono ?_
              rintro x w5 ⟨v1, rfl, ho, hgr⟩
              rw [HOKP.out]
              have H1 := Lib.hid (Sl.iter_grown HOWNJ.out hgr HITJ.out)
              have H2 := Lib.hid (Sl.iter_grown HOWNJ.out hgr HITOJ.out)
              have H3 := Lib.hid (Sl.below_own HBWJ.out HOWNJ.out hgr (Nat.le_refl _) (by omega))
              have HO := Lib.hid ho
              have hs5 := hgr.size
              clear ho hgr f0 f2
              obtain ⟨f0, _, f2⟩ := Cd.coder_cells (Q1.out) H3.out (by omega)
              rcases (show m = 0 ∨ m = 1 ∨ m = 2 by have := hg.2.2.2.2; omega) with rfl | rfl | rfl
              · have hst : Cd.stepB 2 0 false ac (X : Int) = none := Cd.stepB_bad0 2 ac (X : Int) HBB.out
                have hrn := Cd.stepsB_stop HRUN.out hst
                have hGe := Lib.hid (Cd.encF_stop HACC.out (by rw [HBD.out]; exact HRES.out.trans hrn))
                clear hst hrn
                go_wp2
                go_ret3
                refine ⟨.slice none 0 0, by rw [hGe.out]; rfl, by rw [hGe.out]; exact .inl ⟨rfl, rfl⟩, HB0.out.trans (H3.out.mono (by omega))⟩
              · have hst : Cd.stepB 2 1 false ac (X : Int) = some (ac ++ [63]) := Cd.stepB_bad1 ac (X : Int) HBB.out
                have HSTEP := Lib.hid (Cd.stepsB_step HRUN.out hst)
                clear hst
                obtain ⟨i0, hi, hz0, hz1, hz2⟩ := info_parts Cd.infoB8
                have ho := HO.out
                go_wp2_with (at_builtin; refine By.wpList_append_keep rfl _ _ 24 rfl w1.heap.size 5 i0 (.int .u8 0) Tryd.underlying24 hi hz0 hz1 hz2 rfl _ ac.length (By.bv ac) rfl (ho.alloc _) ⟨w5.heap.size, 0, none⟩ 1 1 [.int .u8 63] rfl rfl (Sl.one_new _ _ _) ?c2 ?c3 ?c4 ?c5 ?_)
                case c2 => first | rfl | (intro u hu; simp at hu; subst hu; rfl)
                case c3 => unfold maxLen; omega
                case c4 => omega
                case c5 => first | omega | (simp; omega)
                intro v6 w6 ho6 hgr6 _
                have hgr7 := Cd.grown_new hgr6
                have G1 := Lib.hid (Sl.iter_grown ho hgr7 H1.out)
                have G2 := Lib.hid (Sl.iter_grown ho hgr7 H2.out)
                have G3 := Lib.hid (Sl.below_own H3.out ho hgr7 (Nat.le_refl _) (by omega))
                rw [show ([Value.int .u8 63] : List Value) = By.bv [63] from rfl, ← By.bv_append, show ac.length + 1 = (ac ++ [63]).length by simp] at ho6
                have HO6 := Lib.hid ho6
                clear ho ho6 hgr6 hgr7 f0 f2
                go_wp2
                go_roundw
                case rel =>
                  refine ⟨p2 + W2, ac ++ [63], HO6.out, G1.out, G2.out, G3.out, HSTEP.out, by (rw [List.length_append]; show ac.length + 1 ≤ _; omega), by omega, fun h x hx => HALL.out h x (List.mem_cons_of_mem _ hx)⟩
                case measure =>
                  simp only [World.iterPos, G1.out, HITR.out]
                  omega
              · have hst : Cd.stepB 2 2 false ac (X : Int) = some ac := Cd.stepB_bad3 2 ac (X : Int) HBB.out
                have HSTEP := Lib.hid (Cd.stepsB_step HRUN.out hst)
                clear hst
                go_wp2
                go_roundw
                case rel =>
                  refine ⟨p2 + W2, ac, HO.out, H1.out, H2.out, H3.out, HSTEP.out, by omega, by omega, fun h x hx => HALL.out h x (List.mem_cons_of_mem _ hx)⟩
                case measure =>
                  simp only [World.iterPos, H1.out, HITR.out]
                  omega
          | true =>
            have hX := HALL.out rfl (X : Int) (by simp)
            by_cases hc2 : c = 2
            · subst hc2
              have HBB : Hid ((Cd.okP 2 (X : Int) && !true) = false) := Lib.hid (by simp)
              have HOKP : Hid (Cd.okP 2 (X : Int) = false) := Lib.hid (decide_eq_false (by omega))
              have HK1 : Hid ((2 : Int) = 1 → (X : Int) = 65533) := Lib.hid (fun h => absurd h (by decide))
              clear hX
              go_wp2_with fail
              refine (Cd.put_keep w1.heap.size _ ac.length (By.bv ac) 2 X ⟨hg.1, hg.2.1⟩ (by omega) (by omega) HK1.out wj HOWNJ.out (by omega) (by omega)).mono ?_
              rintro x w5 ⟨v1, rfl, ho, hgr⟩
              rw [HOKP.out]
              have H1 := Lib.hid (Sl.iter_grown HOWNJ.out hgr HITJ.out)
              have H2 := Lib.hid (Sl.iter_grown HOWNJ.out hgr HITOJ.out)
              have H3 := Lib.hid (Sl.below_own HBWJ.out HOWNJ.out hgr (Nat.le_refl _) (by omega))
              have HO := Lib.hid ho
              have hs5 := hgr.size
              clear ho hgr f0 f2
              obtain ⟨f0, _, f2⟩ := Cd.coder_cells (Q1.out) H3.out (by omega)
              rcases (show m = 0 ∨ m = 1 ∨ m = 2 by have := hg.2.2.2.2; omega) with rfl | rfl | rfl
              · have hst : Cd.stepB 2 0 true ac (X : Int) = none := Cd.stepB_bad0 2 ac (X : Int) HBB.out
                have hrn := Cd.stepsB_stop HRUN.out hst
                have hGe := Lib.hid (Cd.encF_stop HACC.out (by rw [HBD.out]; exact HRES.out.trans hrn))
                clear hst hrn
                go_wp2
                go_ret3
                refine ⟨.slice none 0 0, by rw [hGe.out]; rfl, by rw [hGe.out]; exact .inl ⟨rfl, rfl⟩, HB0.out.trans (H3.out.mono (by omega))⟩
              · have hst : Cd.stepB 2 1 true ac (X : Int) = some (ac ++ [63]) := Cd.stepB_bad1 ac (X : Int) HBB.out
                have HSTEP := Lib.hid (Cd.stepsB_step HRUN.out hst)
                clear hst
                obtain ⟨i0, hi, hz0, hz1, hz2⟩ := info_parts Cd.infoB8
                have ho := HO.out
                go_wp2_with (at_builtin; refine By.wpList_append_keep rfl _ _ 24 rfl w1.heap.size 5 i0 (.int .u8 0) Tryd.underlying24 hi hz0 hz1 hz2 rfl _ ac.length (By.bv ac) rfl (ho.alloc _) ⟨w5.heap.size, 0, none⟩ 1 1 [.int .u8 63] rfl rfl (Sl.one_new _ _ _) ?c2 ?c3 ?c4 ?c5 ?_)
                case c2 => first | rfl | (intro u hu; simp at hu; subst hu; rfl)
                case c3 => unfold maxLen; omega
                case c4 => omega
                case c5 => first | omega | (simp; omega)
                intro v6 w6 ho6 hgr6 _
                have hgr7 := Cd.grown_new hgr6
                have G1 := Lib.hid (Sl.iter_grown ho hgr7 H1.out)
                have G2 := Lib.hid (Sl.iter_grown ho hgr7 H2.out)
                have G3 := Lib.hid (Sl.below_own H3.out ho hgr7 (Nat.le_refl _) (by omega))
                rw [show ([Value.int .u8 63] : List Value) = By.bv [63] from rfl, ← By.bv_append, show ac.length + 1 = (ac ++ [63]).length by simp] at ho6
                have HO6 := Lib.hid ho6
                clear ho ho6 hgr6 hgr7 f0 f2
                go_wp2
                go_roundw
                case rel =>
                  refine ⟨p2 + W2, ac ++ [63], HO6.out, G1.out, G2.out, G3.out, HSTEP.out, by (rw [List.length_append]; show ac.length + 1 ≤ _; omega), by omega, fun h x hx => HALL.out h x (List.mem_cons_of_mem _ hx)⟩
                case measure =>
                  simp only [World.iterPos, G1.out, HITR.out]
                  omega
              · have hst : Cd.stepB 2 2 true ac (X : Int) = some ac := Cd.stepB_bad3 2 ac (X : Int) HBB.out
                have HSTEP := Lib.hid (Cd.stepsB_step HRUN.out hst)
                clear hst
                go_wp2
                go_roundw
                case rel =>
                  refine ⟨p2 + W2, ac, HO.out, H1.out, H2.out, H3.out, HSTEP.out, by omega, by omega, fun h x hx => HALL.out h x (List.mem_cons_of_mem _ hx)⟩
                case measure =>
                  simp only [World.iterPos, H1.out, HITR.out]
                  omega
            · have HBB : Hid ((Cd.okP c (X : Int) && !true) = false) := Lib.hid (by simp)
              have HOKP : Hid (Cd.okP c (X : Int) = true) := Lib.hid (decide_eq_true (.inl hc2))
              have HK1 : Hid (c = 1 → (X : Int) = 65533) := Lib.hid (fun _ => hX)
              have HCN : Hid (c ≠ 2) := Lib.hid hc2
              clear hX hc2
              go_wp2_with fail
              refine (Cd.put_keep w1.heap.size _ ac.length (By.bv ac) c X ⟨hg.1, hg.2.1⟩ (by omega) (by omega) HK1.out wj HOWNJ.out (by omega) (by omega)).mono ?_
              rintro x w5 ⟨v1, rfl, ho, hgr⟩
              rw [HOKP.out]
              have H1 := Lib.hid (Sl.iter_grown HOWNJ.out hgr HITJ.out)
              have H2 := Lib.hid (Sl.iter_grown HOWNJ.out hgr HITOJ.out)
              have H3 := Lib.hid (Sl.below_own HBWJ.out HOWNJ.out hgr (Nat.le_refl _) (by omega))
              have HO := Lib.hid ho
              have hs5 := hgr.size
              clear ho hgr f0 f2
              obtain ⟨f0, _, f2⟩ := Cd.coder_cells (Q1.out) H3.out (by omega)
              rcases (show m = 0 ∨ m = 1 ∨ m = 2 by have := hg.2.2.2.2; omega) with rfl | rfl | rfl
              · have hst : Cd.stepB c 0 true ac (X : Int) = none := Cd.stepB_bad0 c ac (X : Int) HBB.out
                have hrn := Cd.stepsB_stop HRUN.out hst
                have hGe := Lib.hid (Cd.encF_stop HACC.out (by rw [HBD.out]; exact HRES.out.trans hrn))
                clear hst hrn
                go_wp2
                go_ret3
                refine ⟨.slice none 0 0, by rw [hGe.out]; rfl, by rw [hGe.out]; exact .inl ⟨rfl, rfl⟩, HB0.out.trans (H3.out.mono (by omega))⟩
              · have hst : Cd.stepB c 1 true ac (X : Int) = some (ac ++ Cd.putL c 65533) := Cd.stepB_bad2 c ac (X : Int) HBB.out HCN.out
                have HSTEP := Lib.hid (Cd.stepsB_step HRUN.out hst)
                have hpl2 := Cd.putL_len c 65533
                clear hst
                have hcn2 : (c == 2) = false := by simp; exact HCN.out
                go_wp2_with fail
                refine (Cd.put_new w1.heap.size _ ac.length (By.bv ac) c 65533 ⟨hg.1, hg.2.1⟩ (by omega) (by omega) (fun h => absurd h HCN.out) w5 HO.out (by omega) (by omega)).mono ?_
                rintro x w6 ⟨v6, rfl, ho6, hgr6⟩
                have G1 := Lib.hid (Sl.iter_grown HO.out hgr6 H1.out)
                have G2 := Lib.hid (Sl.iter_grown HO.out hgr6 H2.out)
                have G3 := Lib.hid (Sl.below_own H3.out HO.out hgr6 (Nat.le_refl _) (by omega))
                rw [← By.bv_append, ← List.length_append] at ho6
                have HO6 := Lib.hid ho6
                clear ho6 hgr6 f0 f2
                go_wp2
                go_roundw
                case rel =>
                  refine ⟨p2 + W2, ac ++ Cd.putL c 65533, HO6.out, G1.out, G2.out, G3.out, HSTEP.out, by (rw [List.length_append]; omega), by omega, fun h x hx => HALL.out h x (List.mem_cons_of_mem _ hx)⟩
                case measure =>
                  simp only [World.iterPos, G1.out, HITR.out]
                  omega
              · have hst : Cd.stepB c 2 true ac (X : Int) = some ac := Cd.stepB_bad3 c ac (X : Int) HBB.out
                have HSTEP := Lib.hid (Cd.stepsB_step HRUN.out hst)
                clear hst
                go_wp2
                go_roundw
                case rel =>
                  refine ⟨p2 + W2, ac, HO.out, H1.out, H2.out, H3.out, HSTEP.out, by omega, by omega, fun h x hx => HALL.out h x (List.mem_cons_of_mem _ hx)⟩
                case measure =>
                  simp only [World.iterPos, H1.out, HITR.out]
                  omega
        · have hnx2 : ∀ ty, (Instr.next (.pointer (some ⟨wc.heap.size, 0, none⟩)) true ty).run Tryd.prog wr = _ := fun ty => Lib.run_next_end_at wr wc.heap.size T p2 ty hitr hp2
          rw [Cd.runes_end T p2 hp2] at hrun
          have hrun2 : some ac = RES := hrun
          have HSTEP := Lib.hid (Cd.encF_step HACC.out (by rw [HBD.out]; exact HRES.out.trans hrun2.symm))
          have HOWNR := Lib.hid hownr
          have HITO := Lib.hid hito
          have HBWR := Lib.hid hbwr
          clear hrun hrun2 hownr hito hbwr hall
          go_wp2
          go_roundw
          case rel => exact ⟨pos + W, ac, HOWNR.out, HITO.out, HBWR.out, HSTEP.out, by omega, by omega⟩
          case measure =>
            simp only [World.iterPos, HITO.out, HITW.out]
            omega
    · have hnx : ∀ ty, (Instr.next (.pointer (some ⟨w1.heap.size, 0, none⟩)) true ty).run Tryd.prog wr = _ := fun ty => Lib.run_next_end_at wr w1.heap.size s pos ty hit hp
      have hacc2 := HACC.out
      rw [Cd.utf8U_end s pos hp] at hacc2
      have hacc3 : (acc, 0, 0) = G := hacc2
      have HA := Lib.hid hacc3
      have HOWN := Lib.hid hown
      have HBW := Lib.hid hbw
      clear hacc2 hacc3 hown hbw
      go_wp2
      go_ret3
      rw [← HA.out]
      exact ⟨_, rfl, By.In.of_bv HOWN.out, HB0.out.trans (HBW.out.mono (by omega))⟩
end Go.Proofs.YtdpbpkggbgfkgaaDoor
