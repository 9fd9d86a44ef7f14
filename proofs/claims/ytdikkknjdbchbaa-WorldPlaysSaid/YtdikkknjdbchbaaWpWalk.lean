/-
  The law WorldPlays.
-/
import Derived.Test.YtdikkknjdbchbaaWpFirst
import Derived.Test.YtdikkknjdbchbaaWpSwitch
import Derived.Test.YtdikkknjdbchbaaWpTail
import Derived.Test.YtdikkknjdbchbaaWoAwake
import Derived.Deep.DeepCutAuto
namespace Go.Proofs.Ytdikkknjdbchbaa
open Go.RowKit
set_option linter.unusedVariables false
set_option linter.unusedSimpArgs false

set_option maxHeartbeats 8000000 in
set_option maxRecDepth 1000000 in
theorem Wp.walk (v : Value) (W : Wo.W) (ov : Value) (os : List Wp.O) (w : World) (hW : Wo.In w v W) (hf : Wo.Fit W) (ho : Wp.Ops w ov os) (hok : ∀ k, k < os.length → Wp.Ok (os.getD k Wp.o0)) (hlen : os.length ≤ 140737488355328) :
    Calls Try.prog 4 #[v, ov] w fun e w' => e = .returned (.bool true) ∧ Below w.heap.size w w' := by
  obtain ⟨fv, iv, ovv, rfl, hf', hi', ho'⟩ := id hW
  obtain ⟨ad0, cap0, rfl⟩ := hf'.slice
  obtain ⟨ad1, cap1, rfl⟩ := hi'.slice
  obtain ⟨ad2, cap2, rfl⟩ := ho'.slice
  obtain ⟨ado, capo, rfl, _⟩ := id ho
  have HW := Lib.hid hW
  have HF := Lib.hid hf
  have HO := Lib.hid ho
  have HOK := Lib.hid hok
  clear hW hf ho hok hf' hi' ho'
  obtain ⟨W2, hW2, q0, hsz, hb0⟩ := Wo.one w (.cells #[.slice ad0 W.1.length cap0, .slice ad1 W.2.1.size cap1, .slice ad2 W.2.2.size cap2] 26)
  have HB := Lib.hid (fun (w' : World) (hb : Below W2.heap.size W2 w') => hb0.trans (hb.mono (by omega : w.heap.size ≤ W2.heap.size)))
  have HIN := Lib.hid (fun (w' : World) (hb : Below W2.heap.size W2 w') => HW.out.below (HB.out _ hb) (Nat.le_refl _))
  have HQ := Lib.hid (fun (w' : World) (hb : Below W2.heap.size W2 w') => (Wo.row3 q0 hb (Nat.le_refl _)).2)
  clear q0 hb0 hsz
  go_enter Try.func4, Try.ntmps4
  go_wp2_with fail
  refine (Wo.awake_any _).mono ?_
  rintro y w1 ⟨rfl, hb1⟩
  have HB1 := Lib.hid hb1
  clear hb1 hW2
  go_wp2_with fail
  go_cut [5, 6] from 18 to 21 (fun s t wx => ∃ TA TB : Nat, s = .pointer (some ⟨TA, 0, none⟩) ∧ t = .pointer (some ⟨TB, 0, none⟩) ∧ TA ≠ TB ∧ w1.heap.size ≤ TA ∧ w1.heap.size ≤ TB ∧ Wp.Box wx TA W ∧ Wp.Box wx TB W ∧ Below w1.heap.size w1 wx)
  case first =>
    refine Wp.first HF HIN HQ HB1 (Lib.hid fun h1 h2 h3 h4 h5 h6 => ?_)
    dsimp only
    go_wp2_with fail
    go_meet
    exact ⟨_, _, rfl, rfl, h1, h2, h3, h4, h5, h6⟩
  case rest =>
    obtain ⟨TA, TB, rfl, rfl, hAB, hA1, hB1, hA, hB, hacc⟩ := hcut
    have HA := Lib.hid hA
    have HBB := Lib.hid hB
    have HACC := Lib.hid hacc
    have HWB := Lib.hid (fun (w' : World) (hb : Below w1.heap.size w1 w') => HB.out _ (Wo.belowT HB1.out hb))
    have HN : Hid (TA ≠ TB ∧ w1.heap.size ≤ TA ∧ w1.heap.size ≤ TB) := Lib.hid ⟨hAB, hA1, hB1⟩
    clear hA hB hacc hAB hA1 hB1 HQ HIN HW
    go_wp2_with fail
    go_loopw [7] (fun i wr => ∃ (k : Nat) (Wk : Wo.W), i = .int .i64 k ∧ k ≤ os.length ∧ Wo.Fit Wk ∧ Wp.Box wr TA Wk ∧ Wp.Box wr TB Wk ∧ Below w1.heap.size w1 wr) (fun i _ => os.length - (intOf i).toNat)
    case atStart => exact ⟨0, W, rfl, Nat.zero_le _, HF.out, HA.out, HBB.out, HACC.out⟩
    case round =>
      obtain ⟨k, Wk, rfl, hk, hfit, hA, hB, hbw⟩ := hrel
      obtain ⟨wo, hwo⟩ : ∃ z, z = wr := ⟨_, rfl⟩
      subst hwo
      have HFIT := Lib.hid hfit
      have HBW := Lib.hid hbw
      clear HA HBB HACC hfit hbw
      have HA := Lib.hid hA
      have HBB := Lib.hid hB
      clear hA hB
      by_cases hlt : k < os.length
      case neg =>
        have HE := Lib.hid (HWB.out _ HBW.out)
        have hnlt : decide ((k : Int) < (os.length : Int)) = false := decide_eq_false (by omega)
        go_wp2_with fail
        go_ret
        exact ⟨rfl, HE.out⟩
      case pos =>
      have hok := HOK.out k hlt
      unfold Wp.Ok at hok
      obtain ⟨b, off, da, dc, rfl, hcap, ⟨c0, c1, c2, c3⟩, hin⟩ := HO.out.at (HWB.out _ HBW.out) k hlt
      obtain ⟨o, ho⟩ : ∃ o, os.getD k Wp.o0 = o := ⟨_, rfl⟩
      rw [ho] at c0 c1 c2 c3 hin hok
      clear ho
      obtain ⟨kd, n, nm, d⟩ := o
      simp only at c0 c1 c2 c3 hin hok
      have HDI := Lib.hid hin
      have HOKK := Lib.hid hok
      clear hin hok
      obtain ⟨T8, hT8⟩ : ∃ T, wo.heap.size = T := ⟨_, rfl⟩
      obtain ⟨W8, hW8⟩ : ∃ W8, wo.alloc (.cells #[.int .i64 kd, .int .i64 n, .string nm, .slice da d.size dc] 42) = W8 := ⟨_, rfl⟩
      have q8 : W8.heap[T8]? = some (.cells #[.int .i64 kd, .int .i64 n, .string nm, .slice da d.size dc] 42 (0, 0)) := by rw [← hW8, ← hT8]; exact heap_alloc_new _ _
      have hb8 : Below wo.heap.size wo W8 := hW8 ▸ Wo.belowA (Below.refl _ _) _
      have HQ8 := Lib.hid q8
      have HDI8 := Lib.hid (HDI.out.below hb8 (Nat.le_refl _))
      have HB8 := Lib.hid hb8
      have HBW8 := Lib.hid (Wo.belowT HBW.out hb8)
      have HL8 : Hid (TA < T8 ∧ TB < T8) := Lib.hid ⟨hT8 ▸ HA.out.lt, hT8 ▸ HBB.out.lt⟩
      have HA8 := Lib.hid (HA.out.below hb8)
      have HBB8 := Lib.hid (HBB.out.below hb8)
      obtain ⟨a0, n0, e0, a1, n1, e1, a2, n2, e2, ⟨x0, x1, x2⟩, HO8⟩ := HA8.out.open
      clear q8 hb8
      go_wp2_with fail
      refine (Wo.CopyR_any Wk _ W8 HO8.out.1 HFIT.out).mono ?_
      rintro y w9 ⟨v9, rfl, hm9, hb9⟩
      have hi9 := hm9.in
      obtain ⟨f9, i9, o9, rfl, hf9, hi9', ho9⟩ := id hi9
      obtain ⟨fa, fc, rfl⟩ := hf9.slice
      obtain ⟨ia, ic, rfl⟩ := hi9'.slice
      obtain ⟨oa, oc, rfl⟩ := ho9.slice
      obtain ⟨T9, hT9⟩ : ∃ T, w9.heap.size = T := ⟨_, rfl⟩
      obtain ⟨W9, hW9⟩ : ∃ W9, w9.alloc (.cells #[.slice fa Wk.1.length fc, .slice ia Wk.2.1.size ic, .slice oa Wk.2.2.size oc] 26) = W9 := ⟨_, rfl⟩
      obtain ⟨T10, hT10⟩ : ∃ T, W9.heap.size = T := ⟨_, rfl⟩
      obtain ⟨W10, hW10⟩ : ∃ W10, W9.alloc (.cells #[.slice none 0 0, .slice none 0 0, .slice none 0 0] 26) = W10 := ⟨_, rfl⟩
      obtain ⟨T11, hT11⟩ : ∃ T, W10.heap.size = T := ⟨_, rfl⟩
      obtain ⟨W11, hW11⟩ : ∃ W11, W10.alloc (.cells #[.slice none 0 0, .slice none 0 0, .slice none 0 0] 26) = W11 := ⟨_, rfl⟩
      have hx9 : Below w9.heap.size w9 W9 := hW9 ▸ Wo.belowA (Below.refl _ _) _
      have hx10 : Below W9.heap.size W9 W10 := hW10 ▸ Wo.belowA (Below.refl _ _) _
      have hx11 : Below W10.heap.size W10 W11 := hW11 ▸ Wo.belowA (Below.refl _ _) _
      have hx8 := Wo.belowT (Wo.belowT (Wo.belowT hb9 hx9) hx10) hx11
      have H9 : Hid (Wp.Box W11 T9 Wk) := Lib.hid ((((hW9 ▸ hT9 ▸ Wp.Box.new hi9 : Wp.Box W9 T9 Wk)).below hx10).below hx11)
      have H10 : Hid (Wp.Box W11 T10 Wo.w0) := Lib.hid ((hW10 ▸ hT10 ▸ Wp.Box.new (Wo.In.w0 _) : Wp.Box W10 T10 Wo.w0).below hx11)
      have H11 : Hid (Wp.Box W11 T11 Wo.w0) := Lib.hid (hW11 ▸ hT11 ▸ Wp.Box.new (Wo.In.w0 _))
      have HA11 := Lib.hid (HA8.out.below hx8)
      have HB11 := Lib.hid (HBB8.out.below hx8)
      have q8 := (hx8.block T8 (Array.getElem?_eq_some_iff.1 HQ8.out).1).trans HQ8.out
      have HQ11 := Lib.hid q8
      have HD11 := Lib.hid (HDI8.out.below hx8 (Nat.le_refl _))
      have HW11 := Lib.hid (Wo.belowT HBW8.out hx8)
      have HL11 : Hid (TA < T8 ∧ TB < T8 ∧ T8 < T9 ∧ T9 < T10 ∧ T10 < T11) := Lib.hid ⟨HL8.out.1, HL8.out.2, by have h1 := (Array.getElem?_eq_some_iff.1 HQ8.out).1; have h2 := hb9.size; omega, by have h1 := (hW9 ▸ hT9 ▸ Wp.Box.new hi9 : Wp.Box W9 T9 Wk).lt; omega, by have h1 := (hW10 ▸ hT10 ▸ Wp.Box.new (Wo.In.w0 _) : Wp.Box W10 T10 Wo.w0).lt; omega⟩
      have q80 := Dt.cell_of q8 0
      clear hx9 hx10 hx11 hx8 hf9 hi9' ho9 hi9 hm9 hb9 q8 HDI8 HBW8 HA8 HBB8 HQ8 HL8 HB8 HO8 x0 x1 x2 c0 c1 c2 c3 HDI HA HBB
      go_upto_region 11 with (fail)
      go_cut [14, 15] (fun e f wx => wx = W11 ∧ e = .int .i64 0 ∧ f = .int .i64 0)
      case first =>
        go_wp2_with fail
        go_meet
        exact ⟨rfl, rfl, rfl⟩
      case rest =>
      obtain ⟨rfl, rfl, rfl⟩ := hcut
      have HLX : Hid (Wp.Apart w1 TA TB T8 T9 T10 T11) := Lib.hid ⟨HN.out.1, HN.out.2.1, HN.out.2.2, HL11.out⟩
      have HM : Hid (Wp.Mid w1 wc TA TB T8 T9 T10 T11 Wk Wo.w0 Wo.w0 #[.int .i64 kd, .int .i64 n, .string nm, .slice da d.size dc] (.slice da d.size dc) d (.slice none 0 0) ⟨#[]⟩) := Lib.hid ⟨HA11.out, HB11.out, H9.out, H10.out, H11.out, HQ11.out, HD11.out, .inl ⟨rfl, rfl⟩, HW11.out⟩
      clear HA11 HB11 H9 H10 H11 HQ11 HD11 HW11 HL11 q80 hT8 hW8 hT9 hW9 hT10 hW10 hT11 hW11
      go_step
      go_step
      go_cut [12, 13, 14, 15] (fun p q e f wx => ∃ (X : Wo.W) (P : ByteArray) (E : Int), e = .int .i64 E ∧ f = .int .i64 E ∧ Wo.Fit X ∧ P.size ≤ 9223372036854775806 ∧ Wp.Mid w1 wx TA TB T8 T9 T10 T11 Wk X X #[.int .i64 kd, .int .i64 n, .string nm, .slice da d.size dc] (.slice da d.size dc) d p P ∧ By.In wx q P)
      case first =>
        refine Wp.switch HLX HM HOKK (Lib.hid fun h => ?_)
        dsimp only
        go_wp2_with fail
        go_meet
        exact h
      case rest =>
      obtain ⟨X, P, E, rfl, rfl, hfx, hps, hm, hq⟩ := hcut
      go_step
      refine Wp.tail HLX HFIT hfx hps hm hq (Lib.hid fun h1 h2 h3 h4 => ?_)
      dsimp only
      go_wp2_with fail
      go_roundw
      case rel => exact ⟨k + 1, _, by first | rfl | go_num | (simp; try omega), by omega, h1, h2, h3, h4⟩
      case measure => simp [intOf]; omega
end Go.Proofs.Ytdikkknjdbchbaa
