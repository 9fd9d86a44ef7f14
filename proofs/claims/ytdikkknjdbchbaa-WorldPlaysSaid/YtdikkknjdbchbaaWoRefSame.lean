/-
  sextantref07.Same of two worlds that are the same.
-/
import Derived.Test.YtdikkknjdbchbaaWoRefDelete
import Derived.Test.YtdikkknjdbchbaaSame
namespace Go.Proofs.Ytdikkknjdbchbaa
open Go.RowKit
set_option linter.unusedVariables false
set_option linter.unusedSimpArgs false

set_option maxHeartbeats 8000000 in
set_option maxRecDepth 1000000 in
theorem Wo.SameR_any (W : Wo.W) (va vb : Value) (w : World) (ha : Wo.In w va W) (hb : Wo.In w vb W) (hs : Wo.Fit W) : Calls Try.prog 21 #[va, vb] w fun e w' => e = .returned (.bool true) ∧ Below w.heap.size w w' := by
  obtain ⟨b1, b2, b3, b4⟩ := hs
  obtain ⟨fv, iv, ov, rfl, hf, hi, ho⟩ := ha
  obtain ⟨fv', iv', ov', rfl, hf', hi', ho'⟩ := hb
  obtain ⟨fs, inp, out⟩ := W
  simp only at hf hi ho hf' hi' ho' b1 b2 b3 b4
  obtain ⟨ad, cap, rfl⟩ := hf.slice
  obtain ⟨ad1, cap1, rfl⟩ := hi.slice
  obtain ⟨ad2, cap2, rfl⟩ := ho.slice
  obtain ⟨ad', cap', rfl⟩ := hf'.slice
  obtain ⟨ad1', cap1', rfl⟩ := hi'.slice
  obtain ⟨ad2', cap2', rfl⟩ := ho'.slice
  have HF := Lib.hid hf
  have HI := Lib.hid hi
  have HO := Lib.hid ho
  have HF' := Lib.hid hf'
  have HI' := Lib.hid hi'
  have HO' := Lib.hid ho'
  clear hf hi ho hf' hi' ho'
  obtain ⟨W2, hW2, q0, q1, hsz, hb0⟩ := Wo.two w (.cells #[.slice ad fs.length cap, .slice ad1 inp.size cap1, .slice ad2 out.size cap2] 26) (.cells #[.slice ad' fs.length cap', .slice ad1' inp.size cap1', .slice ad2' out.size cap2'] 26)
  have HB := Lib.hid (fun (w' : World) (hb : Below W2.heap.size W2 w') => hb0.trans (hb.mono (by omega : w.heap.size ≤ W2.heap.size)))
  have HQ := Lib.hid (fun (w' : World) (hb : Below W2.heap.size W2 w') => (Wo.row3 q0 hb (Nat.le_refl _)).2)
  have HQ' := Lib.hid (fun (w' : World) (hb : Below W2.heap.size W2 w') => (Wo.row3 q1 hb (Nat.le_refl _)).2)
  have KS := fun s v v2 w h0 h1 h2 => By.same_any s v v2 w h0 h1 h2
  obtain ⟨e0, e1, e2⟩ := HQ.out W2 (Below.refl _ _)
  obtain ⟨f0, f1, f2⟩ := HQ'.out W2 (Below.refl _ _)
  have HI2 := Lib.hid (fun (w' : World) (hb : Below w.heap.size w w') => And.intro (HI.out.below hb (Nat.le_refl _)) (HI'.out.below hb (Nat.le_refl _)))
  have HO2 := Lib.hid (fun (w' : World) (hb : Below w.heap.size w w') => And.intro (HO.out.below hb (Nat.le_refl _)) (HO'.out.below hb (Nat.le_refl _)))
  clear q0 q1 hb0
  go_enter Try.func21, Try.ntmps21
  go_wp2_with fail
  refine (KS inp _ _ _ (by omega) (HI2.out _ (HB.out _ (Below.refl _ _))).1 (HI2.out _ (HB.out _ (Below.refl _ _))).2).mono ?_
  rintro x w1 ⟨rfl, hb1⟩
  obtain ⟨c0, c1, c2⟩ := HQ.out _ hb1
  obtain ⟨d0, d1, d2⟩ := HQ'.out _ hb1
  have HB1 := Lib.hid hb1
  clear hb1 e0 e1 e2 f0 f1 f2
  go_wp2_with fail
  refine (KS out _ _ _ (by omega) (HO2.out _ (HB.out _ HB1.out)).1 (HO2.out _ (HB.out _ HB1.out)).2).mono ?_
  rintro x w3 ⟨rfl, hb3⟩
  have hb3 := Wo.belowT HB1.out hb3
  have HB3 := Lib.hid hb3
  clear hb3 c0 c1 c2 d0 d1 d2 KS
  go_wp2_with fail
  go_loopw [5] (fun i wr => ∃ k : Nat, i = .int .i64 k ∧ k ≤ fs.length ∧ Below W2.heap.size W2 wr) (fun i _ => fs.length - (intOf i).toNat)
  case atStart => exact ⟨0, rfl, Nat.zero_le _, HB3.out⟩
  case round =>
    obtain ⟨k, rfl, hk, hbw⟩ := hrel
    obtain ⟨wo, hwo⟩ : ∃ z, z = wr := ⟨_, rfl⟩
    subst hwo
    have HBV := Lib.hid hbw
    obtain ⟨c0, _, _⟩ := HQ.out _ hbw
    obtain ⟨d0, _, _⟩ := HQ'.out _ hbw
    clear hbw
    by_cases hlt : k < fs.length
    · have hFa := fun (w' : World) (hb : Below wo.heap.size wo w') => HF.out.below (HB.out _ (Wo.belowT HBV.out hb)) (Nat.le_refl _)
      have hFb := fun (w' : World) (hb : Below wo.heap.size wo w') => HF'.out.below (HB.out _ (Wo.belowT HBV.out hb)) (Nat.le_refl _)
      obtain ⟨b, off, rfl, _, hcap, hbl, hcell⟩ := HF.out.at (by omega)
      obtain ⟨b', off', rfl, _, hcap', hbl', hcell'⟩ := HF'.out.at (by omega)
      obtain ⟨m0, da, dc, m1, hin⟩ := hcell k hlt
      obtain ⟨n0, da', dc', n1, hin'⟩ := hcell' k hlt
      have hbd := b4 k hlt
      clear hcell hcell' hFa hFb
      generalize fs.getD k Wo.e0 = d at *
      have HIN := Lib.hid (fun (w' : World) (hb : Below wo.heap.size wo w') => And.intro (hin.below (HB.out _ (Wo.belowT HBV.out hb)) (Nat.le_refl _)) (hin'.below (HB.out _ (Wo.belowT HBV.out hb)) (Nat.le_refl _)))
      have hK : ∀ w' : World, Below wo.heap.size wo w' → w'.cell? ⟨w.heap.size, 0, none⟩ = some (.slice (some ⟨b, off, none⟩) fs.length cap) ∧ w'.cell? ⟨w.heap.size + 1, 0, none⟩ = some (.slice (some ⟨b', off', none⟩) fs.length cap') ∧ w'.cell? ⟨b, off + k * 2, none⟩ = some (.string d.1) ∧ w'.cell? ⟨b, off + k * 2 + 1, none⟩ = some (.slice da d.2.size dc) ∧ w'.cell? ⟨b', off' + k * 2, none⟩ = some (.string d.1) ∧ w'.cell? ⟨b', off' + k * 2 + 1, none⟩ = some (.slice da' d.2.size dc') := fun w' hb =>
        ⟨(HQ.out w' (Wo.belowT HBV.out hb)).1, (HQ'.out w' (Wo.belowT HBV.out hb)).1,
          ((HB.out _ (Wo.belowT HBV.out hb)).cell (p := ⟨b, off + k * 2, none⟩) hbl).trans m0, ((HB.out _ (Wo.belowT HBV.out hb)).cell (p := ⟨b, off + k * 2 + 1, none⟩) hbl).trans m1,
          ((HB.out _ (Wo.belowT HBV.out hb)).cell (p := ⟨b', off' + k * 2, none⟩) hbl').trans n0, ((HB.out _ (Wo.belowT HBV.out hb)).cell (p := ⟨b', off' + k * 2 + 1, none⟩) hbl').trans n1⟩
      have HK := Lib.hid hK
      have hacc : Below wo.heap.size wo wo.drew := Wo.belowD (Below.refl _ _)
      have hkeep := HK.out _ hacc
      have KD := fun w h1 h2 => By.same_any d.2 (.slice da d.2.size dc) (.slice da' d.2.size dc') w (by omega) h1 h2
      clear hK m0 m1 n0 n1 hin hin' hbl hbl'
      go_wp2_with fail
      go_region_held3 (fun w' => w'.cell? ⟨w.heap.size, 0, none⟩ = some (.slice (some ⟨b, off, none⟩) fs.length cap) ∧ w'.cell? ⟨w.heap.size + 1, 0, none⟩ = some (.slice (some ⟨b', off', none⟩) fs.length cap') ∧ w'.cell? ⟨b, off + k * 2, none⟩ = some (.string d.1) ∧ w'.cell? ⟨b, off + k * 2 + 1, none⟩ = some (.slice da d.2.size dc) ∧ w'.cell? ⟨b', off' + k * 2, none⟩ = some (.string d.1) ∧ w'.cell? ⟨b', off' + k * 2 + 1, none⟩ = some (.slice da' d.2.size dc'))
        (exact hkeep)
        (first
          | (go_at_call 10
             refine (KD _ (HIN.out _ hacc).1 (HIN.out _ hacc).2).mono ?_
             rintro x w7 ⟨rfl, hb7⟩
             have hacc := Wo.belowT hacc hb7
             have hkeep := HK.out _ hacc))
      have HACC := Lib.hid (Wo.belowT HBV.out hacc)
      clear hkeep hacc hb7
      go_wp2_with fail
      go_roundw
      case rel => exact ⟨k + 1, by first | rfl | go_num | (simp; try omega), by omega, HACC.out⟩
      case measure => simp [intOf]; omega
    · have hnlt : decide ((k : Int) < (fs.length : Int)) = false := decide_eq_false (by omega)
      have HBE := Lib.hid (HB.out _ HBV.out)
      go_wp2_with fail
      go_ret
      exact ⟨rfl, HBE.out⟩
end Go.Proofs.Ytdikkknjdbchbaa
