/-
  sextantref07.Get of any world.
-/
import Derived.Test.YtdikkknjdbchbaaWoRefLaw
import Derived.Test.YtdikkknjdbchbaaWoGet
import Derived.Test.YtdikkknjdbchbaaWoRefBase
namespace Go.Proofs.Ytdikkknjdbchbaa
open Go.RowKit
set_option linter.unusedVariables false
set_option linter.unusedSimpArgs false

set_option maxHeartbeats 4000000 in
set_option maxRecDepth 1000000 in
theorem Wo.GetR_any (W : Wo.W) (v : Value) (name : ByteArray) (w : World) (h : Wo.In w v W) : Calls Try.prog 20 #[v, .string name] w fun e w' => ∃ v', e = .returned (.tuple #[v', .int .i64 (Wo.getS W name).2]) ∧ Wo.InU w' v' (Wo.getS W name).1 ∧ Below w.heap.size w w' := by
  have KS := fun w h => Wo.SoundR_any W v w h
  obtain ⟨fv, iv, ov, rfl, hf, hi, ho⟩ := id h
  have H := Lib.hid h
  clear h
  obtain ⟨ad, cap, rfl⟩ := hf.slice
  obtain ⟨ad1, cap1, rfl⟩ := hi.slice
  obtain ⟨ad2, cap2, rfl⟩ := ho.slice
  have HF := Lib.hid hf
  clear hf hi ho
  obtain ⟨W2, hW2, q0, hsz, hb0⟩ := Wo.one w (.cells #[.slice ad W.1.length cap, .slice ad1 W.2.1.size cap1, .slice ad2 W.2.2.size cap2] 26)
  have HIN := Lib.hid (fun (w' : World) (hb : Below W2.heap.size W2 w') => (H.out.below hb0 (Nat.le_refl _)).below hb (Nat.le_refl _))
  have HFN := Lib.hid (fun (w' : World) (hb : Below W2.heap.size W2 w') => (HF.out.below hb0 (Nat.le_refl _)).below hb (Nat.le_refl _))
  have HQ := Lib.hid (fun (w' : World) (hb : Below W2.heap.size W2 w') => Wo.row3 q0 hb (Nat.le_refl _))
  have HB := Lib.hid (fun (w' : World) (hb : Below W2.heap.size W2 w') => hb0.trans (hb.mono (by omega : w.heap.size ≤ W2.heap.size)))
  obtain ⟨_, e0, e1, e2⟩ := HQ.out W2 (Below.refl _ _)
  clear q0 hb0
  cases hs : Wo.sound W with
  | false =>
    have hg : Wo.getS W name = (⟨#[]⟩, 2) := by simp [Wo.getS, hs]
    simp only [hs] at KS
    rw [hg]
    go_enter Try.func20, Try.ntmps20
    go_wp2_with fail
    refine (KS _ (HIN.out _ (Below.refl _ _))).mono ?_
    rintro x w1 ⟨rfl, hb1⟩
    have HB1 := Lib.hid (HB.out _ hb1)
    clear hb1
    go_wp2_with fail
    go_ret2
    exact ⟨_, rfl, Wo.InU.nil _, HB1.out⟩
  | true =>
    have KF := fun w h => Wo.findR_any W (.agg #[.slice ad W.1.length cap, .slice ad1 W.2.1.size cap1, .slice ad2 W.2.2.size cap2]) name w h (Nat.le_trans (Wo.sound_le hs) (by decide))
    rw [Wo.posI_of (Wo.rising_of hs)] at KF
    simp only [hs] at KS
    cases hh : Wo.hit W.1 name (Wo.cut W.1 name) with
    | false =>
      have hg : Wo.getS W name = (⟨#[]⟩, 7) := by simp [Wo.getS, hs, Wo.has, hh]
      simp only [hh, Bool.false_eq_true, if_false] at KF
      rw [hg]
      go_enter Try.func20, Try.ntmps20
      go_wp2_with fail
      refine (KS _ (HIN.out _ (Below.refl _ _))).mono ?_
      rintro x w1 ⟨rfl, hb1⟩
      obtain ⟨_, c0, c1, c2⟩ := HQ.out _ hb1
      go_wp2_with fail
      refine (KF _ (HIN.out _ hb1)).mono ?_
      rintro x w2 ⟨rfl, hb2⟩
      have HB1 := Lib.hid (HB.out _ (hb1.trans (hb2.mono hb1.size)))
      clear hb1 hb2
      go_wp2_with fail
      go_ret2
      exact ⟨_, rfl, Wo.InU.nil _, HB1.out⟩
    | true =>
      obtain ⟨k, hk⟩ : ∃ k, Wo.cut W.1 name = k := ⟨_, rfl⟩
      rw [hk] at hh KF
      have hg : Wo.getS W name = ((W.1.getD k Wo.e0).2, 0) := by simp [Wo.getS, hs, Wo.has, hh, hk]
      have hkl : k < W.1.length := by
        unfold Wo.hit at hh
        simp only [Bool.and_eq_true, decide_eq_true_eq] at hh
        exact hh.1
      have hdl := (Wo.sound_bd hs).2.2.2 k hkl
      simp only [hh, if_true] at KF
      rw [hg]
      obtain ⟨b, off, rfl, _, hcap, hbl, hcell⟩ := HF.out.at (by omega)
      clear hcell
      obtain ⟨d, hd⟩ : ∃ d, W.1.getD k Wo.e0 = d := ⟨_, rfl⟩
      rw [hd] at hdl ⊢
      obtain ⟨i1, hi1, hy0, hy1, hy2⟩ := info_parts Wo.infoByte
      go_enter Try.func20, Try.ntmps20
      go_wp2_with fail
      refine (KS _ (HIN.out _ (Below.refl _ _))).mono ?_
      rintro x w1 ⟨rfl, hb1⟩
      obtain ⟨_, c0, c1, c2⟩ := HQ.out _ hb1
      go_wp2_with fail
      refine (KF _ (HIN.out _ hb1)).mono ?_
      rintro x w2 ⟨rfl, hb2⟩
      have hb2 := hb1.trans (hb2.mono hb1.size)
      obtain ⟨_, d0, d1, d2⟩ := HQ.out _ hb2
      obtain ⟨b', off', he, _, _, _, hcell⟩ := (HFN.out _ hb2).at (by omega)
      simp only [Option.some.injEq, Addr.mk.injEq] at he
      obtain ⟨rfl, rfl, _⟩ := he
      obtain ⟨c3, da, dc, c4, hin⟩ := hcell k hkl
      rw [hd] at c3 c4 hin
      have HD := Lib.hid hin
      clear hcell hin hb1 c0 c1 c2 c3 c4
      have HB2 := Lib.hid hb2
      clear d0 d1 d2
      have hbA : ∀ o, Below W2.heap.size W2 (w2.alloc o) := fun o => Wo.belowA hb2 o
      have hA0 : ∀ o, Below w2.heap.size w2 (w2.alloc o) := fun o => (Below.refl _ _).alloc (Nat.le_refl _) o
      obtain ⟨_, d0, d1, d2⟩ := HQ.out _ (hbA (.cells #[] 5))
      obtain ⟨b', off', he, _, _, _, hcell⟩ := (HFN.out _ (hbA (.cells #[] 5))).at (by omega)
      simp only [Option.some.injEq, Addr.mk.injEq] at he
      obtain ⟨rfl, rfl, _⟩ := he
      obtain ⟨c3, da, dc, c4, hin⟩ := hcell k hkl
      rw [hd] at c3 c4 hin
      clear HD
      have HD := Lib.hid hin
      have HBA := Lib.hid (HB.out _ (hbA (.cells #[] 5)))
      have HI1 := Lib.hid hi1
      clear hcell hin hb2 HB2 hbA hA0 hi1
      go_wp2_with (at_builtin; refine Wo.wpList_append_fresh rfl _ _ 22 rfl i1 (.int .u8 0) Try.underlying22 HI1.out hy0 hy1 hy2 rfl w2.heap.size rfl (Wo.new_at w2 _ _ rfl) _ d.2 rfl HD.out (by omega) ?_)
      intro v3 w3 hu hb3 _
      have HU := Lib.hid hu
      have HB1 := Lib.hid (HBA.out.trans (hb3.mono (by have := HBA.out.size; simpa using this)))
      clear hu hb3
      go_wp2_with fail
      go_ret2
      exact ⟨_, rfl, HU.out, HB1.out⟩
end Go.Proofs.Ytdikkknjdbchbaa
