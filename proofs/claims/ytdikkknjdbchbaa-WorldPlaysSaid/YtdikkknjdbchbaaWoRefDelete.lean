/-
  sextantref07.Delete of any world.
-/
import Derived.Test.YtdikkknjdbchbaaWoRefGet
import Derived.Test.YtdikkknjdbchbaaWoRefCopy
import Derived.Test.YtdikkknjdbchbaaWoDelete
namespace Go.Proofs.Ytdikkknjdbchbaa
open Go.RowKit
set_option linter.unusedVariables false
set_option linter.unusedSimpArgs false

theorem Wo.fit_of {W : Wo.W} (h : Wo.sound W = true) : Wo.Fit W := by
  obtain ⟨h1, h2, h3, h4⟩ := Wo.sound_bd h
  exact ⟨by omega, by omega, by omega, fun k hk => Nat.le_trans (h4 k hk) (by decide)⟩

set_option maxHeartbeats 4000000 in
set_option maxRecDepth 1000000 in
theorem Wo.DeleteR_any (W : Wo.W) (v : Value) (name : ByteArray) (w : World) (h : Wo.In w v W) : Calls Try.prog 15 #[v, .string name] w fun e w' => ∃ v', e = .returned (.tuple #[v', .int .i64 (Wo.delS W name).2]) ∧ Wo.In w' v' (Wo.delS W name).1 ∧ Below w.heap.size w w' := by
  have KS := fun w h => Wo.SoundR_any W v w h
  obtain ⟨fv, iv, ov, rfl, hf, hi, ho⟩ := id h
  have H := Lib.hid h
  clear h
  obtain ⟨ad, cap, rfl⟩ := hf.slice
  obtain ⟨ad1, cap1, rfl⟩ := hi.slice
  obtain ⟨ad2, cap2, rfl⟩ := ho.slice
  clear hf hi ho
  obtain ⟨W2, hW2, q0, q1, hsz, hb0⟩ := Wo.two w (.cells #[.slice ad W.1.length cap, .slice ad1 W.2.1.size cap1, .slice ad2 W.2.2.size cap2] 26) (.cells #[.slice none 0 0, .slice none 0 0, .slice none 0 0] 26)
  have HIN := Lib.hid (fun (w' : World) (hb : Below W2.heap.size W2 w') => (H.out.below hb0 (Nat.le_refl _)).below hb (Nat.le_refl _))
  have HQ := Lib.hid (fun (w' : World) (hb : Below W2.heap.size W2 w') => Wo.row3 q0 hb (Nat.le_refl _))
  have HR := Lib.hid (fun (w' : World) (hb : Below W2.heap.size W2 w') => (Wo.row3 q1 hb (Nat.le_refl _)).1)
  have HB := Lib.hid (fun (w' : World) (hb : Below W2.heap.size W2 w') => hb0.trans (hb.mono (by omega : w.heap.size ≤ W2.heap.size)))
  obtain ⟨_, e0, e1, e2⟩ := HQ.out W2 (Below.refl _ _)
  clear q0 q1 hb0
  cases hs : Wo.sound W with
  | false =>
    have hg : Wo.delS W name = (Wo.w0, 2) := by simp [Wo.delS, hs]
    simp only [hs] at KS
    rw [hg]
    go_enter Try.func15, Try.ntmps15
    go_wp2_with fail
    refine (KS _ (HIN.out _ (Below.refl _ _))).mono ?_
    rintro x w1 ⟨rfl, hb1⟩
    obtain ⟨X1, X2, X3, ⟨f0, z0, s0⟩, ⟨f1, z1, s1⟩, ⟨f2, z2, s2⟩, ⟨r0, r1, r2⟩, HOUT⟩ := Wo.put_none (HR.out _ hb1) (HB.out _ hb1) (by omega)
    clear hb1
    go_wp2_with fail
    refine bodyPost_ret (v := .tuple #[.agg #[.slice none 0 0, .slice none 0 0, .slice none 0 0], .int .i64 2]) (by simp [results, Try.results15, go_sem, r0, r1, r2]) rfl ⟨_, rfl, HOUT.out.1, HOUT.out.2⟩
  | true =>
    have KF := fun w h => Wo.findR_any W (.agg #[.slice ad W.1.length cap, .slice ad1 W.2.1.size cap1, .slice ad2 W.2.2.size cap2]) name w h (Nat.le_trans (Wo.sound_le hs) (by decide))
    rw [Wo.posI_of (Wo.rising_of hs)] at KF
    have hrise := Wo.rising_of hs
    simp only [hs] at KS
    cases hh : Wo.hit W.1 name (Wo.cut W.1 name) with
    | false =>
      have hg : Wo.delS W name = (Wo.w0, 7) := by simp [Wo.delS, hs, Wo.has, hh]
      simp only [hh, Bool.false_eq_true, if_false] at KF
      rw [hg]
      go_enter Try.func15, Try.ntmps15
      go_wp2_with fail
      refine (KS _ (HIN.out _ (Below.refl _ _))).mono ?_
      rintro x w1 ⟨rfl, hb1⟩
      obtain ⟨_, c0, c1, c2⟩ := HQ.out _ hb1
      go_wp2_with fail
      refine (KF _ (HIN.out _ hb1)).mono ?_
      rintro x w2 ⟨rfl, hb2⟩
      have hb2 := hb1.trans (hb2.mono hb1.size)
      obtain ⟨X1, X2, X3, ⟨f0, z0, s0⟩, ⟨f1, z1, s1⟩, ⟨f2, z2, s2⟩, ⟨r0, r1, r2⟩, HOUT⟩ := Wo.put_none (HR.out _ hb2) (HB.out _ hb2) (by omega)
      clear hb1 hb2 c0 c1 c2
      go_wp2_with fail
      refine bodyPost_ret (v := .tuple #[.agg #[.slice none 0 0, .slice none 0 0, .slice none 0 0], .int .i64 7]) (by simp [results, Try.results15, go_sem, r0, r1, r2]) rfl ⟨_, rfl, HOUT.out.1, HOUT.out.2⟩
    | true =>
      have KC := fun w h => Wo.CopyR_any W (.agg #[.slice ad W.1.length cap, .slice ad1 W.2.1.size cap1, .slice ad2 W.2.2.size cap2]) w h (Wo.fit_of hs)
      have hbd := Wo.sound_bd hs
      obtain ⟨k, hk⟩ : ∃ k, Wo.cut W.1 name = k := ⟨_, rfl⟩
      rw [hk] at hh KF
      have hg : Wo.delS W name = ((W.1.take k ++ W.1.drop (k + 1), W.2.1, W.2.2), 0) := by simp [Wo.delS, hs, Wo.has, hh, hk]
      have hkl : k < W.1.length := by
        unfold Wo.hit at hh
        simp only [Bool.and_eq_true, decide_eq_true_eq] at hh
        exact hh.1
      have hk64 : k < 64 := by have := hbd.1; omega
      have hkw : IntKind.i64.wrap ((k : Int) + 1) = (k : Int) + 1 := by rw [IntKind.wrap_i64]; omega
      simp only [hh, if_true] at KF
      rw [hg]
      have HFLT := Lib.hid (show W.1.filter (fun f => !Wo.is name f) = W.1.take k ++ W.1.drop (k + 1) by rw [(Wo.filt W.1 name hrise).1, Wo.behindR, hk, hh]; rfl)
      have hnk : ¬ ((k : Int) < 0) := by omega
      clear hg hbd hk hrise
      go_enter Try.func15, Try.ntmps15
      go_wp2_with fail
      refine (KS _ (HIN.out _ (Below.refl _ _))).mono ?_
      rintro x w1 ⟨rfl, hb1⟩
      obtain ⟨_, c0, c1, c2⟩ := HQ.out _ hb1
      go_wp2_with fail
      refine (KF _ (HIN.out _ hb1)).mono ?_
      rintro x w2 ⟨rfl, hb2⟩
      have hb2 := hb1.trans (hb2.mono hb1.size)
      obtain ⟨_, d0, d1, d2⟩ := HQ.out _ hb2
      clear c0 c1 c2 hb1
      have HB2 := Lib.hid hb2
      clear hb2
      go_wp2_with fail
      refine (KC _ (HIN.out _ HB2.out)).mono ?_
      rintro x w3 ⟨v3, rfl, hm, hb3⟩
      obtain ⟨fv3, iv3, ov3, g, rfl, ho3, hg3, hi3, hv3, _⟩ := hm
      have hb3 := HB2.out.trans (hb3.mono HB2.out.size)
      have HLG := Lib.hid (show g.length = W.1.length by rw [← hg3]; simp)
      obtain ⟨af, cf, rfl⟩ := ho3.slice
      obtain ⟨ai, ci, rfl⟩ := hi3.1.slice
      obtain ⟨ao, co, rfl⟩ := hv3.1.slice
      obtain ⟨W4, hW4, t0, hs4, hb4⟩ := Wo.one w3 (.cells #[.slice af g.length cf, .slice ai W.2.1.size ci, .slice ao W.2.2.size co] 26)
      obtain ⟨T, hT⟩ : ∃ T, w3.heap.size = T := ⟨_, rfl⟩
      rw [hT] at t0 hs4
      have u0 := Dt.cell_of t0 0
      have u1 := Dt.cell_of t0 1
      have u2 := Dt.cell_of t0 2
      have HO4 := Lib.hid (ho3.below hb4 (Nat.le_refl _))
      have HI4 := Lib.hid (hi3.below hb4 (Nat.le_refl _))
      have HV4 := Lib.hid (hv3.below hb4 (Nat.le_refl _))
      have HB4 := Lib.hid (hb3.trans (hb4.mono hb3.size))
      have HT := Lib.hid t0
      have HG := Lib.hid hg3
      have HZ := Lib.hid (show W2.heap.size ≤ T from hT ▸ hb3.size)
      clear t0 ho3 hi3 hv3 hb3 hb4 hg3 hs4 d0 d1 d2
      go_wp2_with fail
      refine (Wo.without_any g (.slice af g.length cf) name W4 HO4.out.row (by have := HLG.out; have := Wo.sound_le hs; omega)).mono ?_
      rintro x w5 ⟨v5, rfl, ho5, hbw5⟩
      have ht5 := (hbw5.block T (Array.getElem?_eq_some_iff.1 HT.out).1).trans HT.out
      have hb5 : Below W2.heap.size W2 w5 := Wo.belowT HB4.out hbw5
      have hi5 := HI4.out.below hbw5 (Nat.le_refl _)
      have hv5 := HV4.out.below hbw5 (Nat.le_refl _)
      obtain ⟨a5, c5, rfl⟩ := ho5.slice
      obtain ⟨n5, hn5⟩ : ∃ n, (g.filter fun x => !Wo.is name x.1).length = n := ⟨_, rfl⟩
      rw [hn5] at ho5
      have x0 := Dt.cell_of ht5 0
      have xf := Dt.frozen_of ht5 0
      obtain ⟨W6, hW6⟩ : ∃ W6, w5.setCell ⟨T, 0, none⟩ (.slice a5 n5 c5) = W6 := ⟨_, rfl⟩
      have ht6 : W6.heap[T]? = some (.cells #[.slice a5 n5 c5, (.slice ai W.2.1.size ci), (.slice ao W.2.2.size co)] 26 (0, 0)) := hW6 ▸ Dt.setCells ht5 0 _
      have hown6 : Wo.Own W6 W4.heap.size (.slice a5 n5 c5) (g.filter fun x => !Wo.is name x.1) := hW6 ▸ ho5.set (by decide) (by decide) ht5 _
      have hi6 : Wo.InU W6 (.slice ai W.2.1.size ci) W.2.1 := hW6 ▸ hi5.set (by decide) ht5 _
      have hv6 : Wo.InU W6 (.slice ao W.2.2.size co) W.2.2 := hW6 ▸ hv5.set (by decide) ht5 _
      have hb6 : Below W2.heap.size W2 W6 := hW6 ▸ hb5.setCell (p := ⟨T, 0, none⟩) HZ.out _
      have y0 := Dt.cell_of ht6 0
      have y1 := Dt.cell_of ht6 1
      have y2 := Dt.cell_of ht6 2
      have hgf : (g.filter fun x => !Wo.is name x.1).map (·.1) = W.1.take k ++ W.1.drop (k + 1) := by
        rw [← HFLT.out, ← HG.out, List.filter_map]
        rfl
      obtain ⟨X1, X2, X3, ⟨f0, z0, s0⟩, ⟨f1, z1, s1⟩, ⟨f2, z2, s2⟩, ⟨r0, r1, r2⟩, HOUT⟩ := Wo.put_made (W := (W.1.take k ++ W.1.drop (k + 1), W.2.1, W.2.2)) (HR.out _ hb6) hown6 hgf hi6 hv6 (HB.out _ hb6) (by omega)
      clear ht5 ht6 hown6 hi6 hv6 hb6 hb5 ho5 hbw5 hi5 hv5 hgf
      rw [hn5]
      go_wp2_with fail
      refine bodyPost_ret (v := .tuple #[.agg #[.slice a5 n5 c5, .slice ai W.2.1.size ci, .slice ao W.2.2.size co], .int .i64 0]) (by simp [results, Try.results15, go_sem, r0, r1, r2]) rfl ⟨_, rfl, HOUT.out.1, HOUT.out.2⟩
end Go.Proofs.Ytdikkknjdbchbaa
