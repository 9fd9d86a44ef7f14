/-
  sextantref07.Take of any world.
-/
import Derived.Test.YtdikkknjdbchbaaWoRefDelete
import Derived.Test.YtdikkknjdbchbaaWoTake
namespace Go.Proofs.Ytdikkknjdbchbaa
open Go.RowKit
set_option linter.unusedVariables false
set_option linter.unusedSimpArgs false

set_option maxHeartbeats 8000000 in
set_option maxRecDepth 1000000 in
theorem Wo.TakeR_any (W : Wo.W) (v : Value) (n : Int) (w : World) (h : Wo.In w v W) (hn63 : (Lit.int .i64 n).wf = true) : Calls Try.prog 17 #[v, .int .i64 n] w fun e w' => ∃ p v', e = .returned (.tuple #[p, v', .int .i64 (Wo.takeS W n).2.2]) ∧ By.In w' p (Wo.takeS W n).1 ∧ Wo.In w' v' (Wo.takeS W n).2.1 ∧ Below w.heap.size w w' := by
  have KS := fun w h => Wo.SoundR_any W v w h
  obtain ⟨fv, iv, ov, rfl, hf, hi, ho⟩ := id h
  have H := Lib.hid h
  clear h
  obtain ⟨ad, cap, rfl⟩ := hf.slice
  obtain ⟨ad1, cap1, rfl⟩ := hi.slice
  obtain ⟨ad2, cap2, rfl⟩ := ho.slice
  have HI0 := Lib.hid hi
  clear hf hi ho
  obtain ⟨W2, hW2, q0, q1, hsz, hb0⟩ := Wo.two w (.cells #[.slice ad W.1.length cap, .slice ad1 W.2.1.size cap1, .slice ad2 W.2.2.size cap2] 26) (.cells #[.slice none 0 0, .slice none 0 0, .slice none 0 0] 26)
  have HIN := Lib.hid (fun (w' : World) (hb : Below W2.heap.size W2 w') => (H.out.below hb0 (Nat.le_refl _)).below hb (Nat.le_refl _))
  have HII := Lib.hid (fun (w' : World) (hb : Below W2.heap.size W2 w') => (HI0.out.below hb0 (Nat.le_refl _)).below hb (Nat.le_refl _))
  have HQ := Lib.hid (fun (w' : World) (hb : Below W2.heap.size W2 w') => Wo.row3 q0 hb (Nat.le_refl _))
  have HR := Lib.hid (fun (w' : World) (hb : Below W2.heap.size W2 w') => (Wo.row3 q1 hb (Nat.le_refl _)).1)
  have HB := Lib.hid (fun (w' : World) (hb : Below W2.heap.size W2 w') => hb0.trans (hb.mono (by omega : w.heap.size ≤ W2.heap.size)))
  obtain ⟨_, e0, e1, e2⟩ := HQ.out W2 (Below.refl _ _)
  clear q0 q1 hb0
  cases hs : Wo.sound W with
  | false =>
    have hg : Wo.takeS W n = (⟨#[]⟩, Wo.w0, 2) := by simp [Wo.takeS, hs]
    simp only [hs] at KS
    rw [hg]
    go_enter Try.func17, Try.ntmps17
    go_wp2_with fail
    refine (KS _ (HIN.out _ (Below.refl _ _))).mono ?_
    rintro x w1 ⟨rfl, hb1⟩
    obtain ⟨X1, X2, X3, ⟨f0, z0, s0⟩, ⟨f1, z1, s1⟩, ⟨f2, z2, s2⟩, ⟨r0, r1, r2⟩, HOUT⟩ := Wo.put_none (HR.out _ hb1) (HB.out _ hb1) (by omega)
    clear hb1
    go_wp2_with fail
    refine bodyPost_ret (v := .tuple #[.slice none 0 0, .agg #[.slice none 0 0, .slice none 0 0, .slice none 0 0], .int .i64 2]) (by simp [results, Try.results17, go_sem, r0, r1, r2]) rfl ⟨_, _, rfl, .inl ⟨rfl, rfl⟩, HOUT.out.1, HOUT.out.2⟩
  | true =>
    have KC := fun w h => Wo.CopyR_any W (.agg #[.slice ad W.1.length cap, .slice ad1 W.2.1.size cap1, .slice ad2 W.2.2.size cap2]) w h (Wo.fit_of hs)
    have hbd := (Wo.sound_bd hs).2.1
    simp only [hs] at KS
    by_cases hneg : 0 ≤ n
    case neg =>
      have hg : Wo.takeS W n = (⟨#[]⟩, Wo.w0, 1) := by simp [Wo.takeS, hs, hneg]
      have hlt : n < 0 := by omega
      rw [hg]
      go_enter Try.func17, Try.ntmps17
      go_wp2_with fail
      refine (KS _ (HIN.out _ (Below.refl _ _))).mono ?_
      rintro x w1 ⟨rfl, hb1⟩
      obtain ⟨X1, X2, X3, ⟨f0, z0, s0⟩, ⟨f1, z1, s1⟩, ⟨f2, z2, s2⟩, ⟨r0, r1, r2⟩, HOUT⟩ := Wo.put_none (HR.out _ hb1) (HB.out _ hb1) (by omega)
      clear hb1
      go_wp2_with fail
      refine bodyPost_ret (v := .tuple #[.slice none 0 0, .agg #[.slice none 0 0, .slice none 0 0, .slice none 0 0], .int .i64 1]) (by simp [results, Try.results17, go_sem, r0, r1, r2]) rfl ⟨_, _, rfl, .inl ⟨rfl, rfl⟩, HOUT.out.1, HOUT.out.2⟩
    case pos =>
      obtain ⟨m, rfl⟩ := Int.eq_ofNat_of_zero_le hneg
      by_cases hle : m ≤ W.2.1.size
      case neg =>
        have hg : Wo.takeS W m = (⟨#[]⟩, Wo.w0, 11) := by simp [Wo.takeS, hs]; omega
        have hnlt : ¬ (m : Int) < 0 := by omega
        have hgt : (m : Int) > (W.2.1.size : Int) := by omega
        rw [hg]
        go_enter Try.func17, Try.ntmps17
        go_wp2_with fail
        refine (KS _ (HIN.out _ (Below.refl _ _))).mono ?_
        rintro x w1 ⟨rfl, hb1⟩
        obtain ⟨_, c0, c1, c2⟩ := HQ.out _ hb1
        obtain ⟨X1, X2, X3, ⟨f0, z0, s0⟩, ⟨f1, z1, s1⟩, ⟨f2, z2, s2⟩, ⟨r0, r1, r2⟩, HOUT⟩ := Wo.put_none (HR.out _ hb1) (HB.out _ hb1) (by omega)
        clear hb1
        go_wp2_with fail
        refine bodyPost_ret (v := .tuple #[.slice none 0 0, .agg #[.slice none 0 0, .slice none 0 0, .slice none 0 0], .int .i64 11]) (by simp [results, Try.results17, go_sem, r0, r1, r2]) rfl ⟨_, _, rfl, .inl ⟨rfl, rfl⟩, HOUT.out.1, HOUT.out.2⟩
      case pos =>
        have hg : Wo.takeS W m = (Wo.bytesOf (W.2.1.data.toList.take m), (W.1, Wo.bytesOf (W.2.1.data.toList.drop m), W.2.2), 0) := by simp [Wo.takeS, hs]; omega
        have hngt : ¬ (m : Int) > (W.2.1.size : Int) := by omega
        have hle1 : (m : Int) ≤ (W.2.1.size : Int) := by omega
        have hcap1 : W.2.1.size ≤ cap1 := by
          rcases HI0.out with ⟨h1, h0⟩ | ⟨a, c, h1, h0⟩ | ⟨h0, b, off, c, h1, h2, _⟩
          · omega
          · omega
          · simp only [Value.slice.injEq] at h1
            omega
        have hlec : (m : Int) ≤ (cap1 : Int) := by omega
        rw [hg]
        obtain ⟨pre, hpre⟩ : ∃ s, Wo.bytesOf (W.2.1.data.toList.take m) = s := ⟨_, rfl⟩
        obtain ⟨suf, hsuf⟩ : ∃ s, Wo.bytesOf (W.2.1.data.toList.drop m) = s := ⟨_, rfl⟩
        have hprel : pre.size = m := by rw [← hpre, Wo.bytesOf_size, List.length_take, Wo.len_list]; omega
        have hsufl : suf.size = W.2.1.size - m := by rw [← hsuf, Wo.bytesOf_size, List.length_drop, Wo.len_list]
        obtain ⟨iy, hiy, hy0, hy1, hy2⟩ := info_parts Wo.infoByte
        have HIY := Lib.hid hiy
        clear hiy
        obtain ⟨A, hA⟩ : ∃ A, (if cap1 = m then ad1 else ad1.map (·.add (m * 1))) = A := ⟨_, rfl⟩
        have hsl : ∀ W' : World, (Instr.slice 22 (.slice ad1 W.2.1.size cap1) (some (.int .i64 (m : Int))) none none).run Try.prog W' = .ok (.slice A (W.2.1.size - m) (cap1 - m)) W' := by
          intro W'
          rw [run_slice_l (P := Try.prog) W' 22 ad1 W.2.1.size cap1 Try.underlying22 .i64 m (by omega) (by omega), ← hA]
          simp [sizeOf, sliced, go_sem]
          show (if cap1 = m then ad1 else Option.map (fun x => x.add (m * 1)) ad1) = _
          simp
        have HSU := Lib.hid (fun (w' : World) (h : By.In w' (.slice ad1 W.2.1.size cap1) W.2.1) => (show By.In w' (.slice A (W.2.1.size - m) (cap1 - m)) suf from hA ▸ hsuf ▸ h.dropA m hle))
        have HPR := Lib.hid (fun (w' : World) (h : By.In w' (.slice ad1 W.2.1.size cap1) W.2.1) => (show By.In w' (.slice ad1 m cap1) pre from hpre ▸ h.takeN m hle))
        have HPL := Lib.hid hprel
        have HSL := Lib.hid hsufl
        rw [hpre, hsuf]
        clear hpre hsuf hA hprel hsufl
        go_enter Try.func17, Try.ntmps17
        go_wp2_with fail
        refine (KS _ (HIN.out _ (Below.refl _ _))).mono ?_
        rintro x w1 ⟨rfl, hb1⟩
        obtain ⟨_, c0, c1, c2⟩ := HQ.out _ hb1
        have HB2 := Lib.hid hb1
        clear hb1
        go_wp2_with fail
        refine (KC _ (HIN.out _ HB2.out)).mono ?_
        rintro x w3 ⟨v3, rfl, hm, hb3⟩
        obtain ⟨fv3, iv3, ov3, g, rfl, ho3, hg3, hi3, hv3, _⟩ := hm
        have hb3 := HB2.out.trans (hb3.mono HB2.out.size)
        obtain ⟨af, cf, rfl⟩ := ho3.slice
        obtain ⟨ai, ci, rfl⟩ := hi3.1.slice
        obtain ⟨ao, co, rfl⟩ := hv3.1.slice
        obtain ⟨W4, hW4, t0, hs4, hb4⟩ := Wo.one w3 (.cells #[.slice af g.length cf, .slice ai W.2.1.size ci, .slice ao W.2.2.size co] 26)
        obtain ⟨T, hT⟩ : ∃ T, w3.heap.size = T := ⟨_, rfl⟩
        rw [hT] at t0 hs4
        have HO4 := Lib.hid (ho3.below hb4 (Nat.le_refl _))
        have HV4 := Lib.hid (hv3.below hb4 (Nat.le_refl _))
        have HB4 := Lib.hid (hb3.trans (hb4.mono hb3.size))
        have HT := Lib.hid t0
        have HG := Lib.hid hg3
        have HZ := Lib.hid (show W2.heap.size ≤ T from hT ▸ hb3.size)
        have hbA := Wo.belowA HB4.out (.cells #[] 5)
        have hA4 := (Below.refl W4.heap.size W4).alloc (Nat.le_refl _) (.cells #[] 5)
        have HA4 := Lib.hid hA4
        obtain ⟨_, d0, d1, d2⟩ := HQ.out _ hbA
        have HIS := Lib.hid (HSU.out _ (HII.out _ hbA))
        have HBA := Lib.hid hbA
        have hm47 : suf.size ≤ 140737488351232 := by have := HSL.out; omega
        clear t0 ho3 hi3 hv3 hb3 hb4 hg3 hs4 c0 c1 c2 hbA hA4
        go_wp2_with (at_builtin; refine Wo.wpList_append_fresh rfl _ _ 22 rfl iy (.int .u8 0) Try.underlying22 HIY.out hy0 hy1 hy2 rfl W4.heap.size rfl (Wo.new_at W4 _ _ rfl) _ suf rfl HIS.out hm47 ?_)
        intro v5 w5 hu5 hb5 _
        replace hb5 : Below (W4.alloc (.cells #[] 5)).heap.size (W4.alloc (.cells #[] 5)) w5 := by first | exact hb5 | (rw [Wo.szA]; exact hb5)
        obtain ⟨a5, c5, rfl⟩ := hu5.1.slice
        have HU5 := Lib.hid hu5
        have HB5 := Lib.hid (Wo.belowT HBA.out hb5)
        have hb45 : Below W4.heap.size W4 w5 := HA4.out.trans (hb5.mono HA4.out.size)
        obtain ⟨ht5, _⟩ := Wo.row3 HT.out hb45 (Nat.le_refl _)
        have HO5 := Lib.hid (HO4.out.below hb45 (Nat.le_refl _))
        have HV5 := Lib.hid (HV4.out.below hb45 (Nat.le_refl _))
        clear hb45
        obtain ⟨W6, hW6, p0, pf, ht6, ho6, hi6, hv6, hb6⟩ := Wo.readOn HO5.out ht5 HU5.out HV5.out HB5.out HZ.out
        have HT6 := Lib.hid ht6
        have HO6 := Lib.hid ho6
        have HI6 := Lib.hid hi6
        have HV6 := Lib.hid hv6
        have HB6 := Lib.hid hb6
        obtain ⟨_, l0, l1, l2⟩ := Wo.row3 HT6.out (Below.refl W6.heap.size W6) (Nat.le_refl _)
        obtain ⟨_, i0, i1, i2⟩ := HQ.out _ HB6.out
        clear hu5 hb5 ht5 ht6 ho6 hi6 hv6 hb6 d0 d1 d2 hsl
        have hle0 : (0 : Int) ≤ (m : Int) := by omega
        have hzr : w.heap.size + 1 < W2.heap.size := by omega
        have hpl47 : pre.size ≤ 140737488351232 := by have := HPL.out; omega
        have HKW := Lib.hid (fun (w' : World) (hb : Below W6.heap.size W6 w') => And.intro (HQ.out _ (Wo.belowT HB6.out hb)).2.2.1 (Wo.row3 HT6.out hb (Nat.le_refl _)).2)
        have hacc : Below W6.heap.size W6 W6 := Below.refl _ _
        clear l0 l1 l2 i0 i1 i2
        go_wp2_with fail
        go_region_held3 (fun w' => w'.cell? ⟨w.heap.size, 1, none⟩ = some (.slice ad1 W.2.1.size cap1) ∧ w'.cell? ⟨T, 0, none⟩ = some (.slice af g.length cf) ∧ w'.cell? ⟨T, 1, none⟩ = some (.slice a5 suf.size c5) ∧ w'.cell? ⟨T, 2, none⟩ = some (.slice ao W.2.2.size co))
          (first | with_reducible exact hkeep | exact hkeepX | (refine HKW.out _ ?_; repeat (first | with_reducible exact hacc | with_reducible refine Wo.belowA ?_ _ | with_reducible refine Wo.belowD ?_)))
          (first
            | (refine Wo.step_append_fresh (by rfl) _ _ _ (by rfl) iy (.int .u8 0) Try.underlying22 HIY.out hy0 hy1 hy2 (by rfl) W6.heap.size (by rfl) ?_ (.slice ad1 m cap1) pre (by rfl) ?_ hpl47 ?_
               · repeat (first | (with_reducible refine Wo.new_at _ _ _ ?_; first | with_reducible rfl | (simp only [Wo.szA, Wo.szD]; done)) | with_reducible refine Wo.old_at ?_ _ | with_reducible refine Wo.drew_at ?_)
               · exact HPR.out _ (HII.out _ (Wo.belowT HB6.out (Wo.belowA (Wo.belowD hacc) _)))
               intro v7 w7 hu7 hb7 _
               have hacc7 : Below W6.heap.size W6 w7 := Wo.belowT (Wo.belowA (Wo.belowD hacc) _) hb7
               have hb27 := Wo.belowT HB6.out hacc7
               obtain ⟨Y1, Y2, Y3, ⟨g0, k0, n0⟩, ⟨g1, k1, n1⟩, ⟨g2, k2, n2⟩, ⟨m0, m1, m2⟩, hY3, HOUY⟩ := Wo.put_made2 (W := (W.1, suf, W.2.2)) (HR.out _ hb27) (HO6.out.below hacc7 (Nat.le_refl _)) HG.out (HI6.out.below hacc7 (Nat.le_refl _)) (HV6.out.below hacc7 (Nat.le_refl _)) (HB.out _ hb27) (by omega)
               have hkeep := HKW.out _ hacc7
               have hkeepX := And.intro (Dt.cell_of ((HOUY.out.2.2.2.2 w.heap.size (by omega)).trans (HQ.out _ hb27).1) 1) (Wo.row3 ((HOUY.out.2.2.2.2 T (by have := HZ.out; omega)).trans (Wo.row3 HT6.out hacc7 (Nat.le_refl _)).1) (Below.refl Y3.heap.size Y3) (Nat.le_refl _)).2
               have HU7 := Lib.hid (HOUY.out.2.2.2.1 _ _ hu7)))
        have HOUZ := Lib.hid (And.intro HOUY.out.1 HOUY.out.2.1)
        clear hkeep hkeepX hacc7 hb27 hacc hu7 hb7 g0 k0 n0 g1 k1 n1 g2 k2 n2 HOUY hY3
        rw [HSL.out] at *
        go_wp2_with fail
        refine bodyPost_ret (v := .tuple #[v7, .agg #[.slice af g.length cf, .slice a5 (W.2.1.size - m) c5, .slice ao W.2.2.size co], .int .i64 0]) (by simp [results, Try.results17, go_sem, m0, m1, m2]) rfl ⟨_, _, rfl, HU7.out.1, HOUZ.out.1, HOUZ.out.2⟩
end Go.Proofs.Ytdikkknjdbchbaa
