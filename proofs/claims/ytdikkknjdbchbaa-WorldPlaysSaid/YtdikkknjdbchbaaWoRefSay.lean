/-
  sextantref07.Say of any world.
-/
import Derived.Test.YtdikkknjdbchbaaWoRefDelete
import Derived.Test.YtdikkknjdbchbaaWoSay
namespace Go.Proofs.Ytdikkknjdbchbaa
open Go.RowKit
set_option linter.unusedVariables false
set_option linter.unusedSimpArgs false

set_option maxHeartbeats 8000000 in
set_option maxRecDepth 1000000 in
theorem Wo.SayR_any (W : Wo.W) (v : Value) (d : ByteArray) (dv : Value) (w : World) (h : Wo.In w v W) (hd : By.In w dv d) (hd47 : d.size ≤ 140737488355328) : Calls Try.prog 19 #[v, dv] w fun e w' => ∃ v', e = .returned (.tuple #[v', .int .i64 (Wo.sayS W d).2]) ∧ Wo.In w' v' (Wo.sayS W d).1 ∧ Below w.heap.size w w' := by
  have KS := fun w h => Wo.SoundR_any W v w h
  obtain ⟨add, capd, rfl⟩ := hd.slice
  obtain ⟨fv, iv, ov, rfl, hf, hi, ho⟩ := id h
  have H := Lib.hid h
  have HD := Lib.hid hd
  clear h hd
  obtain ⟨ad, cap, rfl⟩ := hf.slice
  obtain ⟨ad1, cap1, rfl⟩ := hi.slice
  obtain ⟨ad2, cap2, rfl⟩ := ho.slice
  clear hf hi ho
  obtain ⟨i0, hi0, hz0, hz1, hz2⟩ := info_parts Wo.infoByte
  obtain ⟨W2, hW2, q0, q1, hsz, hb0⟩ := Wo.two w (.cells #[.slice ad W.1.length cap, .slice ad1 W.2.1.size cap1, .slice ad2 W.2.2.size cap2] 26) (.cells #[.slice none 0 0, .slice none 0 0, .slice none 0 0] 26)
  have HIN := Lib.hid (fun (w' : World) (hb : Below W2.heap.size W2 w') => (H.out.below hb0 (Nat.le_refl _)).below hb (Nat.le_refl _))
  have HDN := Lib.hid (fun (w' : World) (hb : Below W2.heap.size W2 w') => (HD.out.below hb0 (Nat.le_refl _)).below hb (Nat.le_refl _))
  have HQ := Lib.hid (fun (w' : World) (hb : Below W2.heap.size W2 w') => Wo.row3 q0 hb (Nat.le_refl _))
  have HR := Lib.hid (fun (w' : World) (hb : Below W2.heap.size W2 w') => (Wo.row3 q1 hb (Nat.le_refl _)).1)
  have HB := Lib.hid (fun (w' : World) (hb : Below W2.heap.size W2 w') => hb0.trans (hb.mono (by omega : w.heap.size ≤ W2.heap.size)))
  obtain ⟨_, e0, e1, e2⟩ := HQ.out W2 (Below.refl _ _)
  clear q0 q1 hb0
  cases hs : Wo.sound W with
  | false =>
    have hg : Wo.sayS W d = (Wo.w0, 2) := by simp [Wo.sayS, hs]
    simp only [hs] at KS
    rw [hg]
    go_enter Try.func19, Try.ntmps19
    go_wp2_with fail
    refine (KS _ (HIN.out _ (Below.refl _ _))).mono ?_
    rintro x w1 ⟨rfl, hb1⟩
    obtain ⟨X1, X2, X3, ⟨f0, z0, s0⟩, ⟨f1, z1, s1⟩, ⟨f2, z2, s2⟩, ⟨r0, r1, r2⟩, HOUT⟩ := Wo.put_none (HR.out _ hb1) (HB.out _ hb1) (by omega)
    clear hb1
    go_wp2_with fail
    refine bodyPost_ret (v := .tuple #[.agg #[.slice none 0 0, .slice none 0 0, .slice none 0 0], .int .i64 2]) (by simp [results, Try.results19, go_sem, r0, r1, r2]) rfl ⟨_, rfl, HOUT.out.1, HOUT.out.2⟩
  | true =>
    have KC := fun w h => Wo.CopyR_any W (.agg #[.slice ad W.1.length cap, .slice ad1 W.2.1.size cap1, .slice ad2 W.2.2.size cap2]) w h (Wo.fit_of hs)
    have hbd := (Wo.sound_bd hs).2.2.1
    have hwr : IntKind.i64.wrap ((W.2.2.size : Int) + (d.size : Int)) = (W.2.2.size : Int) + (d.size : Int) := by rw [IntKind.wrap_i64]; omega
    simp only [hs] at KS
    by_cases hle : d.size + W.2.2.size ≤ 65536
    case neg =>
      have hg : Wo.sayS W d = (Wo.w0, 4) := by simp [Wo.sayS, hs, hle]
      have hgt : (65536 : Int) < (W.2.2.size : Int) + (d.size : Int) := by omega
      have hs47 : (W.2.2.size : Int) ≤ 65536 := by omega
      rw [hg]
      go_enter Try.func19, Try.ntmps19
      go_wp2_with fail
      refine (KS _ (HIN.out _ (Below.refl _ _))).mono ?_
      rintro x w1 ⟨rfl, hb1⟩
      obtain ⟨_, c0, c1, c2⟩ := HQ.out _ hb1
      obtain ⟨X1, X2, X3, ⟨f0, z0, s0⟩, ⟨f1, z1, s1⟩, ⟨f2, z2, s2⟩, ⟨r0, r1, r2⟩, HOUT⟩ := Wo.put_none (HR.out _ hb1) (HB.out _ hb1) (by omega)
      clear hb1
      go_wp2_with fail
      refine bodyPost_ret (v := .tuple #[.agg #[.slice none 0 0, .slice none 0 0, .slice none 0 0], .int .i64 4]) (by simp [results, Try.results19, go_sem, r0, r1, r2]) rfl ⟨_, rfl, HOUT.out.1, HOUT.out.2⟩
    case pos =>
      have hg : Wo.sayS W d = ((W.1, W.2.1, Wo.bytesOf (W.2.2.data.toList ++ d.data.toList)), 0) := by simp [Wo.sayS, hs, hle]
      have hngt : ¬ (65536 : Int) < (W.2.2.size : Int) + (d.size : Int) := by omega
      have hs47 : (W.2.2.size : Int) ≤ 65536 := by omega
      rw [hg]
      obtain ⟨sn, hsn⟩ : ∃ s, Wo.bytesOf (W.2.2.data.toList ++ d.data.toList) = s := ⟨_, rfl⟩
      rw [hsn]
      have hsl : sn.size = W.2.2.size + d.size := by rw [← hsn, Wo.bytesOf_size, List.length_append, Wo.len_list, Wo.len_list]
      have hsv : By.vals W.2.2 ++ By.vals d = By.vals sn := by rw [Wo.bv_data, Wo.bv_data, Wo.bv_data, ← hsn, Wo.bytesOf_data, By.bv_append]
      have HSN := Lib.hid (And.intro hsl hsv)
      clear hsn hsl hsv
      go_enter Try.func19, Try.ntmps19
      go_wp2_with fail
      refine (KS _ (HIN.out _ (Below.refl _ _))).mono ?_
      rintro x w1 ⟨rfl, hb1⟩
      obtain ⟨_, c0, c1, c2⟩ := HQ.out _ hb1
      have HB2 := Lib.hid hb1
      clear hb1
      go_wp2_with fail
      refine (KC _ (HIN.out _ HB2.out)).mono ?_
      rintro x w3 ⟨v3, rfl, hm, hb3⟩
      obtain ⟨fv3, iv3, ov3, g, rfl, ho3, hg3, hi3, hv3, hge3, hap3, hapg3⟩ := hm
      have hb3 := HB2.out.trans (hb3.mono HB2.out.size)
      obtain ⟨af, cf, rfl⟩ := ho3.slice
      obtain ⟨ai, ci, rfl⟩ := hi3.1.slice
      obtain ⟨ao, co, rfl⟩ := hv3.1.slice
      obtain ⟨W4, hW4, t0, hs4, hb4⟩ := Wo.one w3 (.cells #[.slice af g.length cf, .slice ai W.2.1.size ci, .slice ao W.2.2.size co] 26)
      obtain ⟨T, hT⟩ : ∃ T, w3.heap.size = T := ⟨_, rfl⟩
      rw [hT] at t0 hs4
      have HO4 := Lib.hid (ho3.below hb4 (Nat.le_refl _))
      have HI4 := Lib.hid (hi3.below hb4 (Nat.le_refl _))
      have HV4 := Lib.hid (hv3.below hb4 (Nat.le_refl _))
      have HB4 := Lib.hid (hb3.trans (hb4.mono hb3.size))
      have HT := Lib.hid t0
      have HG := Lib.hid hg3
      have HGE := Lib.hid (hge3.mono HB2.out.size)
      have HAP := Lib.hid hap3
      have HAPG := Lib.hid hapg3
      have HZ := Lib.hid (show W2.heap.size ≤ T from hT ▸ hb3.size)
      obtain ⟨_, d0, d1, d2⟩ := Wo.row3 HT.out (Below.refl W4.heap.size W4) (Nat.le_refl _)
      have ho4own := HV4.out.own HGE.out
      clear t0 ho3 hi3 hv3 hge3 hap3 hapg3 hb3 hb4 hg3 hs4 c0 c1 c2
      have hinD := HDN.out _ HB4.out
      go_wp2_with (at_builtin; refine By.wpList_append_bytes rfl _ _ 22 rfl W2.heap.size 5 i0 (.int .u8 0) Try.underlying22 hi0 hz0 hz1 hz2 rfl _ W.2.2.size (By.vals W.2.2) rfl ho4own _ d rfl hinD ?c3 ?c4 ?c5 ?_)
      case c3 => unfold maxLen; omega
      case c4 => omega
      case c5 => exact HB4.out.size
      intro v5 w5 hown5 hgr5 _
      rw [HSN.out.2, ← HSN.out.1] at hown5
      have hu5 := Wo.InU.of_own hown5
      obtain ⟨a5, c5, rfl⟩ := hu5.1.slice
      have hT5 := HV4.out.grown_block hgr5 (by decide) HT.out
      have hO5 := HO4.out.apart (B2 := W2.heap.size) HV4.out hgr5 HAPG.out (Nat.le_trans HB2.out.size (Nat.le_refl _))
      have hI5 := HI4.out.apart hgr5 HAP.out
      have hB5 := HB4.out.grown hgr5 HB4.out.size HGE.out
      obtain ⟨W6, hW6, p0, pf, ht6, ho6, hi6, hv6, hb6⟩ := Wo.saidOn hO5 hT5 hI5 hu5 hB5 HZ.out
      obtain ⟨_, l0, l1, l2⟩ := Wo.row3 ht6 (Below.refl W6.heap.size W6) (Nat.le_refl _)
      obtain ⟨X1, X2, X3, ⟨f0, z0, s0⟩, ⟨f1, z1, s1⟩, ⟨f2, z2, s2⟩, ⟨r0, r1, r2⟩, HOUT⟩ := Wo.put_made (W := (W.1, W.2.1, sn)) (HR.out _ hb6) ho6 HG.out hi6 hv6 (HB.out _ hb6) (by omega)
      clear hown5 hgr5 hu5 hT5 hO5 hI5 hB5 ht6 ho6 hi6 hv6 hb6 d0 d1 d2 ho4own hinD
      go_wp2_with fail
      refine bodyPost_ret (v := .tuple #[.agg #[.slice af g.length cf, .slice ai W.2.1.size ci, .slice a5 sn.size c5], .int .i64 0]) (by simp [results, Try.results19, go_sem, r0, r1, r2]) rfl ⟨_, rfl, HOUT.out.1, HOUT.out.2⟩
end Go.Proofs.Ytdikkknjdbchbaa
