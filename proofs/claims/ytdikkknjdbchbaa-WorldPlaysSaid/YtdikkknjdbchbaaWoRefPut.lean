/-
  sextantref07.Put of any world.
-/
import Derived.Test.YtdikkknjdbchbaaWoRefLst
import Derived.Test.YtdikkknjdbchbaaWoPut
namespace Go.Proofs.Ytdikkknjdbchbaa
open Go.RowKit
set_option linter.unusedVariables false
set_option linter.unusedSimpArgs false

set_option maxHeartbeats 8000000 in
set_option maxRecDepth 1000000 in
theorem Wo.PutR_any (W : Wo.W) (v : Value) (name d : ByteArray) (dv : Value) (w : World) (h : Wo.In w v W) (hd : By.In w dv d) (hd47 : d.size ≤ 140737488355328) : Calls Try.prog 13 #[v, .string name, dv] w fun e w' => ∃ v', e = .returned (.tuple #[v', .int .i64 (Wo.putS W name d).2]) ∧ Wo.In w' v' (Wo.putS W name d).1 ∧ Below w.heap.size w w' := by
  have KS := fun w h => Wo.SoundR_any W v w h
  obtain ⟨add, capd, rfl⟩ := hd.slice
  obtain ⟨fv, iv, ov, rfl, hf, hi, ho⟩ := id h
  have H := Lib.hid h
  have HD := Lib.hid hd
  clear h hd
  obtain ⟨ad, cap, rfl⟩ := hf.slice
  obtain ⟨ad1, cap1, rfl⟩ := hi.slice
  obtain ⟨ad2, cap2, rfl⟩ := ho.slice
  clear hf hi ho
  obtain ⟨W2, hW2, q0, q1, hsz, hb0⟩ := Wo.two w (.cells #[.slice ad W.1.length cap, .slice ad1 W.2.1.size cap1, .slice ad2 W.2.2.size cap2] 26) (.cells #[.slice none 0 0, .slice none 0 0, .slice none 0 0] 26)
  have HIN := Lib.hid (fun (w' : World) (hb : Below W2.heap.size W2 w') => (H.out.below hb0 (Nat.le_refl _)).below hb (Nat.le_refl _))
  have HDN := Lib.hid (fun (w' : World) (hb : Below W2.heap.size W2 w') => (HD.out.below hb0 (Nat.le_refl _)).below hb (Nat.le_refl _))
  have HQ := Lib.hid (fun (w' : World) (hb : Below W2.heap.size W2 w') => Wo.row3 q0 hb (Nat.le_refl _))
  have HR := Lib.hid (fun (w' : World) (hb : Below W2.heap.size W2 w') => (Wo.row3 q1 hb (Nat.le_refl _)).1)
  have HB := Lib.hid (fun (w' : World) (hb : Below W2.heap.size W2 w') => hb0.trans (hb.mono (by omega : w.heap.size ≤ W2.heap.size)))
  obtain ⟨_, e0, e1, e2⟩ := HQ.out W2 (Below.refl _ _)
  clear q0 q1 hb0
  cases hs : Wo.sound W with
  | false =>
    have hg : Wo.putS W name d = (Wo.w0, 2) := by simp [Wo.putS, hs]
    simp only [hs] at KS
    rw [hg]
    go_enter Try.func13, Try.ntmps13
    go_wp2_with fail
    refine (KS _ (HIN.out _ (Below.refl _ _))).mono ?_
    rintro x w1 ⟨rfl, hb1⟩
    obtain ⟨X1, X2, X3, ⟨f0, z0, s0⟩, ⟨f1, z1, s1⟩, ⟨f2, z2, s2⟩, ⟨r0, r1, r2⟩, HOUT⟩ := Wo.put_none (HR.out _ hb1) (HB.out _ hb1) (by omega)
    clear hb1
    go_wp2_with fail
    refine bodyPost_ret (v := .tuple #[.agg #[.slice none 0 0, .slice none 0 0, .slice none 0 0], .int .i64 2]) (by simp [results, Try.results13, go_sem, r0, r1, r2]) rfl ⟨_, rfl, HOUT.out.1, HOUT.out.2⟩
  | true =>
    have KF := fun w h => Wo.findR_any W (.agg #[.slice ad W.1.length cap, .slice ad1 W.2.1.size cap1, .slice ad2 W.2.2.size cap2]) name w h (Nat.le_trans (Wo.sound_le hs) (by decide))
    have KN := fun w => Wo.namedR_any name w
    have KC := fun w h => Wo.CopyR_any W (.agg #[.slice ad W.1.length cap, .slice ad1 W.2.1.size cap1, .slice ad2 W.2.2.size cap2]) w h (Wo.fit_of hs)
    have hbd := (Wo.sound_bd hs).1
    have hrise := Wo.rising_of hs
    have hpos := Wo.posI_of (name := name) hrise
    simp only [hs] at KS
    have hput : Wo.putS W name d = if Wo.named name = true then (if d.size ≤ 65536 then (if Wo.has W name = true ∨ W.1.length < 64 then ((Wo.put1 W.1 name d, W.2.1, W.2.2), 0) else (Wo.w0, 9)) else (Wo.w0, 4)) else (Wo.w0, 1) := by
      simp [Wo.putS, hs]
    rw [hput]
    clear hput
    cases hn : Wo.named name with
    | false =>
      simp only [hn] at KN
      simp only [Bool.false_eq_true, if_false]
      go_enter Try.func13, Try.ntmps13
      go_wp2_with fail
      refine (KS _ (HIN.out _ (Below.refl _ _))).mono ?_
      rintro x w1 ⟨rfl, hb1⟩
      obtain ⟨_, c0, c1, c2⟩ := HQ.out _ hb1
      obtain ⟨X1, X2, X3, ⟨f0, z0, s0⟩, ⟨f1, z1, s1⟩, ⟨f2, z2, s2⟩, ⟨r0, r1, r2⟩, HOUT⟩ := Wo.put_none (HR.out _ hb1) (HB.out _ hb1) (by omega)
      go_wp2_with fail
      refine (KN _).mono ?_
      rintro x wn ⟨rfl, hwn⟩
      subst hwn
      clear hb1 c0 c1 c2
      go_wp2_with fail
      refine bodyPost_ret (v := .tuple #[.agg #[.slice none 0 0, .slice none 0 0, .slice none 0 0], .int .i64 1]) (by simp [results, Try.results13, go_sem, r0, r1, r2]) rfl ⟨_, rfl, HOUT.out.1, HOUT.out.2⟩
    | true =>
      simp only [hn] at KN
      simp only [if_true]
      by_cases hd64 : d.size ≤ 65536
      case neg =>
        rw [if_neg hd64]
        have hgt : (d.size : Int) > 65536 := by omega
        go_enter Try.func13, Try.ntmps13
        go_wp2_with fail
        refine (KS _ (HIN.out _ (Below.refl _ _))).mono ?_
        rintro x w1 ⟨rfl, hb1⟩
        obtain ⟨_, c0, c1, c2⟩ := HQ.out _ hb1
        obtain ⟨X1, X2, X3, ⟨f0, z0, s0⟩, ⟨f1, z1, s1⟩, ⟨f2, z2, s2⟩, ⟨r0, r1, r2⟩, HOUT⟩ := Wo.put_none (HR.out _ hb1) (HB.out _ hb1) (by omega)
        go_wp2_with fail
        refine (KN _).mono ?_
        rintro x wn ⟨rfl, hwn⟩
        subst hwn
        clear hb1 c0 c1 c2
        go_wp2_with fail
        refine bodyPost_ret (v := .tuple #[.agg #[.slice none 0 0, .slice none 0 0, .slice none 0 0], .int .i64 4]) (by simp [results, Try.results13, go_sem, r0, r1, r2]) rfl ⟨_, rfl, HOUT.out.1, HOUT.out.2⟩
      case pos =>
        rw [if_pos hd64]
        have hngt : ¬ (d.size : Int) > 65536 := by omega
        obtain ⟨z, hz⟩ : ∃ z, Wo.posI W.1 name = z := ⟨_, rfl⟩
        rw [hz] at hpos
        simp only [hz] at KF
        by_cases hfull : Wo.has W name = true ∨ W.1.length < 64
        case neg =>
          rw [if_neg hfull]
          have hz1 : z < 0 := by
            have hh : ¬ Wo.hit W.1 name (Wo.cut W.1 name) = true := fun h => hfull (.inl h)
            rw [if_neg hh] at hpos
            omega
          have hlen : (W.1.length : Int) = 64 := by have : ¬ W.1.length < 64 := fun h => hfull (.inr h); omega
          clear hfull hpos hz
          go_enter Try.func13, Try.ntmps13
          go_wp2_with fail
          refine (KS _ (HIN.out _ (Below.refl _ _))).mono ?_
          rintro x w1 ⟨rfl, hb1⟩
          obtain ⟨_, c0, c1, c2⟩ := HQ.out _ hb1
          go_wp2_with fail
          refine (KN _).mono ?_
          rintro x wn ⟨rfl, hwn⟩
          subst hwn
          go_wp2_with fail
          refine (KF _ (HIN.out _ hb1)).mono ?_
          rintro x w2 ⟨rfl, hb2⟩
          have hb2 := Wo.belowT hb1 hb2
          obtain ⟨_, d0, d1, d2⟩ := HQ.out _ hb2
          obtain ⟨X1, X2, X3, ⟨f0, z0, s0⟩, ⟨f1, z1, s1⟩, ⟨f2, z2, s2⟩, ⟨r0, r1, r2⟩, HOUT⟩ := Wo.put_none (HR.out _ hb2) (HB.out _ hb2) (by omega)
          clear hb1 hb2 c0 c1 c2
          go_wp2_with fail
          refine bodyPost_ret (v := .tuple #[.agg #[.slice none 0 0, .slice none 0 0, .slice none 0 0], .int .i64 9]) (by simp [results, Try.results13, go_sem, r0, r1, r2]) rfl ⟨_, rfl, HOUT.out.1, HOUT.out.2⟩
        case pos =>
          rw [if_pos hfull]
          have hzc : (¬ z < 0) ∨ (z < 0 ∧ ¬ (W.1.length : Int) = 64) := by
            rcases hfull with h | h
            · left
              have hh : Wo.hit W.1 name (Wo.cut W.1 name) = true := h
              rw [if_pos hh] at hpos
              omega
            · by_cases hz0 : z < 0
              · right; exact ⟨hz0, by omega⟩
              · left; exact hz0
          clear hfull hpos hz
          rcases hzc with hzn | ⟨hzn, hlen⟩
          all_goals
            obtain ⟨iy, hiy, hy0, hy1, hy2⟩ := info_parts Wo.infoByte
            obtain ⟨i0, hi0, hz0, hz1, hz2⟩ := info_parts Wo.infoFile
            have HIY := Lib.hid hiy
            have HI0 := Lib.hid hi0
            have HRISE := Lib.hid hrise
            clear hiy hi0 hrise
            go_enter Try.func13, Try.ntmps13
            go_wp2_with fail
            refine (KS _ (HIN.out _ (Below.refl _ _))).mono ?_
            rintro x w1 ⟨rfl, hb1⟩
            obtain ⟨_, c0, c1, c2⟩ := HQ.out _ hb1
            go_wp2_with fail
            refine (KN _).mono ?_
            rintro x wn ⟨rfl, hwn⟩
            subst hwn
            go_wp2_with fail
            refine (KF _ (HIN.out _ hb1)).mono ?_
            rintro x w2 ⟨rfl, hb2⟩
            have hb2 := Wo.belowT hb1 hb2
            obtain ⟨_, d0, d1, d2⟩ := HQ.out _ hb2
            have HB2 := Lib.hid hb2
            clear hb1 hb2 c0 c1 c2
            go_wp2_with fail
            refine (KC _ (HIN.out _ HB2.out)).mono ?_
            rintro x w3 ⟨v3, rfl, hm, hb3⟩
            obtain ⟨fv3, iv3, ov3, g, rfl, ho3, hg3, hi3, hv3, _⟩ := hm
            have hb3 := Wo.belowT HB2.out hb3
            have HLG := Lib.hid (show g.length = W.1.length by rw [← hg3]; simp)
            obtain ⟨af, cf, rfl⟩ := ho3.slice
            obtain ⟨ai, ci, rfl⟩ := hi3.1.slice
            obtain ⟨ao, co, rfl⟩ := hv3.1.slice
            obtain ⟨W4, hW4, t0, hs4, hb4⟩ := Wo.one w3 (.cells #[.slice af g.length cf, .slice ai W.2.1.size ci, .slice ao W.2.2.size co] 26)
            obtain ⟨T, hT⟩ : ∃ T, w3.heap.size = T := ⟨_, rfl⟩
            rw [hT] at t0 hs4
            have u0 := Dt.cell_of t0 0
            have u1 := Dt.cell_of t0 1
            have u2 := Dt.cell_of t0 2
            have HO4 := Lib.hid (ho3.below hb4 (Nat.le_refl _))
            have HI4 := Lib.hid (hi3.below hb4 (Nat.le_refl _))
            have HV4 := Lib.hid (hv3.below hb4 (Nat.le_refl _))
            have HB4 := Lib.hid (hb3.trans (hb4.mono hb3.size))
            have HT := Lib.hid t0
            have HG := Lib.hid hg3
            have HZ := Lib.hid (show W2.heap.size ≤ T from hT ▸ hb3.size)
            clear t0 ho3 hi3 hv3 hb3 hb4 hg3 hs4 d0 d1 d2
            go_wp2_with fail
            refine (Wo.without_any g (.slice af g.length cf) name W4 HO4.out.row (by have := HLG.out; omega)).mono ?_
            rintro x w5 ⟨v5, rfl, ho5, hbw5⟩
            have ht5 := (hbw5.block T (Array.getElem?_eq_some_iff.1 HT.out).1).trans HT.out
            have HT5 := Lib.hid ht5
            have HB5 := Lib.hid (Wo.belowT HB4.out hbw5)
            have HI5 := Lib.hid (HI4.out.below hbw5 (Nat.le_refl _))
            have HV5 := Lib.hid (HV4.out.below hbw5 (Nat.le_refl _))
            obtain ⟨G, hG⟩ : ∃ G, (g.filter fun x => !Wo.is name x.1) = G := ⟨_, rfl⟩
            have HGF : Hid (G.map (·.1) = W.1.filter (fun f => !Wo.is name f)) := Lib.hid (by
              rw [← hG, ← HG.out, List.filter_map]
              rfl)
            have hGl : G.length ≤ 64 := by
              rw [← hG]
              exact Nat.le_trans (List.length_filter_le _ _) (by have := HLG.out; omega)
            rw [hG] at ho5
            have HROW := Lib.hid ho5.row
            obtain ⟨a5, c5, rfl⟩ := ho5.slice
            have hTl : T < w5.heap.size := (Array.getElem?_eq_some_iff.1 ht5).1
            clear hG ho5 hbw5 ht5 u0 u1 u2
            have hA1 : Below w5.heap.size w5 (w5.alloc (.cells #[] 53)) := Wo.belowA (Below.refl _ _) _
            have HA2 := Lib.hid (Wo.belowA hA1 (.cells #[] 5))
            have HE2 : Hid (((w5.alloc (.cells #[] 53)).alloc (.cells #[] 5)).heap[w5.heap.size]? = some (.cells #[] 53 (0, 0))) := Lib.hid (Wo.old_at (heap_alloc_new w5 _) _)
            have HU2 : Hid (((w5.alloc (.cells #[] 53)).alloc (.cells #[] 5)).heap[w5.heap.size + 1]? = some (.cells #[] 5 (0, 0))) := Lib.hid (Wo.new_at _ _ _ (by simp))
            have HDI := Lib.hid (HDN.out _ (Wo.belowT HB5.out HA2.out))
            clear hA1
            have hd47b : d.size ≤ 140737488351232 := by omega
            go_wp2_with (at_builtin; refine Wo.wpList_append_fresh rfl _ _ 22 rfl iy (.int .u8 0) Try.underlying22 HIY.out hy0 hy1 hy2 rfl (w5.heap.size + 1) rfl HU2.out _ d rfl HDI.out hd47b ?_)
            intro vd w6 hid6 hb6 _
            replace hb6 : Below ((w5.alloc (.cells #[] 53)).alloc (.cells #[] 5)).heap.size ((w5.alloc (.cells #[] 53)).alloc (.cells #[] 5)) w6 := by first | exact hb6 | (rw [Wo.szA, Wo.szA]; exact hb6)
            obtain ⟨ax, cx, rfl⟩ := hid6.1.slice
            have hb56 := HA2.out.trans (hb6.mono HA2.out.size)
            have he6 : w6.heap[w5.heap.size]? = some (.cells #[] 53 (0, 0)) := (hb6.block _ (Array.getElem?_eq_some_iff.1 HE2.out).1).trans HE2.out
            have hn6 : w6.heap.size ≠ w5.heap.size := by have := (Array.getElem?_eq_some_iff.1 he6).1; omega
            have hLST : ∀ o, o = .cells #[.string name, .slice ax d.size cx] 53 → Wo.Lst w5 (w6.alloc o) w6.heap.size (.slice (some ⟨w5.heap.size, 0, none⟩) 0 0) [] (name, d) (.slice ax d.size cx) := by
              rintro o rfl
              exact Wo.Lst.start (Wo.old_at he6 _) (Nat.le_refl _) (Ne.symm hn6) (heap_alloc_new w6 _) (hid6.below (Wo.belowA (Below.refl _ _) _) (Nat.le_refl _)) (Wo.belowA hb56 _)
            have HLST := Lib.hid hLST
            clear hLST hid6 hb6 hb56 he6 hn6
            go_wp2_with fail
            go_loopw [10, 12, 13] (fun l p i wr => ∃ (k : Nat) (acc : List (Wo.F × Value)) (pb : Bool), i = .int .i64 k ∧ k ≤ G.length ∧ p = .bool pb ∧ (G.take k).foldl (Wo.insStep (fun x => Wo.lt name x.1.1) ((name, d), Value.slice ax d.size cx)) ([], false) = (acc, pb) ∧ Wo.Lst w5 wr w6.heap.size l acc (name, d) (.slice ax d.size cx)) (fun _ _ i _ => G.length - (intOf i).toNat)
            case atStart => exact ⟨0, [], false, rfl, Nat.zero_le _, rfl, rfl, HLST.out _ rfl⟩
            case round =>
              obtain ⟨k, acc, pb, rfl, hk, rfl, hfold, hl⟩ := hrel
              obtain ⟨wo, hwo⟩ : ∃ z, z = wr := ⟨_, rfl⟩
              subst hwo
              have hal : acc.length ≤ k + 1 := by
                have h0 := Wo.fold_len (fun x => Wo.lt name x.1.1) ((name, d), Value.slice ax d.size cx) (G.take k) ([], false)
                rw [hfold, List.length_take] at h0
                simp only [List.length_nil, Bool.false_eq_true, if_false] at h0
                omega
              have HL := Lib.hid hl
              obtain ⟨al, cl, rfl⟩ := hl.1.slice
              by_cases hlt : k < G.length
              · have HSTEP := Lib.hid ((Wo.fold_take (Wo.insStep (fun x => Wo.lt name x.1.1) ((name, d), Value.slice ax d.size cx)) G ([], false) k hlt).trans (by rw [hfold]))
                obtain ⟨b, off, cap', he, hcap, q0, q1, hin⟩ := HROW.out.cell k hlt
                simp only [Value.slice.injEq, true_and] at he
                obtain ⟨rfl, rfl⟩ := he
                have hbl : b < w5.heap.size := World.block_lt_of_cell? w5 ⟨b, off + k * 2, none⟩ q0
                clear hfold
                generalize G[k] = x at *
                obtain ⟨⟨nm, dt⟩, vx⟩ := x
                simp only at q0 q1 hin
                obtain ⟨xa, xc, rfl⟩ := hin.1.slice
                have HC : Hid (∀ w' : World, Below w5.heap.size w5 w' → w'.cell? ⟨b, off + k * 2, none⟩ = some (.string nm) ∧ w'.cell? ⟨b, off + k * 2 + 1, none⟩ = some (.slice xa dt.size xc) ∧ Wo.InU w' (.slice xa dt.size xc) dt) := Lib.hid (fun w' hb => ⟨(hb.cell (p := ⟨b, off + k * 2, none⟩) hbl).trans q0, (hb.cell (p := ⟨b, off + k * 2 + 1, none⟩) hbl).trans q1, hin.below hb (Nat.le_refl _)⟩)
                obtain ⟨c0, c1, _⟩ := HC.out _ hl.2.2.2.2
                clear q0 q1 hin hl
                cases pb with
                | true =>
                  have hl1 := HL.out.below (Wo.belowA (Below.refl wo.heap.size wo) (.cells #[.string nm, .slice xa dt.size xc] 53))
                  have HL1 := Lib.hid hl1
                  have hown1 := hl1.1.1
                  have HX1 := Lib.hid (HC.out _ hl1.2.2.2.2).2.2
                  have HS1 := Lib.hid hl1.size
                  clear hl1
                  go_wp2_with (at_builtin; refine wpList_append_own_at _ rfl _ _ 24 rfl w5.heap.size 53 i0 (.agg #[.string ⟨#[]⟩, .slice none 0 0]) 2 40 Try.underlying24 HI0.out hz0 hz1 hz2 rfl (by decide) _ acc.length _ rfl hown1 ⟨wo.heap.size, 0, none⟩ 1 1 [.string nm, .slice xa dt.size xc] rfl rfl (Dt.row_at (heap_alloc_new wo _)) ?c1 ?c2 ?c3 ?c4 ?_)
                  case c1 => first | exact ⟨rfl, rfl⟩ | (intro u hu; simp only [List.mem_cons, List.not_mem_nil, or_false] at hu; rcases hu with rfl | rfl <;> rfl)
                  case c2 => unfold maxLen; first | omega | (simp only [List.length_append, List.length_cons, List.length_nil]; omega)
                  case c3 => first | omega | (simp only [List.length_append, List.length_cons, List.length_nil]; omega)
                  case c4 => first | exact HS1.out | (have h := HS1.out; rw [Wo.szA] at h; exact h)
                  intro v9 w9 hown9 hgrow9 _ hat9
                  have HL9 := Lib.hid (HL1.out.more (x := (nm, dt)) HX1.out hown9 hgrow9 (by first | exact hat9 | (rw [Wo.szA]; exact hat9)))
                  clear hown9 hgrow9 hat9 hown1
                  go_wp2_with fail
                  go_roundw
                  case rel => exact ⟨k + 1, acc ++ [((nm, dt), Value.slice xa dt.size xc)], true, by first | rfl | go_num | (simp; try omega), by omega, rfl, HSTEP.out.trans (Wo.insStep_done _ _ _ _), HL9.out⟩
                  case measure => simp [intOf]; omega
                | false =>
                  cases hgt : Op.bytesLess name.toList nm.toList with
                  | true =>
                    have HGT : Hid (Wo.lt name nm = true) := Lib.hid hgt
                    have hg1 := Wo.lt_asymm _ _ hgt
                    have hg2 : (nm.toList == name.toList) = false := by
                      rw [beq_eq_false_iff_ne]
                      intro h
                      rw [h, Wo.lt_irrefl] at hgt
                      cases hgt
                    clear hgt
                    have m0 : wo.cell? ⟨w6.heap.size, 0, none⟩ = some (.string name) := HL.out.cells.1
                    have m1 : wo.cell? ⟨w6.heap.size, 1, none⟩ = some (.slice ax d.size cx) := HL.out.cells.2
                    have hl1 := HL.out.below (Wo.belowA (Below.refl wo.heap.size wo) (.cells #[.string name, .slice ax d.size cx] 53))
                    have HL1 := Lib.hid hl1
                    have hown1 := hl1.1.1
                    have HS1 := Lib.hid hl1.size
                    clear hl1
                    go_wp2_with (at_builtin; refine wpList_append_own_at _ rfl _ _ 24 rfl w5.heap.size 53 i0 (.agg #[.string ⟨#[]⟩, .slice none 0 0]) 2 40 Try.underlying24 HI0.out hz0 hz1 hz2 rfl (by decide) _ acc.length _ rfl hown1 ⟨wo.heap.size, 0, none⟩ 1 1 [.string name, .slice ax d.size cx] rfl rfl (Dt.row_at (heap_alloc_new wo _)) ?c1 ?c2 ?c3 ?c4 ?_)
                    case c1 => first | exact ⟨rfl, rfl⟩ | (intro u hu; simp only [List.mem_cons, List.not_mem_nil, or_false] at hu; rcases hu with rfl | rfl <;> rfl)
                    case c2 => unfold maxLen; first | omega | (simp only [List.length_append, List.length_cons, List.length_nil]; omega)
                    case c3 => first | omega | (simp only [List.length_append, List.length_cons, List.length_nil]; omega)
                    case c4 => first | exact HS1.out | (have h := HS1.out; rw [Wo.szA] at h; exact h)
                    intro v8 w8 hown8 hgrow8 _ hat8
                    have hl8 := HL1.out.more (x := (name, d)) HL1.out.2.2.2.1 hown8 hgrow8 (by first | exact hat8 | (rw [Wo.szA]; exact hat8))
                    obtain ⟨a8, c8, rfl⟩ := hl8.1.slice
                    have hlen8 : (acc ++ [((name, d), Value.slice ax d.size cx)]).length = acc.length + 1 := by simp
                    rw [hlen8] at hl8 ⊢
                    have HL8 := Lib.hid hl8
                    obtain ⟨e0, e1, _⟩ := HC.out _ hl8.2.2.2.2
                    have hl3 := hl8.below (Wo.belowA (Below.refl w8.heap.size w8) (.cells #[.string nm, .slice xa dt.size xc] 53))
                    have HL3 := Lib.hid hl3
                    have hown3 := hl3.1.1
                    rw [hlen8] at hown3
                    have HX3 := Lib.hid (HC.out _ hl3.2.2.2.2).2.2
                    have HS3 := Lib.hid hl3.size
                    have HLEN8 := Lib.hid hlen8
                    clear hl3 hl8 hown8 hgrow8 hat8 hown1 c0 c1 m0 m1 hlen8
                    go_wp2_with (at_builtin; refine wpList_append_own_at _ rfl _ _ 24 rfl w5.heap.size 53 i0 (.agg #[.string ⟨#[]⟩, .slice none 0 0]) 2 40 Try.underlying24 HI0.out hz0 hz1 hz2 rfl (by decide) _ (acc.length + 1) _ rfl hown3 ⟨w8.heap.size, 0, none⟩ 1 1 [.string nm, .slice xa dt.size xc] rfl rfl (Dt.row_at (heap_alloc_new w8 _)) ?c1 ?c2 ?c3 ?c4 ?_)
                    case c1 => first | exact ⟨rfl, rfl⟩ | (intro u hu; simp only [List.mem_cons, List.not_mem_nil, or_false] at hu; rcases hu with rfl | rfl <;> rfl)
                    case c2 => unfold maxLen; first | omega | (simp only [List.length_append, List.length_cons, List.length_nil]; omega)
                    case c3 => first | omega | (simp only [List.length_append, List.length_cons, List.length_nil]; omega)
                    case c4 => first | exact HS3.out | (have h := HS3.out; rw [Wo.szA] at h; exact h)
                    intro v9 w9 hown9 hgrow9 _ hat9
                    have HL9 := Lib.hid (HL3.out.more (x := (nm, dt)) HX3.out (by rw [HLEN8.out]; exact hown9) hgrow9 (by first | exact hat9 | (rw [Wo.szA]; exact hat9)))
                    clear hown9 hgrow9 hat9 hown3
                    go_wp2_with fail
                    go_roundw
                    case rel => exact ⟨k + 1, acc ++ [((name, d), Value.slice ax d.size cx)] ++ [((nm, dt), Value.slice xa dt.size xc)], true, by first | rfl | go_num | (simp; try omega), by omega, rfl, HSTEP.out.trans (Wo.insStep_put _ _ _ _ HGT.out), HL9.out⟩
                    case measure => simp [intOf]; omega
                  | false =>
                    have HGT : Hid (Wo.lt name nm = false) := Lib.hid hgt
                    have hgeq : (Op.bytesLess nm.toList name.toList = true) ∨ (Op.bytesLess nm.toList name.toList = false ∧ (nm.toList == name.toList) = true) := by
                      rcases Wo.lt_tri nm.toList name.toList with h | h | h
                      · exact .inl h
                      · right
                        rw [h]
                        exact ⟨Wo.lt_irrefl _, by simp⟩
                      · rw [hgt] at h; cases h
                    clear hgt
                    rcases hgeq with hg1 | ⟨hg1, hg2⟩
                    all_goals
                      have hl1 := HL.out.below (Wo.belowA (Below.refl wo.heap.size wo) (.cells #[.string nm, .slice xa dt.size xc] 53))
                      have HL1 := Lib.hid hl1
                      have hown1 := hl1.1.1
                      have HX1 := Lib.hid (HC.out _ hl1.2.2.2.2).2.2
                      have HS1 := Lib.hid hl1.size
                      clear hl1
                      go_wp2_with (at_builtin; refine wpList_append_own_at _ rfl _ _ 24 rfl w5.heap.size 53 i0 (.agg #[.string ⟨#[]⟩, .slice none 0 0]) 2 40 Try.underlying24 HI0.out hz0 hz1 hz2 rfl (by decide) _ acc.length _ rfl hown1 ⟨wo.heap.size, 0, none⟩ 1 1 [.string nm, .slice xa dt.size xc] rfl rfl (Dt.row_at (heap_alloc_new wo _)) ?c1 ?c2 ?c3 ?c4 ?_)
                      case c1 => first | exact ⟨rfl, rfl⟩ | (intro u hu; simp only [List.mem_cons, List.not_mem_nil, or_false] at hu; rcases hu with rfl | rfl <;> rfl)
                      case c2 => unfold maxLen; first | omega | (simp only [List.length_append, List.length_cons, List.length_nil]; omega)
                      case c3 => first | omega | (simp only [List.length_append, List.length_cons, List.length_nil]; omega)
                      case c4 => first | exact HS1.out | (have h := HS1.out; rw [Wo.szA] at h; exact h)
                      intro v9 w9 hown9 hgrow9 _ hat9
                      have HL9 := Lib.hid (HL1.out.more (x := (nm, dt)) HX1.out hown9 hgrow9 (by first | exact hat9 | (rw [Wo.szA]; exact hat9)))
                      clear hown9 hgrow9 hat9 hown1
                      go_wp2_with fail
                      go_roundw
                      case rel => exact ⟨k + 1, acc ++ [((nm, dt), Value.slice xa dt.size xc)], false, by first | rfl | go_num | (simp; try omega), by omega, rfl, HSTEP.out.trans (Wo.insStep_not _ _ _ _ HGT.out), HL9.out⟩
                      case measure => simp [intOf]; omega
              · obtain rfl : k = G.length := by omega
                rw [List.take_length] at hfold
                have hlast := Wo.ins_all (fun x => Wo.lt name x.1.1) ((name, d), Value.slice ax d.size cx) G []
                rw [hfold] at hlast
                have hmap := Wo.put1_of (vd := Value.slice ax d.size cx) (d := d) HGF.out HRISE.out
                rw [List.nil_append] at hlast
                rw [← hlast] at hmap
                have hnlt : decide ((G.length : Int) < (G.length : Int)) = false := decide_eq_false (by omega)
                clear hfold hlast
                cases pb with
                | true =>
                  simp only [if_true] at hmap
                  have HMAP := Lib.hid hmap
                  clear hmap hl
                  have hbx := Wo.belowT HB5.out HL.out.2.2.2.2
                  have hTx := (HL.out.2.2.2.2.block T hTl).trans HT5.out
                  have hix := HI5.out.below HL.out.2.2.2.2 (Nat.le_refl _)
                  have hvx := HV5.out.below HL.out.2.2.2.2 (Nat.le_refl _)
                  obtain ⟨W6, hW6, p0, pf, ⟨l0, l1, l2⟩, ho6, hi6, hv6, hb6⟩ := Wo.taken HL.out.1 hTx hix hvx hbx HZ.out
                  obtain ⟨X1, X2, X3, ⟨f0, z0, s0⟩, ⟨f1, z1, s1⟩, ⟨f2, z2, s2⟩, ⟨r0, r1, r2⟩, HOUT⟩ := Wo.put_made (W := (Wo.put1 W.1 name d, W.2.1, W.2.2)) (HR.out _ hb6) ho6 HMAP.out hi6 hv6 (HB.out _ hb6) (by omega)
                  clear hbx hTx hix hvx ho6 hi6 hv6 hb6
                  go_wp2_with fail
                  refine bodyPost_ret (v := .tuple #[.agg #[.slice al acc.length cl, .slice ai W.2.1.size ci, .slice ao W.2.2.size co], .int .i64 0]) (by simp [results, Try.results13, go_sem, r0, r1, r2]) rfl ⟨_, rfl, HOUT.out.1, HOUT.out.2⟩
                | false =>
                  simp only [Bool.false_eq_true, if_false] at hmap
                  have HMAP := Lib.hid hmap
                  clear hmap hl
                  have m0 : wo.cell? ⟨w6.heap.size, 0, none⟩ = some (.string name) := HL.out.cells.1
                  have m1 : wo.cell? ⟨w6.heap.size, 1, none⟩ = some (.slice ax d.size cx) := HL.out.cells.2
                  have hl1 := HL.out.below (Wo.belowA (Below.refl wo.heap.size wo) (.cells #[.string name, .slice ax d.size cx] 53))
                  have HL1 := Lib.hid hl1
                  have hown1 := hl1.1.1
                  have HS1 := Lib.hid hl1.size
                  clear hl1
                  go_wp2_with (at_builtin; refine wpList_append_own_at _ rfl _ _ 24 rfl w5.heap.size 53 i0 (.agg #[.string ⟨#[]⟩, .slice none 0 0]) 2 40 Try.underlying24 HI0.out hz0 hz1 hz2 rfl (by decide) _ acc.length _ rfl hown1 ⟨wo.heap.size, 0, none⟩ 1 1 [.string name, .slice ax d.size cx] rfl rfl (Dt.row_at (heap_alloc_new wo _)) ?c1 ?c2 ?c3 ?c4 ?_)
                  case c1 => first | exact ⟨rfl, rfl⟩ | (intro u hu; simp only [List.mem_cons, List.not_mem_nil, or_false] at hu; rcases hu with rfl | rfl <;> rfl)
                  case c2 => unfold maxLen; first | omega | (simp only [List.length_append, List.length_cons, List.length_nil]; omega)
                  case c3 => first | omega | (simp only [List.length_append, List.length_cons, List.length_nil]; omega)
                  case c4 => first | exact HS1.out | (have h := HS1.out; rw [Wo.szA] at h; exact h)
                  intro v8 w8 hown8 hgrow8 _ hat8
                  have hl8 := HL1.out.more (x := (name, d)) HL1.out.2.2.2.1 hown8 hgrow8 (by first | exact hat8 | (rw [Wo.szA]; exact hat8))
                  obtain ⟨a8, c8, rfl⟩ := hl8.1.slice
                  obtain ⟨n8, hn8⟩ : ∃ n, (acc ++ [((name, d), Value.slice ax d.size cx)]).length = n := ⟨_, rfl⟩
                  rw [hn8] at hl8 ⊢
                  have HL8 := Lib.hid hl8
                  clear hl8 hown8 hgrow8 hat8 hown1 m0 m1
                  have hbx := Wo.belowT HB5.out HL8.out.2.2.2.2
                  have hTx := (HL8.out.2.2.2.2.block T hTl).trans HT5.out
                  have hix := HI5.out.below HL8.out.2.2.2.2 (Nat.le_refl _)
                  have hvx := HV5.out.below HL8.out.2.2.2.2 (Nat.le_refl _)
                  obtain ⟨W6, hW6, p0, pf, ⟨l0, l1, l2⟩, ho6, hi6, hv6, hb6⟩ := Wo.taken HL8.out.1 hTx hix hvx hbx HZ.out
                  obtain ⟨X1, X2, X3, ⟨f0, z0, s0⟩, ⟨f1, z1, s1⟩, ⟨f2, z2, s2⟩, ⟨r0, r1, r2⟩, HOUT⟩ := Wo.put_made (W := (Wo.put1 W.1 name d, W.2.1, W.2.2)) (HR.out _ hb6) ho6 HMAP.out hi6 hv6 (HB.out _ hb6) (by omega)
                  clear hbx hTx hix hvx ho6 hi6 hv6 hb6
                  go_wp2_with fail
                  refine bodyPost_ret (v := .tuple #[.agg #[.slice a8 n8 c8, .slice ai W.2.1.size ci, .slice ao W.2.2.size co], .int .i64 0]) (by simp [results, Try.results13, go_sem, r0, r1, r2]) rfl ⟨_, rfl, HOUT.out.1, HOUT.out.2⟩
end Go.Proofs.Ytdikkknjdbchbaa
