/-
  world.Put of any world.
-/
import Derived.Test.YtdikkknjdbchbaaWoDelete
namespace Go.Proofs.Ytdikkknjdbchbaa
open Go.RowKit
set_option linter.unusedVariables false

theorem Wo.set_two (l : List Value) (n k : Nat) (a b : Value) (hk : k < n) (hn : n * 2 ≤ l.length) :
    ((l.set (k * 2) a).set (k * 2 + 1) b).take (n * 2) = (l.take (n * 2)).take (k * 2) ++ [a, b] ++ (l.take (n * 2)).drop ((k + 1) * 2) := by
  apply List.ext_getElem?
  intro j
  have e1 : ((l.take (n * 2)).take (k * 2)).length = k * 2 := by simp only [List.length_take]; omega
  rw [List.getElem?_take, List.append_assoc]
  rcases Nat.lt_or_ge j (k * 2) with h | h
  · rw [if_pos (by omega), List.getElem?_append_left (by omega), List.getElem?_set_ne (by omega), List.getElem?_set_ne (by omega), List.getElem?_take, if_pos h, List.getElem?_take, if_pos (by omega)]
  · rw [List.getElem?_append_right (by omega), e1]
    obtain ⟨m, rfl⟩ : ∃ m, j = k * 2 + m := ⟨j - k * 2, by omega⟩
    rw [Nat.add_sub_cancel_left]
    rcases m with _ | _ | m
    · rw [if_pos (by omega), List.getElem?_set_ne (by omega), Nat.add_zero, List.getElem?_set_self (by omega)]
      rfl
    · rw [if_pos (by omega), List.getElem?_set_self (by rw [List.length_set]; omega)]
      rfl
    · rw [show [a, b] ++ (l.take (n * 2)).drop ((k + 1) * 2) = a :: b :: (l.take (n * 2)).drop ((k + 1) * 2) from rfl, List.getElem?_cons_succ, List.getElem?_cons_succ, List.getElem?_drop, List.getElem?_take, List.getElem?_set_ne (by omega), List.getElem?_set_ne (by omega)]
      rw [show (k + 1) * 2 + m = k * 2 + (m + 1 + 1) by omega]
theorem Wo.Own.put {w : World} {B cf : Nat} {af : Option Addr} {g : List (Wo.F × Value)} (h : Wo.Own w B (.slice af g.length cf) g) (k : Nat) (hk : k < g.length) (f : Wo.F) (vd : Value) (hd : Wo.InU w vd f.2) :
    ∃ (b : Nat) (X1 X2 : World) (v0 v1 : Value), af = some ⟨b, 0, none⟩ ∧ g.length ≤ cf ∧ (w.cell? ⟨b, k * 2, none⟩ = some v0 ∧ w.frozen? ⟨b, k * 2, none⟩ = false ∧ w.setCell ⟨b, k * 2, none⟩ (.string f.1) = X1) ∧
      (X1.cell? ⟨b, k * 2 + 1, none⟩ = some v1 ∧ X1.frozen? ⟨b, k * 2 + 1, none⟩ = false ∧ X1.setCell ⟨b, k * 2 + 1, none⟩ vd = X2) ∧
      X2.ownsRow B 53 2 (.slice af g.length cf) (g.take k ++ [(f, vd)] ++ g.drop (k + 1)).length (Wo.cellsG (g.take k ++ [(f, vd)] ++ g.drop (k + 1))) ∧ w.grownBy X2 (Value.slice af g.length cf).ownBlock := by
  have hlen : (g.take k ++ [(f, vd)] ++ g.drop (k + 1)).length = g.length := by simp; omega
  have hcells : Wo.cellsG (g.take k ++ [(f, vd)] ++ g.drop (k + 1)) = (Wo.cellsG g).take (k * 2) ++ [.string f.1, vd] ++ (Wo.cellsG g).drop ((k + 1) * 2) := by
    rw [Wo.cellsG_append, Wo.cellsG_append, Wo.cellsG_take, Wo.cellsG_drop]
    rfl
  rw [hlen, hcells]
  have hlc := Wo.cellsG_len g
  rcases h.1.2 with ⟨hv, h0⟩ | ⟨b, cap, cur, hv, hBb, hb, hc1, hc2, hc3, htk⟩
  · omega
  · simp only [Value.slice.injEq] at hv
    obtain ⟨rfl, _, rfl⟩ := hv
    have e1 : w.setCell ⟨b, k * 2, none⟩ (.string f.1) = w.setRow b (cur.setIfInBounds (k * 2) (.string f.1)) := setCell_eq_setRow w b (k * 2) cur _ _ _ hb
    have hb1 := setRow_heap w b cur (cur.setIfInBounds (k * 2) (.string f.1)) _ _ hb
    have e2 : (w.setRow b (cur.setIfInBounds (k * 2) (.string f.1))).setCell ⟨b, k * 2 + 1, none⟩ vd = w.setRow b ((cur.setIfInBounds (k * 2) (.string f.1)).setIfInBounds (k * 2 + 1) vd) := by
      rw [setCell_eq_setRow _ b (k * 2 + 1) _ _ _ vd hb1, setRow_setRow]
    refine ⟨b, _, _, cur[k * 2]'(by omega), (cur.setIfInBounds (k * 2) (.string f.1))[k * 2 + 1]'(by simp; omega), rfl, hc1, ⟨by rw [Dt.cell_of hb]; exact Array.getElem?_eq_getElem (by omega), Dt.frozen_of hb _, e1⟩, ⟨by rw [Dt.cell_of hb1]; exact Array.getElem?_eq_getElem (by simp; omega), Dt.frozen_of hb1 _, e2⟩, ⟨?_, .inr ⟨b, cf, _, rfl, hBb, setRow_heap w b cur _ _ _ hb, hc1, hc2, by simpa using hc3, ?_⟩⟩, rfl, rfl, rfl, by simp, fun q hq hne => ?_⟩
    · simp only [List.length_append, List.length_take, List.length_drop, List.length_cons, List.length_nil, hlc]; omega
    · have := Wo.set_two cur.toList g.length k (.string f.1) vd hk (by simp; omega)
      rw [htk] at this
      simpa using this
    · have hqb : q ≠ b := fun e => hne (by rw [e]; rfl)
      exact setRow_other _ b q _ hqb

/-- What has been changed among files that the call owns, in the world box T, behind a step that changed the files alone. -/
theorem Wo.behind {w4 w5 W2 : World} {B T : Nat} {v4 v5 i4 o4 : Value} {si so : ByteArray} {g g' : List (Wo.F × Value)} (ho : Wo.Own w4 B v4 g) (hd : ∀ x ∈ g', Wo.InU w4 x.2 x.1.2) (ho5 : w5.ownsRow B 53 2 v5 g'.length (Wo.cellsG g')) (hgr : w4.grownBy w5 v4.ownBlock)
    (hT : w4.heap[T]? = some (.cells #[v4, i4, o4] 26 (0, 0))) (hi : Wo.InU w4 i4 si) (hov : Wo.InU w4 o4 so) (hb : Below W2.heap.size W2 w4) (hB : W2.heap.size ≤ B) (hT2 : W2.heap.size ≤ T) :
    Wo.Own w5 B v5 g' ∧ w5.heap[T]? = some (.cells #[v4, i4, o4] 26 (0, 0)) ∧ Wo.InU w5 i4 si ∧ Wo.InU w5 o4 so ∧ Below W2.heap.size W2 w5 := by
  obtain ⟨h1, h2, h3⟩ := ho.change hd ho5 hgr
  exact ⟨h1, h2 T _ _ (by decide) hT, h3 _ _ hi, h3 _ _ hov, hb.grown hgr hb.size (fun q hq => Nat.le_trans hB (ho.row_ge q hq))⟩
/-- .. and the box has taken the new files. -/
theorem Wo.taken {w5 W2 : World} {B T : Nat} {v4 v5 i4 o4 : Value} {si so : ByteArray} {g' : List (Wo.F × Value)} (ho : Wo.Own w5 B v5 g') (hT : w5.heap[T]? = some (.cells #[v4, i4, o4] 26 (0, 0))) (hi : Wo.InU w5 i4 si) (hov : Wo.InU w5 o4 so) (hb : Below W2.heap.size W2 w5) (hT2 : W2.heap.size ≤ T) :
    ∃ W6, w5.setCell ⟨T, 0, none⟩ v5 = W6 ∧ w5.cell? ⟨T, 0, none⟩ = some v4 ∧ w5.frozen? ⟨T, 0, none⟩ = false ∧ (W6.cell? ⟨T, 0, none⟩ = some v5 ∧ W6.cell? ⟨T, 1, none⟩ = some i4 ∧ W6.cell? ⟨T, 2, none⟩ = some o4) ∧ Wo.Own W6 B v5 g' ∧ Wo.InU W6 i4 si ∧ Wo.InU W6 o4 so ∧ Below W2.heap.size W2 W6 := by
  have hT6 : (w5.setCell ⟨T, 0, none⟩ v5).heap[T]? = some (.cells #[v5, i4, o4] 26 (0, 0)) := Dt.setCells hT 0 _
  exact ⟨_, rfl, Dt.cell_of hT 0, Dt.frozen_of hT 0, ⟨Dt.cell_of hT6 0, Dt.cell_of hT6 1, Dt.cell_of hT6 2⟩, ho.set (by decide) (by decide) hT _, hi.set (by decide) hT _, hov.set (by decide) hT _, hb.setCell (p := ⟨T, 0, none⟩) hT2 _⟩

set_option maxHeartbeats 8000000 in
set_option maxRecDepth 1000000 in
theorem Wo.Put_any (W : Wo.W) (v : Value) (name d : ByteArray) (dv : Value) (w : World) (h : Wo.In w v W) (hd : By.In w dv d) (hd47 : d.size ≤ 140737488355328) : Calls Try.prog 6 #[v, .string name, dv] w fun e w' => ∃ v', e = .returned (.tuple #[v', .int .i64 (Wo.putS W name d).2]) ∧ Wo.In w' v' (Wo.putS W name d).1 ∧ Below w.heap.size w w' := by
  have KS := fun w h => Wo.Sound_any W v w h
  have KD := fun w h => Wo.clone_any d dv w h hd47
  obtain ⟨add, capd, rfl⟩ := hd.slice
  obtain ⟨fv, iv, ov, rfl, hf, hi, ho⟩ := id h
  have H := Lib.hid h
  have HD := Lib.hid hd
  clear h hd
  obtain ⟨ad, cap, rfl⟩ := hf.slice
  obtain ⟨ad1, cap1, rfl⟩ := hi.slice
  obtain ⟨ad2, cap2, rfl⟩ := ho.slice
  clear hf hi ho
  obtain ⟨W2, hW2, q0, q1, hsz, hb0⟩ := Wo.two w (.cells #[.slice ad W.1.length cap, .slice ad1 W.2.1.size cap1, .slice ad2 W.2.2.size cap2] 26) (.cells #[.slice none 0 0, .slice none 0 0, .slice none 0 0] 26)
  have HIN := Lib.hid (fun (w' : World) (hb : Below W2.heap.size W2 w') => (H.out.below hb0 (Nat.le_refl _)).below hb (Nat.le_refl _))
  have HDN := Lib.hid (fun (w' : World) (hb : Below W2.heap.size W2 w') => (HD.out.below hb0 (Nat.le_refl _)).below hb (Nat.le_refl _))
  have HQ := Lib.hid (fun (w' : World) (hb : Below W2.heap.size W2 w') => Wo.row3 q0 hb (Nat.le_refl _))
  have HR := Lib.hid (fun (w' : World) (hb : Below W2.heap.size W2 w') => (Wo.row3 q1 hb (Nat.le_refl _)).1)
  have HB := Lib.hid (fun (w' : World) (hb : Below W2.heap.size W2 w') => hb0.trans (hb.mono (by omega : w.heap.size ≤ W2.heap.size)))
  obtain ⟨_, e0, e1, e2⟩ := HQ.out W2 (Below.refl _ _)
  clear q0 q1 hb0
  cases hs : Wo.sound W with
  | false =>
    have hg : Wo.putS W name d = (Wo.w0, 2) := by simp [Wo.putS, hs]
    simp only [hs] at KS
    rw [hg]
    go_enter Try.func6, Try.ntmps6
    go_wp2_with fail
    refine (KS _ (HIN.out _ (Below.refl _ _))).mono ?_
    rintro x w1 ⟨rfl, hb1⟩
    obtain ⟨X1, X2, X3, ⟨f0, z0, s0⟩, ⟨f1, z1, s1⟩, ⟨f2, z2, s2⟩, ⟨r0, r1, r2⟩, HOUT⟩ := Wo.put_none (HR.out _ hb1) (HB.out _ hb1) (by omega)
    clear hb1
    go_wp2_with fail
    refine bodyPost_ret (v := .tuple #[.agg #[.slice none 0 0, .slice none 0 0, .slice none 0 0], .int .i64 2]) (by simp [results, Try.results6, go_sem, r0, r1, r2]) rfl ⟨_, rfl, HOUT.out.1, HOUT.out.2⟩
  | true =>
    have KF := fun w h => Wo.find_any W (.agg #[.slice ad W.1.length cap, .slice ad1 W.2.1.size cap1, .slice ad2 W.2.2.size cap2]) name (Wo.cut W.1 name) w h (Wo.cutAt_of _ _ (Wo.rising_of hs)) (Wo.sound_le hs)
    have KN := fun w => Wo.named_any name w
    have KC := fun w h => Wo.Copy_any W (.agg #[.slice ad W.1.length cap, .slice ad1 W.2.1.size cap1, .slice ad2 W.2.2.size cap2]) w h hs
    have hbd := Wo.sound_bd hs
    simp only [hs] at KS
    obtain ⟨k, hk⟩ : ∃ k, Wo.cut W.1 name = k := ⟨_, rfl⟩
    have hkc : k ≤ W.1.length := hk ▸ (Wo.cutAt_of _ name (Wo.rising_of hs)).1
    rw [hk] at KF
    have hk64 : k ≤ 64 := by have := hbd.1; omega
    have hput : ∀ hit, Wo.hit W.1 name k = hit → Wo.putS W name d = if Wo.named name = true then (if d.size ≤ 65536 then (if hit = true ∨ W.1.length < 64 then ((W.1.take k ++ [(name, d)] ++ W.1.drop (if hit = true then k + 1 else k), W.2.1, W.2.2), 0) else (Wo.w0, 9)) else (Wo.w0, 4)) else (Wo.w0, 1) := by
      intro hit hh
      subst hh
      simp [Wo.putS, Wo.put1, hs, Wo.has, hk]
    obtain ⟨hit, hh⟩ : ∃ hit, Wo.hit W.1 name k = hit := ⟨_, rfl⟩
    have hkl : hit = true → k < W.1.length := fun h => by
      rw [h] at hh
      unfold Wo.hit at hh
      simp only [Bool.and_eq_true, decide_eq_true_eq] at hh
      exact hh.1
    rw [hput hit hh]
    simp only [hh] at KF
    clear hput hk hh
    cases hn : Wo.named name with
    | false =>
      simp only [hn] at KN
      simp only [Bool.false_eq_true, if_false]
      go_enter Try.func6, Try.ntmps6
      go_wp2_with fail
      refine (KS _ (HIN.out _ (Below.refl _ _))).mono ?_
      rintro x w1 ⟨rfl, hb1⟩
      obtain ⟨_, c0, c1, c2⟩ := HQ.out _ hb1
      go_wp2_with fail
      refine (KF _ (HIN.out _ hb1)).mono ?_
      rintro x w2 ⟨rfl, hb2⟩
      have hb2 := hb1.trans (hb2.mono hb1.size)
      obtain ⟨X1, X2, X3, ⟨f0, z0, s0⟩, ⟨f1, z1, s1⟩, ⟨f2, z2, s2⟩, ⟨r0, r1, r2⟩, HOUT⟩ := Wo.put_none (HR.out _ hb2) (HB.out _ hb2) (by omega)
      clear hb1 hb2 c0 c1 c2
      go_wp2_with fail
      refine (KN _).mono ?_
      rintro x w3 ⟨rfl, hw3⟩
      subst hw3
      go_wp2_with fail
      refine bodyPost_ret (v := .tuple #[.agg #[.slice none 0 0, .slice none 0 0, .slice none 0 0], .int .i64 1]) (by simp [results, Try.results6, go_sem, r0, r1, r2]) rfl ⟨_, rfl, HOUT.out.1, HOUT.out.2⟩
    | true =>
      simp only [hn] at KN
      simp only [if_true]
      by_cases hd64 : d.size ≤ 65536
      case neg =>
        rw [if_neg hd64]
        have hgt : (d.size : Int) > 65536 := by omega
        go_enter Try.func6, Try.ntmps6
        go_wp2_with fail
        refine (KS _ (HIN.out _ (Below.refl _ _))).mono ?_
        rintro x w1 ⟨rfl, hb1⟩
        obtain ⟨_, c0, c1, c2⟩ := HQ.out _ hb1
        go_wp2_with fail
        refine (KF _ (HIN.out _ hb1)).mono ?_
        rintro x w2 ⟨rfl, hb2⟩
        have hb2 := hb1.trans (hb2.mono hb1.size)
        obtain ⟨X1, X2, X3, ⟨f0, z0, s0⟩, ⟨f1, z1, s1⟩, ⟨f2, z2, s2⟩, ⟨r0, r1, r2⟩, HOUT⟩ := Wo.put_none (HR.out _ hb2) (HB.out _ hb2) (by omega)
        clear hb1 hb2 c0 c1 c2
        go_wp2_with fail
        refine (KN _).mono ?_
        rintro x w3 ⟨rfl, hw3⟩
        subst hw3
        go_wp2_with fail
        refine bodyPost_ret (v := .tuple #[.agg #[.slice none 0 0, .slice none 0 0, .slice none 0 0], .int .i64 4]) (by simp [results, Try.results6, go_sem, r0, r1, r2]) rfl ⟨_, rfl, HOUT.out.1, HOUT.out.2⟩
      case pos =>
        rw [if_pos hd64]
        have hngt : ¬ (d.size : Int) > 65536 := by omega
        by_cases hfull : hit = true ∨ W.1.length < 64
        case neg =>
          rw [if_neg hfull]
          have hitf : hit = false := by cases hit <;> simp_all
          subst hitf
          have hge : (W.1.length : Int) ≥ 64 := by have : ¬ W.1.length < 64 := fun h => hfull (.inr h); omega
          have hged : decide ((W.1.length : Int) ≥ 64) = true := decide_eq_true hge
          clear hfull hkl
          go_enter Try.func6, Try.ntmps6
          go_wp2_with fail
          refine (KS _ (HIN.out _ (Below.refl _ _))).mono ?_
          rintro x w1 ⟨rfl, hb1⟩
          obtain ⟨_, c0, c1, c2⟩ := HQ.out _ hb1
          go_wp2_with fail
          refine (KF _ (HIN.out _ hb1)).mono ?_
          rintro x w2 ⟨rfl, hb2⟩
          have hb2 := hb1.trans (hb2.mono hb1.size)
          obtain ⟨_, d0, d1, d2⟩ := HQ.out _ hb2
          obtain ⟨X1, X2, X3, ⟨f0, z0, s0⟩, ⟨f1, z1, s1⟩, ⟨f2, z2, s2⟩, ⟨r0, r1, r2⟩, HOUT⟩ := Wo.put_none (HR.out _ hb2) (HB.out _ hb2) (by omega)
          clear hb1 hb2 c0 c1 c2
          go_wp2_with fail
          refine (KN _).mono ?_
          rintro x w3 ⟨rfl, hw3⟩
          subst hw3
          go_wp2_with fail
          refine bodyPost_ret (v := .tuple #[.agg #[.slice none 0 0, .slice none 0 0, .slice none 0 0], .int .i64 9]) (by simp [results, Try.results6, go_sem, r0, r1, r2]) rfl ⟨_, rfl, HOUT.out.1, HOUT.out.2⟩
        case pos =>
          rw [if_pos hfull]
          cases hit with
          | false =>
            have hlt : ¬ (W.1.length : Int) ≥ 64 := by
              have : W.1.length < 64 := by rcases hfull with h | h; cases h; exact h
              omega
            have hltd : decide ((W.1.length : Int) ≥ 64) = false := decide_eq_false hlt
            simp only [Bool.false_eq_true, if_false]
            clear hfull hkl
            go_enter Try.func6, Try.ntmps6
            go_wp2_with fail
            refine (KS _ (HIN.out _ (Below.refl _ _))).mono ?_
            rintro x w1 ⟨rfl, hb1⟩
            obtain ⟨_, c0, c1, c2⟩ := HQ.out _ hb1
            go_wp2_with fail
            refine (KF _ (HIN.out _ hb1)).mono ?_
            rintro x w2 ⟨rfl, hb2⟩
            have hb2 := hb1.trans (hb2.mono hb1.size)
            obtain ⟨_, d0, d1, d2⟩ := HQ.out _ hb2
            have HB2 := Lib.hid hb2
            clear hb1 hb2 c0 c1 c2
            go_wp2_with fail
            refine (KN _).mono ?_
            rintro x wn ⟨rfl, hwn⟩
            subst hwn
            go_wp2_with fail
            refine (KC _ (HIN.out _ HB2.out)).mono ?_
            rintro x w3 ⟨v3, rfl, hm, hb3⟩
            obtain ⟨fv3, iv3, ov3, g, rfl, ho3, hg3, hi3, hv3, _⟩ := hm
            have hb3s := hb3.size
            have hb3 := HB2.out.trans (hb3.mono HB2.out.size)
            have HLG := Lib.hid (show g.length = W.1.length by rw [← hg3]; simp)
            obtain ⟨af, cf, rfl⟩ := ho3.slice
            obtain ⟨ai, ci, rfl⟩ := hi3.1.slice
            obtain ⟨ao, co, rfl⟩ := hv3.1.slice
            obtain ⟨W4, hW4, t0, hs4, hb4⟩ := Wo.one w3 (.cells #[.slice af g.length cf, .slice ai W.2.1.size ci, .slice ao W.2.2.size co] 26)
            obtain ⟨T, hT⟩ : ∃ T, w3.heap.size = T := ⟨_, rfl⟩
            rw [hT] at t0 hs4
            have HO4 := Lib.hid (ho3.below hb4 (Nat.le_refl _))
            have HI4 := Lib.hid (hi3.below hb4 (Nat.le_refl _))
            have HV4 := Lib.hid (hv3.below hb4 (Nat.le_refl _))
            have HB4 := Lib.hid (hb3.trans (hb4.mono hb3.size))
            have HT := Lib.hid t0
            have HG := Lib.hid hg3
            have HZ := Lib.hid (show W2.heap.size ≤ T from hT ▸ hb3.size)
            have HWT := Lib.hid (show wn.heap.size ≤ T from hT ▸ hb3s)
            clear t0 hb3s ho3 hi3 hv3 hb3 hb4 hg3 hs4 d0 d1 d2
            go_wp2_with fail
            refine (KD _ (HDN.out _ HB4.out)).mono ?_
            rintro x w5 ⟨v5, rfl, hu5, hb5, _⟩
            obtain ⟨a5, c5, rfl⟩ := hu5.1.slice
            have HU5 := Lib.hid hu5
            have HB5 := Lib.hid hb5
            clear hu5 hb5
            obtain ⟨W6, hW6, t6, hs6, hb6⟩ := Wo.one w5 (.cells #[.string name, .slice a5 d.size c5] 53)
            have hb6 := HB5.out.trans (hb6.mono HB5.out.size)
            have hx5 : Below w5.heap.size w5 W6 := hW6 ▸ (Below.refl _ _).alloc (Nat.le_refl _) _
            obtain ⟨T2, hT2⟩ : ∃ T, w5.heap.size = T := ⟨_, rfl⟩
            rw [hT2] at t6 hs6
            have m0 := Dt.cell_of t6 0
            have m1 := Dt.cell_of t6 1
            obtain ⟨_, l0, l1, l2⟩ := Wo.row3 HT.out hb6 (Nat.le_refl _)
            have HU6 := Lib.hid (HU5.out.below hx5 (Nat.le_refl _))
            have HO6 := Lib.hid (HO4.out.below hb6 (Nat.le_refl _))
            have HI6 := Lib.hid (HI4.out.below hb6 (Nat.le_refl _))
            have HV6 := Lib.hid (HV4.out.below hb6 (Nat.le_refl _))
            have HT6 := Lib.hid (Wo.row3 HT.out hb6 (Nat.le_refl _)).1
            have HB6 := Lib.hid (HB4.out.trans (hb6.mono HB4.out.size))
            clear hb6 hx5 t6 hs6
            go_wp2_with fail
            obtain ⟨W7, hW7, t7, hs7, hb7⟩ := Wo.one W6 (.cells #[.string name, .slice a5 d.size c5] 53)
            have HO7 := Lib.hid (HO6.out.below hb7 (Nat.le_refl _))
            have HU7 := Lib.hid (HU6.out.below hb7 (Nat.le_refl _))
            have HI7 := Lib.hid (HI6.out.below hb7 (Nat.le_refl _))
            have HV7 := Lib.hid (HV6.out.below hb7 (Nat.le_refl _))
            have HT7 := Lib.hid (Wo.row3 HT6.out hb7 (Nat.le_refl _)).1
            have HB7 := Lib.hid (HB6.out.trans (hb7.mono HB6.out.size))
            have hbs : wn.heap.size ≤ W7.heap.size := Nat.le_trans HWT.out (Nat.le_of_lt (Array.getElem?_eq_some_iff.1 HT7.out).1)
            rw [hW7]
            refine (Wo.insert_any wn.heap.size g k (name, d) (.slice a5 d.size c5) (.slice af g.length cf) W6.heap.size W7 HO7.out (by have := HLG.out; omega) (by have := HLG.out; omega) hbs t7 (HO6.out.ne_new) HU7.out).mono ?_
            rintro x w8 ⟨v8, rfl, ho8, hgr⟩
            obtain ⟨hown8, ht8, hi8, hv8, hb8⟩ := Wo.behind HO7.out (fun x hx => by
              rcases List.mem_append.1 hx with hx | hx
              · rcases List.mem_append.1 hx with hx | hx
                · exact HO7.out.2 x (List.mem_of_mem_take hx)
                · simp only [List.mem_singleton] at hx
                  subst hx
                  exact HU7.out
              · exact HO7.out.2 x (List.mem_of_mem_drop hx)) ho8 hgr HT7.out HI7.out HV7.out HB7.out HB2.out.size HZ.out
            obtain ⟨a8, c8, rfl⟩ := hown8.slice
            obtain ⟨n8, hn8⟩ : ∃ n, (g.take k ++ [((name, d), Value.slice a5 d.size c5)] ++ g.drop k).length = n := ⟨_, rfl⟩
            rw [hn8] at hown8
            obtain ⟨W9, hW9, x0, xf, ⟨y0, y1, y2⟩, hown9, hi9, hv9, hb9⟩ := Wo.taken hown8 ht8 hi8 hv8 hb8 HZ.out
            obtain ⟨X1, X2, X3, ⟨f0, z0, s0⟩, ⟨f1, z1, s1⟩, ⟨f2, z2, s2⟩, ⟨r0, r1, r2⟩, HOUT⟩ := Wo.put_made (W := (W.1.take k ++ [(name, d)] ++ W.1.drop k, W.2.1, W.2.2)) (HR.out _ hb9) hown9 (by rw [List.map_append, List.map_append, List.map_take, List.map_drop, HG.out]; rfl) hi9 hv9 (HB.out _ hb9) (by omega)
            clear ht8 hown8 hi8 hv8 hb8 hown9 hi9 hv9 hb9 ho8 hgr hb7 t7 hs7
            rw [hn8]
            go_wp2_with fail
            refine bodyPost_ret (v := .tuple #[.agg #[.slice a8 n8 c8, .slice ai W.2.1.size ci, .slice ao W.2.2.size co], .int .i64 0]) (by simp [results, Try.results6, go_sem, r0, r1, r2]) rfl ⟨_, rfl, HOUT.out.1, HOUT.out.2⟩
          | true =>
            have hkl := hkl rfl
            simp only [if_true]
            clear hfull
            go_enter Try.func6, Try.ntmps6
            go_wp2_with fail
            refine (KS _ (HIN.out _ (Below.refl _ _))).mono ?_
            rintro x w1 ⟨rfl, hb1⟩
            obtain ⟨_, c0, c1, c2⟩ := HQ.out _ hb1
            go_wp2_with fail
            refine (KF _ (HIN.out _ hb1)).mono ?_
            rintro x w2 ⟨rfl, hb2⟩
            have hb2 := hb1.trans (hb2.mono hb1.size)
            obtain ⟨_, d0, d1, d2⟩ := HQ.out _ hb2
            have HB2 := Lib.hid hb2
            clear hb1 hb2 c0 c1 c2
            go_wp2_with fail
            refine (KN _).mono ?_
            rintro x wn ⟨rfl, hwn⟩
            subst hwn
            go_wp2_with fail
            refine (KC _ (HIN.out _ HB2.out)).mono ?_
            rintro x w3 ⟨v3, rfl, hm, hb3⟩
            obtain ⟨fv3, iv3, ov3, g, rfl, ho3, hg3, hi3, hv3, _⟩ := hm
            have hb3s := hb3.size
            have hb3 := HB2.out.trans (hb3.mono HB2.out.size)
            have HLG := Lib.hid (show g.length = W.1.length by rw [← hg3]; simp)
            obtain ⟨af, cf, rfl⟩ := ho3.slice
            obtain ⟨ai, ci, rfl⟩ := hi3.1.slice
            obtain ⟨ao, co, rfl⟩ := hv3.1.slice
            obtain ⟨W4, hW4, t0, hs4, hb4⟩ := Wo.one w3 (.cells #[.slice af g.length cf, .slice ai W.2.1.size ci, .slice ao W.2.2.size co] 26)
            obtain ⟨T, hT⟩ : ∃ T, w3.heap.size = T := ⟨_, rfl⟩
            rw [hT] at t0 hs4
            have HO4 := Lib.hid (ho3.below hb4 (Nat.le_refl _))
            have HI4 := Lib.hid (hi3.below hb4 (Nat.le_refl _))
            have HV4 := Lib.hid (hv3.below hb4 (Nat.le_refl _))
            have HB4 := Lib.hid (hb3.trans (hb4.mono hb3.size))
            have HT := Lib.hid t0
            have HG := Lib.hid hg3
            have HZ := Lib.hid (show W2.heap.size ≤ T from hT ▸ hb3.size)
            have HWT := Lib.hid (show wn.heap.size ≤ T from hT ▸ hb3s)
            clear t0 hb3s ho3 hi3 hv3 hb3 hb4 hg3 hs4 d0 d1 d2
            go_wp2_with fail
            refine (KD _ (HDN.out _ HB4.out)).mono ?_
            rintro x w5 ⟨v5, rfl, hu5, hb5, _⟩
            obtain ⟨a5, c5, rfl⟩ := hu5.1.slice
            have HU5 := Lib.hid hu5
            have HB5 := Lib.hid hb5
            clear hu5 hb5
            obtain ⟨W6, hW6, t6, hs6, hb6⟩ := Wo.one w5 (.cells #[.string name, .slice a5 d.size c5] 53)
            have hb6 := HB5.out.trans (hb6.mono HB5.out.size)
            have hx5 : Below w5.heap.size w5 W6 := hW6 ▸ (Below.refl _ _).alloc (Nat.le_refl _) _
            obtain ⟨T2, hT2⟩ : ∃ T, w5.heap.size = T := ⟨_, rfl⟩
            rw [hT2] at t6 hs6
            have m0 := Dt.cell_of t6 0
            have m1 := Dt.cell_of t6 1
            obtain ⟨_, l0, l1, l2⟩ := Wo.row3 HT.out hb6 (Nat.le_refl _)
            have HU6 := Lib.hid (HU5.out.below hx5 (Nat.le_refl _))
            have HO6 := Lib.hid (HO4.out.below hb6 (Nat.le_refl _))
            have HI6 := Lib.hid (HI4.out.below hb6 (Nat.le_refl _))
            have HV6 := Lib.hid (HV4.out.below hb6 (Nat.le_refl _))
            have HT6 := Lib.hid (Wo.row3 HT.out hb6 (Nat.le_refl _)).1
            have HB6 := Lib.hid (HB4.out.trans (hb6.mono HB4.out.size))
            have hkg : k < g.length := by have := HLG.out; omega
            obtain ⟨b, P1, P2, p0, p1, rfl, hcf, ⟨n0, n1, n2⟩, ⟨n3, n4, n5⟩, ho8, hgr⟩ := HO6.out.put k hkg (name, d) (.slice a5 d.size c5) HU6.out
            obtain ⟨hown8, ht8, hi8, hv8, hb8⟩ := Wo.behind HO6.out (fun x hx => by
              rcases List.mem_append.1 hx with hx | hx
              · rcases List.mem_append.1 hx with hx | hx
                · exact HO6.out.2 x (List.mem_of_mem_take hx)
                · simp only [List.mem_singleton] at hx
                  subst hx
                  exact HU6.out
              · exact HO6.out.2 x (List.mem_of_mem_drop hx)) ho8 hgr HT6.out HI6.out HV6.out HB6.out HB2.out.size HZ.out
            have y0 := Dt.cell_of ht8 0
            have y1 := Dt.cell_of ht8 1
            have y2 := Dt.cell_of ht8 2
            obtain ⟨X1, X2, X3, ⟨f0, z0, s0⟩, ⟨f1, z1, s1⟩, ⟨f2, z2, s2⟩, ⟨r0, r1, r2⟩, HOUT⟩ := Wo.put_made (W := (W.1.take k ++ [(name, d)] ++ W.1.drop (k + 1), W.2.1, W.2.2)) (HR.out _ hb8) hown8 (by rw [List.map_append, List.map_append, List.map_take, List.map_drop, HG.out]; rfl) hi8 hv8 (HB.out _ hb8) (by omega)
            clear hb6 hx5 t6 hs6 ht8 hown8 hi8 hv8 hb8 ho8 hgr
            go_wp2_with fail
            refine bodyPost_ret (v := .tuple #[.agg #[.slice (some ⟨b, 0, none⟩) g.length cf, .slice ai W.2.1.size ci, .slice ao W.2.2.size co], .int .i64 0]) (by simp [results, Try.results6, go_sem, r0, r1, r2]) rfl ⟨_, rfl, HOUT.out.1, HOUT.out.2⟩
end Go.Proofs.Ytdikkknjdbchbaa
