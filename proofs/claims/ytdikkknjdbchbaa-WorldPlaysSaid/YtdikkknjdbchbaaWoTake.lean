/-
  world.Take of any world.
-/
import Derived.Test.YtdikkknjdbchbaaWoPut
import Derived.Deep.RegionHeld3
namespace Go.Proofs.Ytdikkknjdbchbaa
open Go.RowKit
set_option linter.unusedVariables false

theorem Wo.bytesOf_size (l : List UInt8) : (Wo.bytesOf l).size = l.length := by show l.toArray.size = _; simp
theorem Wo.byt_of (l : List UInt8) (j : Nat) (h : j < l.length) : Cd.byt (Wo.bytesOf l) j = (l[j]).toNat := by
  unfold Cd.byt Wo.bytesOf
  show (((l.toArray)[j]!).toNat : Int) = _
  rw [getElem!_pos l.toArray j (by simpa using h)]
  simp
theorem Wo.byt_list (s : ByteArray) (j : Nat) (h : j < s.data.toList.length) : Cd.byt s j = (s.data.toList[j]).toNat := by
  have := Wo.byt_of s.data.toList j h
  rwa [show Wo.bytesOf s.data.toList = s from rfl] at this
theorem Wo.len_list (s : ByteArray) : s.data.toList.length = s.size := by simp
/-- The first n bytes. -/
theorem By.In.takeN {w : World} {ad : Option Addr} {cap : Nat} {s : ByteArray} (h : By.In w (.slice ad s.size cap) s) (n : Nat) (hn : n ≤ s.size) : By.In w (.slice ad n cap) (Wo.bytesOf (s.data.toList.take n)) := by
  have hl : (Wo.bytesOf (s.data.toList.take n)).size = n := by rw [Wo.bytesOf_size, List.length_take, Wo.len_list]; omega
  rcases h with ⟨h1, h0⟩ | ⟨a, c, h1, h0⟩ | ⟨h0, b, off, c, h1, h2, h3, hc⟩
  · simp only [Value.slice.injEq] at h1
    obtain ⟨rfl, _, rfl⟩ := h1
    obtain rfl : n = 0 := by omega
    exact .inl ⟨rfl, hl⟩
  · simp only [Value.slice.injEq] at h1
    obtain ⟨rfl, _, rfl⟩ := h1
    obtain rfl : n = 0 := by omega
    exact .inr (.inl ⟨a, cap, rfl, hl⟩)
  · simp only [Value.slice.injEq] at h1
    obtain ⟨rfl, _, rfl⟩ := h1
    rcases Nat.eq_zero_or_pos n with h4 | h4
    · subst h4
      exact .inr (.inl ⟨_, cap, rfl, hl⟩)
    · refine .inr (.inr ⟨by omega, b, off, cap, by rw [hl], by omega, h3, fun j hj => ?_⟩)
      rw [hl] at hj
      rw [hc j (by omega), Wo.byt_list s j (by rw [Wo.len_list]; omega), Wo.byt_of _ j (by rw [List.length_take, Wo.len_list]; omega)]
      simp
/-- The bytes from n on. -/
theorem By.In.dropN {w : World} {b off cap : Nat} {s : ByteArray} (h : By.In w (.slice (some ⟨b, off, none⟩) s.size cap) s) (n : Nat) (hn : n < s.size) : By.In w (.slice (some ⟨b, off + n, none⟩) (s.size - n) (cap - n)) (Wo.bytesOf (s.data.toList.drop n)) := by
  have hl : (Wo.bytesOf (s.data.toList.drop n)).size = s.size - n := by rw [Wo.bytesOf_size, List.length_drop, Wo.len_list]
  rcases h with ⟨h1, h0⟩ | ⟨a, c, h1, h0⟩ | ⟨h0, b, off, c, h1, h2, h3, hc⟩
  · omega
  · omega
  · simp only [Value.slice.injEq, Option.some.injEq, Addr.mk.injEq] at h1
    obtain ⟨⟨rfl, rfl, _⟩, _, rfl⟩ := h1
    refine .inr (.inr ⟨by omega, _, _, _, by rw [hl], by omega, h3, fun j hj => ?_⟩)
    rw [hl] at hj
    rw [Nat.add_assoc, hc (n + j) (by omega), Wo.byt_list s (n + j) (by rw [Wo.len_list]; omega), Wo.byt_of _ j (by rw [List.length_drop, Wo.len_list]; omega)]
    simp
theorem Wo.dropN_empty {w : World} (a : Addr) (n cap : Nat) {s : ByteArray} (hn : s.size ≤ n) : By.In w (.slice (some a) 0 cap) (Wo.bytesOf (s.data.toList.drop n)) :=
  .inr (.inl ⟨a, cap, rfl, by rw [Wo.bytesOf_size, List.length_drop, Wo.len_list]; omega⟩)

/-- The box takes other bytes to be read. -/
theorem Wo.readOn {w5 W2 : World} {B T : Nat} {v4 i4 o4 i5 : Value} {s5 so : ByteArray} {g : List (Wo.F × Value)} (ho : Wo.Own w5 B v4 g) (hT : w5.heap[T]? = some (.cells #[v4, i4, o4] 26 (0, 0))) (hi : Wo.InU w5 i5 s5) (hov : Wo.InU w5 o4 so) (hb : Below W2.heap.size W2 w5) (hT2 : W2.heap.size ≤ T) :
    ∃ W6, w5.setCell ⟨T, 1, none⟩ i5 = W6 ∧ w5.cell? ⟨T, 1, none⟩ = some i4 ∧ w5.frozen? ⟨T, 1, none⟩ = false ∧ W6.heap[T]? = some (.cells #[v4, i5, o4] 26 (0, 0)) ∧ Wo.Own W6 B v4 g ∧ Wo.InU W6 i5 s5 ∧ Wo.InU W6 o4 so ∧ Below W2.heap.size W2 W6 := by
  have hT6 : (w5.setCell ⟨T, 1, none⟩ i5).heap[T]? = some (.cells #[v4, i5, o4] 26 (0, 0)) := Dt.setCells hT 1 _
  exact ⟨_, rfl, Dt.cell_of hT 1, Dt.frozen_of hT 1, hT6, ho.set (by decide) (by decide) hT _, hi.set (by decide) hT _, hov.set (by decide) hT _, hb.setCell (p := ⟨T, 1, none⟩) hT2 _⟩

/-- The bytes from n on, as a slice expression leaves them. -/
theorem By.In.dropA {w : World} {ad : Option Addr} {cap : Nat} {s : ByteArray} (h : By.In w (.slice ad s.size cap) s) (n : Nat) (hn : n ≤ s.size) : By.In w (.slice (if cap = n then ad else ad.map (·.add (n * 1))) (s.size - n) (cap - n)) (Wo.bytesOf (s.data.toList.drop n)) := by
  have hl : (Wo.bytesOf (s.data.toList.drop n)).size = s.size - n := by rw [Wo.bytesOf_size, List.length_drop, Wo.len_list]
  rcases h with ⟨h1, h0⟩ | ⟨a, c, h1, h0⟩ | ⟨h0, b, off, c, h1, h2, h3, hc⟩
  · simp only [Value.slice.injEq] at h1
    obtain ⟨rfl, _, rfl⟩ := h1
    obtain rfl : n = 0 := by omega
    exact .inl ⟨by simp [h0], by omega⟩
  · simp only [Value.slice.injEq] at h1
    obtain ⟨rfl, _, rfl⟩ := h1
    obtain rfl : n = 0 := by omega
    rw [h0]
    by_cases hc : cap = 0
    · rw [if_pos hc]; exact .inr (.inl ⟨a, cap, rfl, by omega⟩)
    · rw [if_neg hc]; exact .inr (.inl ⟨_, cap, rfl, by omega⟩)
  · simp only [Value.slice.injEq] at h1
    obtain ⟨rfl, _, rfl⟩ := h1
    by_cases hlt : n < s.size
    · rw [if_neg (by omega)]
      simp only [Option.map_some, Sl.addr_add, Nat.mul_one]
      exact By.In.dropN (.inr (.inr ⟨h0, b, off, cap, rfl, h2, h3, hc⟩)) n hlt
    · rw [show s.size - n = 0 by omega]
      by_cases hcn : cap = n
      · rw [if_pos hcn]; exact Wo.dropN_empty _ n _ (by omega)
      · rw [if_neg hcn]; exact Wo.dropN_empty _ n _ (by omega)
/-- The result's box takes a world that the call has made: what else is known behind it. -/
theorem Wo.put_made2 {wz w0 : World} {r B B0 : Nat} {z0 z1 z2 fv iv ov : Value} {g : List (Wo.F × Value)} {W : Wo.W} (hr : wz.heap[r]? = some (.cells #[z0, z1, z2] 26 (0, 0)))
    (ho : Wo.Own wz B fv g) (hg : g.map (·.1) = W.1) (hi : Wo.InU wz iv W.2.1) (hov : Wo.InU wz ov W.2.2) (hb : Below B0 w0 wz) (hB0 : B0 ≤ r) :
    ∃ X1 X2 X3 : World,
    (wz.cell? ⟨r, 0, none⟩ = some z0 ∧ wz.frozen? ⟨r, 0, none⟩ = false ∧ wz.setCell ⟨r, 0, none⟩ fv = X1) ∧
    (X1.cell? ⟨r, 1, none⟩ = some z1 ∧ X1.frozen? ⟨r, 1, none⟩ = false ∧ X1.setCell ⟨r, 1, none⟩ iv = X2) ∧
    (X2.cell? ⟨r, 2, none⟩ = some z2 ∧ X2.frozen? ⟨r, 2, none⟩ = false ∧ X2.setCell ⟨r, 2, none⟩ ov = X3) ∧
    (X3.cell? ⟨r, 0, none⟩ = some fv ∧ X3.cell? ⟨r, 1, none⟩ = some iv ∧ X3.cell? ⟨r, 2, none⟩ = some ov) ∧ X3.heap.size = wz.heap.size ∧ Hid (Wo.In X3 (.agg #[fv, iv, ov]) W ∧ Below B0 w0 X3 ∧ X3.heap[r]? = some (.cells #[fv, iv, ov] 26 (0, 0)) ∧ (∀ u s, Wo.InU wz u s → Wo.InU X3 u s) ∧ ∀ q, q ≠ r → X3.heap[q]? = wz.heap[q]?) := by
  obtain ⟨X1, X2, X3, ⟨f0, z0, e0, s0⟩, ⟨f1, z1, e1, s1⟩, ⟨f2, z2, e2, s2⟩, hR, hXs, hXo, hXb⟩ := Dt.put3 hr fv iv ov
  have ho' : Wo.Own X3 B fv g := ho.moved (by decide) (by decide) hr hXo (Nat.le_of_eq hXs.symm) (Nat.le_refl _)
  exact ⟨X1, X2, X3, ⟨f0, z0, e0⟩, ⟨f1, z1, e1⟩, ⟨f2, z2, e2⟩, ⟨Dt.cell_of hR 0, Dt.cell_of hR 1, Dt.cell_of hR 2⟩, hXs, Lib.hid ⟨⟨fv, iv, ov, rfl, hg ▸ ho'.fs, (hi.kept (by decide) hr (fun b hb _ => hXo b hb) (Nat.le_of_eq hXs.symm)).1, (hov.kept (by decide) hr (fun b hb _ => hXo b hb) (Nat.le_of_eq hXs.symm)).1⟩, hXb _ _ hb hB0, hR, fun u s hu => hu.kept (by decide) hr (fun b hb _ => hXo b hb) (Nat.le_of_eq hXs.symm), hXo⟩⟩

set_option maxHeartbeats 8000000 in
set_option maxRecDepth 1000000 in
theorem Wo.Take_any (W : Wo.W) (v : Value) (n : Int) (w : World) (h : Wo.In w v W) (hn63 : (Lit.int .i64 n).wf = true) : Calls Try.prog 16 #[v, .int .i64 n] w fun e w' => ∃ p v', e = .returned (.tuple #[p, v', .int .i64 (Wo.takeS W n).2.2]) ∧ By.In w' p (Wo.takeS W n).1 ∧ Wo.In w' v' (Wo.takeS W n).2.1 ∧ Below w.heap.size w w' := by
  have KS := fun w h => Wo.Sound_any W v w h
  obtain ⟨fv, iv, ov, rfl, hf, hi, ho⟩ := id h
  have H := Lib.hid h
  clear h
  obtain ⟨ad, cap, rfl⟩ := hf.slice
  obtain ⟨ad1, cap1, rfl⟩ := hi.slice
  obtain ⟨ad2, cap2, rfl⟩ := ho.slice
  have HI0 := Lib.hid hi
  clear hf hi ho
  obtain ⟨W2, hW2, q0, q1, hsz, hb0⟩ := Wo.two w (.cells #[.slice ad W.1.length cap, .slice ad1 W.2.1.size cap1, .slice ad2 W.2.2.size cap2] 26) (.cells #[.slice none 0 0, .slice none 0 0, .slice none 0 0] 26)
  have HIN := Lib.hid (fun (w' : World) (hb : Below W2.heap.size W2 w') => (H.out.below hb0 (Nat.le_refl _)).below hb (Nat.le_refl _))
  have HII := Lib.hid (fun (w' : World) (hb : Below W2.heap.size W2 w') => (HI0.out.below hb0 (Nat.le_refl _)).below hb (Nat.le_refl _))
  have HQ := Lib.hid (fun (w' : World) (hb : Below W2.heap.size W2 w') => Wo.row3 q0 hb (Nat.le_refl _))
  have HR := Lib.hid (fun (w' : World) (hb : Below W2.heap.size W2 w') => (Wo.row3 q1 hb (Nat.le_refl _)).1)
  have HB := Lib.hid (fun (w' : World) (hb : Below W2.heap.size W2 w') => hb0.trans (hb.mono (by omega : w.heap.size ≤ W2.heap.size)))
  obtain ⟨_, e0, e1, e2⟩ := HQ.out W2 (Below.refl _ _)
  clear q0 q1 hb0
  cases hs : Wo.sound W with
  | false =>
    have hg : Wo.takeS W n = (⟨#[]⟩, Wo.w0, 2) := by simp [Wo.takeS, hs]
    simp only [hs] at KS
    rw [hg]
    go_enter Try.func16, Try.ntmps16
    go_wp2_with fail
    refine (KS _ (HIN.out _ (Below.refl _ _))).mono ?_
    rintro x w1 ⟨rfl, hb1⟩
    obtain ⟨X1, X2, X3, ⟨f0, z0, s0⟩, ⟨f1, z1, s1⟩, ⟨f2, z2, s2⟩, ⟨r0, r1, r2⟩, HOUT⟩ := Wo.put_none (HR.out _ hb1) (HB.out _ hb1) (by omega)
    clear hb1
    go_wp2_with fail
    refine bodyPost_ret (v := .tuple #[.slice none 0 0, .agg #[.slice none 0 0, .slice none 0 0, .slice none 0 0], .int .i64 2]) (by simp [results, Try.results16, go_sem, r0, r1, r2]) rfl ⟨_, _, rfl, .inl ⟨rfl, rfl⟩, HOUT.out.1, HOUT.out.2⟩
  | true =>
    have KC := fun w h => Wo.Copy_any W (.agg #[.slice ad W.1.length cap, .slice ad1 W.2.1.size cap1, .slice ad2 W.2.2.size cap2]) w h hs
    have hbd := (Wo.sound_bd hs).2.1
    simp only [hs] at KS
    by_cases hneg : 0 ≤ n
    case neg =>
      have hg : Wo.takeS W n = (⟨#[]⟩, Wo.w0, 1) := by simp [Wo.takeS, hs, hneg]
      have hlt : n < 0 := by omega
      rw [hg]
      go_enter Try.func16, Try.ntmps16
      go_wp2_with fail
      refine (KS _ (HIN.out _ (Below.refl _ _))).mono ?_
      rintro x w1 ⟨rfl, hb1⟩
      obtain ⟨X1, X2, X3, ⟨f0, z0, s0⟩, ⟨f1, z1, s1⟩, ⟨f2, z2, s2⟩, ⟨r0, r1, r2⟩, HOUT⟩ := Wo.put_none (HR.out _ hb1) (HB.out _ hb1) (by omega)
      clear hb1
      go_wp2_with fail
      refine bodyPost_ret (v := .tuple #[.slice none 0 0, .agg #[.slice none 0 0, .slice none 0 0, .slice none 0 0], .int .i64 1]) (by simp [results, Try.results16, go_sem, r0, r1, r2]) rfl ⟨_, _, rfl, .inl ⟨rfl, rfl⟩, HOUT.out.1, HOUT.out.2⟩
    case pos =>
      obtain ⟨m, rfl⟩ := Int.eq_ofNat_of_zero_le hneg
      by_cases hle : m ≤ W.2.1.size
      case neg =>
        have hg : Wo.takeS W m = (⟨#[]⟩, Wo.w0, 11) := by simp [Wo.takeS, hs]; omega
        have hnlt : ¬ (m : Int) < 0 := by omega
        have hgt : (m : Int) > (W.2.1.size : Int) := by omega
        rw [hg]
        go_enter Try.func16, Try.ntmps16
        go_wp2_with fail
        refine (KS _ (HIN.out _ (Below.refl _ _))).mono ?_
        rintro x w1 ⟨rfl, hb1⟩
        obtain ⟨_, c0, c1, c2⟩ := HQ.out _ hb1
        obtain ⟨X1, X2, X3, ⟨f0, z0, s0⟩, ⟨f1, z1, s1⟩, ⟨f2, z2, s2⟩, ⟨r0, r1, r2⟩, HOUT⟩ := Wo.put_none (HR.out _ hb1) (HB.out _ hb1) (by omega)
        clear hb1
        go_wp2_with fail
        refine bodyPost_ret (v := .tuple #[.slice none 0 0, .agg #[.slice none 0 0, .slice none 0 0, .slice none 0 0], .int .i64 11]) (by simp [results, Try.results16, go_sem, r0, r1, r2]) rfl ⟨_, _, rfl, .inl ⟨rfl, rfl⟩, HOUT.out.1, HOUT.out.2⟩
      case pos =>
        have hg : Wo.takeS W m = (Wo.bytesOf (W.2.1.data.toList.take m), (W.1, Wo.bytesOf (W.2.1.data.toList.drop m), W.2.2), 0) := by simp [Wo.takeS, hs]; omega
        have hngt : ¬ (m : Int) > (W.2.1.size : Int) := by omega
        have hle1 : (m : Int) ≤ (W.2.1.size : Int) := by omega
        have hcap1 : W.2.1.size ≤ cap1 := by
          rcases HI0.out with ⟨h1, h0⟩ | ⟨a, c, h1, h0⟩ | ⟨h0, b, off, c, h1, h2, _⟩
          · omega
          · omega
          · simp only [Value.slice.injEq] at h1
            omega
        have hlec : (m : Int) ≤ (cap1 : Int) := by omega
        rw [hg]
        obtain ⟨pre, hpre⟩ : ∃ s, Wo.bytesOf (W.2.1.data.toList.take m) = s := ⟨_, rfl⟩
        obtain ⟨suf, hsuf⟩ : ∃ s, Wo.bytesOf (W.2.1.data.toList.drop m) = s := ⟨_, rfl⟩
        have hprel : pre.size = m := by rw [← hpre, Wo.bytesOf_size, List.length_take, Wo.len_list]; omega
        have hsufl : suf.size = W.2.1.size - m := by rw [← hsuf, Wo.bytesOf_size, List.length_drop, Wo.len_list]
        have KP := fun w dv h => Wo.clone_any pre dv w h (by omega)
        have KU := fun w dv h => Wo.clone_any suf dv w h (by omega)
        obtain ⟨A, hA⟩ : ∃ A, (if cap1 = m then ad1 else ad1.map (·.add (m * 1))) = A := ⟨_, rfl⟩
        have hsl : ∀ W' : World, (Instr.slice 22 (.slice ad1 W.2.1.size cap1) (some (.int .i64 (m : Int))) none none).run Try.prog W' = .ok (.slice A (W.2.1.size - m) (cap1 - m)) W' := by
          intro W'
          rw [run_slice_l (P := Try.prog) W' 22 ad1 W.2.1.size cap1 Try.underlying22 .i64 m (by omega) (by omega), ← hA]
          simp [sizeOf, sliced, go_sem]
          show (if cap1 = m then ad1 else Option.map (fun x => x.add (m * 1)) ad1) = _
          simp
        have HSU := Lib.hid (fun (w' : World) (h : By.In w' (.slice ad1 W.2.1.size cap1) W.2.1) => (show By.In w' (.slice A (W.2.1.size - m) (cap1 - m)) suf from hA ▸ hsuf ▸ h.dropA m hle))
        have HPR := Lib.hid (fun (w' : World) (h : By.In w' (.slice ad1 W.2.1.size cap1) W.2.1) => (show By.In w' (.slice ad1 m cap1) pre from hpre ▸ h.takeN m hle))
        have HPL := Lib.hid hprel
        have HSL := Lib.hid hsufl
        rw [hpre, hsuf]
        clear hpre hsuf hA hprel hsufl
        go_enter Try.func16, Try.ntmps16
        go_wp2_with fail
        refine (KS _ (HIN.out _ (Below.refl _ _))).mono ?_
        rintro x w1 ⟨rfl, hb1⟩
        obtain ⟨_, c0, c1, c2⟩ := HQ.out _ hb1
        have HB2 := Lib.hid hb1
        clear hb1
        go_wp2_with fail
        refine (KC _ (HIN.out _ HB2.out)).mono ?_
        rintro x w3 ⟨v3, rfl, hm, hb3⟩
        obtain ⟨fv3, iv3, ov3, g, rfl, ho3, hg3, hi3, hv3, _⟩ := hm
        have hb3 := HB2.out.trans (hb3.mono HB2.out.size)
        obtain ⟨af, cf, rfl⟩ := ho3.slice
        obtain ⟨ai, ci, rfl⟩ := hi3.1.slice
        obtain ⟨ao, co, rfl⟩ := hv3.1.slice
        obtain ⟨W4, hW4, t0, hs4, hb4⟩ := Wo.one w3 (.cells #[.slice af g.length cf, .slice ai W.2.1.size ci, .slice ao W.2.2.size co] 26)
        obtain ⟨T, hT⟩ : ∃ T, w3.heap.size = T := ⟨_, rfl⟩
        rw [hT] at t0 hs4
        have HO4 := Lib.hid (ho3.below hb4 (Nat.le_refl _))
        have HV4 := Lib.hid (hv3.below hb4 (Nat.le_refl _))
        have HB4 := Lib.hid (hb3.trans (hb4.mono hb3.size))
        have HT := Lib.hid t0
        have HG := Lib.hid hg3
        have HZ := Lib.hid (show W2.heap.size ≤ T from hT ▸ hb3.size)
        obtain ⟨_, d0, d1, d2⟩ := HQ.out _ HB4.out
        clear t0 ho3 hi3 hv3 hb3 hb4 hg3 hs4 c0 c1 c2
        go_wp2_with fail
        refine (KU _ _ (HSU.out _ (HII.out _ HB4.out))).mono ?_
        rintro x w5 ⟨v5, rfl, hu5, hb5, _⟩
        obtain ⟨a5, c5, rfl⟩ := hu5.1.slice
        have HU5 := Lib.hid hu5
        have HB5 := Lib.hid (HB4.out.trans (hb5.mono HB4.out.size))
        obtain ⟨ht5, _⟩ := Wo.row3 HT.out hb5 (Nat.le_refl _)
        have HO5 := Lib.hid (HO4.out.below hb5 (Nat.le_refl _))
        have HV5 := Lib.hid (HV4.out.below hb5 (Nat.le_refl _))
        obtain ⟨W6, hW6, p0, pf, ht6, ho6, hi6, hv6, hb6⟩ := Wo.readOn HO5.out ht5 HU5.out HV5.out HB5.out HZ.out
        have HT6 := Lib.hid ht6
        have HO6 := Lib.hid ho6
        have HI6 := Lib.hid hi6
        have HV6 := Lib.hid hv6
        have HB6 := Lib.hid hb6
        obtain ⟨_, l0, l1, l2⟩ := Wo.row3 HT6.out (Below.refl W6.heap.size W6) (Nat.le_refl _)
        obtain ⟨_, i0, i1, i2⟩ := HQ.out _ HB6.out
        clear hu5 hb5 ht5 ht6 ho6 hi6 hv6 hb6 d0 d1 d2 hsl
        go_wp2_with fail
        have hacc : Below W6.heap.size W6 W6.drew := (Below.refl _ _).drew
        have hle0 : (0 : Int) ≤ (m : Int) := by omega
        have hzr : w.heap.size + 1 < W2.heap.size := by omega
        obtain ⟨X1, X2, X3, ⟨f0, z0, s0⟩, ⟨f1, z1, s1⟩, ⟨f2, z2, s2⟩, ⟨r0, r1, r2⟩, hX3, HOUT⟩ := Wo.put_made2 (W := (W.1, suf, W.2.2)) (HR.out _ (HB6.out.trans (hacc.mono HB6.out.size))) (HO6.out.below hacc (Nat.le_refl _)) HG.out (HI6.out.below hacc (Nat.le_refl _)) (HV6.out.below hacc (Nat.le_refl _)) (HB.out _ (HB6.out.trans (hacc.mono HB6.out.size))) (by omega)
        have hkX : X3.cell? ⟨w.heap.size, 1, none⟩ = some (.slice ad1 W.2.1.size cap1) := by
          have := HOUT.out.2.2.2.2 w.heap.size (by omega)
          exact (Dt.cell_of (this.trans (Wo.row3 (HQ.out _ HB6.out).1 hacc (Nat.le_refl _)).1) 1)
        go_region_held3 (fun w' => w'.cell? ⟨w.heap.size, 1, none⟩ = some (.slice ad1 W.2.1.size cap1) ∧ w'.cell? ⟨T, 0, none⟩ = some (.slice af g.length cf) ∧ w'.cell? ⟨T, 1, none⟩ = some (.slice a5 suf.size c5) ∧ w'.cell? ⟨T, 2, none⟩ = some (.slice ao W.2.2.size co))
          (first | go_keep | exact hkeep | exact hkeepX)
          (first
            | (go_at_call 26
               refine (KP _ _ (HPR.out _ (HII.out _ (HB6.out.trans (hacc.mono HB6.out.size))))).mono ?_
               rintro x w7 ⟨v7, rfl, hu7, hb7, _⟩
               have hacc7 := hacc.trans (hb7.mono hacc.size)
               have hb27 := HB6.out.trans (hacc7.mono HB6.out.size)
               obtain ⟨Y1, Y2, Y3, ⟨g0, k0, n0⟩, ⟨g1, k1, n1⟩, ⟨g2, k2, n2⟩, ⟨m0, m1, m2⟩, hY3, HOUY⟩ := Wo.put_made2 (W := (W.1, suf, W.2.2)) (HR.out _ hb27) (HO6.out.below hacc7 (Nat.le_refl _)) HG.out (HI6.out.below hacc7 (Nat.le_refl _)) (HV6.out.below hacc7 (Nat.le_refl _)) (HB.out _ hb27) (by omega)
               have hkeep := And.intro (HQ.out _ hb27).2.2.1 (Wo.row3 HT6.out hacc7 (Nat.le_refl _)).2
               have hkeepX := And.intro (Dt.cell_of ((HOUY.out.2.2.2.2 w.heap.size (by omega)).trans (HQ.out _ hb27).1) 1) (Wo.row3 ((HOUY.out.2.2.2.2 T (by have := HZ.out; omega)).trans (Wo.row3 HT6.out hacc7 (Nat.le_refl _)).1) (Below.refl Y3.heap.size Y3) (Nat.le_refl _)).2
               have HU7 := Lib.hid (HOUY.out.2.2.2.1 _ _ hu7)))
        have HOUZ := Lib.hid (And.intro HOUY.out.1 HOUY.out.2.1)
        clear hkeep hkeepX hacc7 hb27 hacc hu7 hb7 g0 k0 n0 g1 k1 n1 g2 k2 n2 f0 z0 s0 f1 z1 s1 f2 z2 s2 r0 r1 r2 hkX HOUY HOUT hY3 hX3
        rw [HSL.out] at *
        go_wp2_with fail
        refine bodyPost_ret (v := .tuple #[v7, .agg #[.slice af g.length cf, .slice a5 (W.2.1.size - m) c5, .slice ao W.2.2.size co], .int .i64 0]) (by simp [results, Try.results16, go_sem, m0, m1, m2]) rfl ⟨_, _, rfl, HU7.out.1, HOUZ.out.1, HOUZ.out.2⟩
end Go.Proofs.Ytdikkknjdbchbaa
