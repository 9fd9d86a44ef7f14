/-
  world.Get of any world.
-/
import Derived.Test.YtdikkknjdbchbaaWoLaw
import Derived.Test.YtdikkknjdbchbaaWoCopy
namespace Go.Proofs.Ytdikkknjdbchbaa
open Go.RowKit
set_option linter.unusedVariables false

/-- Two blocks behind a world. -/
theorem Wo.two (w : World) (o o2 : Obj) : ∃ W2, (w.alloc o).alloc o2 = W2 ∧ W2.heap[w.heap.size]? = some o ∧ W2.heap[w.heap.size + 1]? = some o2 ∧ W2.heap.size = w.heap.size + 2 ∧ Below w.heap.size w W2 := by
  have hsz : (w.alloc o).heap.size = w.heap.size + 1 := by simp
  refine ⟨_, rfl, ?_, ?_, by simp, ?_⟩
  · exact (Lib.alloc_old _ _ _ (by rw [hsz]; omega)).trans (heap_alloc_new w o)
  · have := heap_alloc_new (w.alloc o) o2
    rwa [hsz] at this
  · exact ((Below.refl _ _).alloc (Nat.le_refl _) _).alloc (by rw [hsz]; omega) _
theorem Wo.one (w : World) (o : Obj) : ∃ W2, w.alloc o = W2 ∧ W2.heap[w.heap.size]? = some o ∧ W2.heap.size = w.heap.size + 1 ∧ Below w.heap.size w W2 :=
  ⟨_, rfl, heap_alloc_new w o, by simp, (Below.refl _ _).alloc (Nat.le_refl _) _⟩
theorem Wo.row3 {w : World} {b : Nat} {v0 v1 v2 : Value} {t : TypeId} (h : w.heap[b]? = some (.cells #[v0, v1, v2] t (0, 0))) {B : Nat} {w' : World} (hb : Below B w w') (hB : w.heap.size ≤ B) :
    w'.heap[b]? = some (.cells #[v0, v1, v2] t (0, 0)) ∧ w'.cell? ⟨b, 0, none⟩ = some v0 ∧ w'.cell? ⟨b, 1, none⟩ = some v1 ∧ w'.cell? ⟨b, 2, none⟩ = some v2 := by
  have hlt := (Array.getElem?_eq_some_iff.1 h).1
  have h2 := (hb.block b (by omega)).trans h
  exact ⟨h2, Dt.cell_of h2 0, Dt.cell_of h2 1, Dt.cell_of h2 2⟩
theorem Wo.sound_le {W : Wo.W} (h : Wo.sound W = true) : W.1.length ≤ 64 := (Wo.sound_bd h).1

set_option maxHeartbeats 4000000 in
set_option maxRecDepth 1000000 in
theorem Wo.Get_any (W : Wo.W) (v : Value) (name : ByteArray) (w : World) (h : Wo.In w v W) : Calls Try.prog 9 #[v, .string name] w fun e w' => ∃ v', e = .returned (.tuple #[v', .int .i64 (Wo.getS W name).2]) ∧ Wo.InU w' v' (Wo.getS W name).1 ∧ Below w.heap.size w w' ∧ Wo.Ge w.heap.size v' := by
  have KS := fun w h => Wo.Sound_any W v w h
  obtain ⟨fv, iv, ov, rfl, hf, hi, ho⟩ := id h
  have H := Lib.hid h
  clear h
  obtain ⟨ad, cap, rfl⟩ := hf.slice
  obtain ⟨ad1, cap1, rfl⟩ := hi.slice
  obtain ⟨ad2, cap2, rfl⟩ := ho.slice
  have HF := Lib.hid hf
  clear hf hi ho
  obtain ⟨W2, hW2, q0, hsz, hb0⟩ := Wo.one w (.cells #[.slice ad W.1.length cap, .slice ad1 W.2.1.size cap1, .slice ad2 W.2.2.size cap2] 26)
  have HIN := Lib.hid (fun (w' : World) (hb : Below W2.heap.size W2 w') => (H.out.below hb0 (Nat.le_refl _)).below hb (Nat.le_refl _))
  have HFN := Lib.hid (fun (w' : World) (hb : Below W2.heap.size W2 w') => (HF.out.below hb0 (Nat.le_refl _)).below hb (Nat.le_refl _))
  have HQ := Lib.hid (fun (w' : World) (hb : Below W2.heap.size W2 w') => Wo.row3 q0 hb (Nat.le_refl _))
  have HB := Lib.hid (fun (w' : World) (hb : Below W2.heap.size W2 w') => hb0.trans (hb.mono (by omega : w.heap.size ≤ W2.heap.size)))
  obtain ⟨_, e0, e1, e2⟩ := HQ.out W2 (Below.refl _ _)
  clear q0 hb0
  cases hs : Wo.sound W with
  | false =>
    have hg : Wo.getS W name = (⟨#[]⟩, 2) := by simp [Wo.getS, hs]
    simp only [hs] at KS
    rw [hg]
    go_enter Try.func9, Try.ntmps9
    go_wp2_with fail
    refine (KS _ (HIN.out _ (Below.refl _ _))).mono ?_
    rintro x w1 ⟨rfl, hb1⟩
    have HB1 := Lib.hid (HB.out _ hb1)
    clear hb1
    go_wp2_with fail
    go_ret2
    exact ⟨_, rfl, Wo.InU.nil _, HB1.out, Wo.Ge.nil _⟩
  | true =>
    have KF := fun w h => Wo.find_any W (.agg #[.slice ad W.1.length cap, .slice ad1 W.2.1.size cap1, .slice ad2 W.2.2.size cap2]) name (Wo.cut W.1 name) w h (Wo.cutAt_of _ _ (Wo.rising_of hs)) (Wo.sound_le hs)
    simp only [hs] at KS
    cases hh : Wo.hit W.1 name (Wo.cut W.1 name) with
    | false =>
      have hg : Wo.getS W name = (⟨#[]⟩, 7) := by simp [Wo.getS, hs, Wo.has, hh]
      simp only [hh] at KF
      rw [hg]
      go_enter Try.func9, Try.ntmps9
      go_wp2_with fail
      refine (KS _ (HIN.out _ (Below.refl _ _))).mono ?_
      rintro x w1 ⟨rfl, hb1⟩
      obtain ⟨_, c0, c1, c2⟩ := HQ.out _ hb1
      go_wp2_with fail
      refine (KF _ (HIN.out _ hb1)).mono ?_
      rintro x w2 ⟨rfl, hb2⟩
      have HB1 := Lib.hid (HB.out _ (hb1.trans (hb2.mono hb1.size)))
      clear hb1 hb2
      go_wp2_with fail
      go_ret2
      exact ⟨_, rfl, Wo.InU.nil _, HB1.out, Wo.Ge.nil _⟩
    | true =>
      obtain ⟨k, hk⟩ : ∃ k, Wo.cut W.1 name = k := ⟨_, rfl⟩
      rw [hk] at hh KF
      have hg : Wo.getS W name = ((W.1.getD k Wo.e0).2, 0) := by simp [Wo.getS, hs, Wo.has, hh, hk]
      have hkl : k < W.1.length := by
        unfold Wo.hit at hh
        simp only [Bool.and_eq_true, decide_eq_true_eq] at hh
        exact hh.1
      have hdl := (Wo.sound_bd hs).2.2.2 k hkl
      simp only [hh] at KF
      rw [hg]
      obtain ⟨b, off, rfl, _, hcap, hbl, hcell⟩ := HF.out.at (by omega)
      clear hcell
      obtain ⟨d, hd⟩ : ∃ d, W.1.getD k Wo.e0 = d := ⟨_, rfl⟩
      rw [hd] at hdl ⊢
      have KD := fun w dv h => Wo.clone_any d.2 dv w h (by omega)
      go_enter Try.func9, Try.ntmps9
      go_wp2_with fail
      refine (KS _ (HIN.out _ (Below.refl _ _))).mono ?_
      rintro x w1 ⟨rfl, hb1⟩
      obtain ⟨_, c0, c1, c2⟩ := HQ.out _ hb1
      go_wp2_with fail
      refine (KF _ (HIN.out _ hb1)).mono ?_
      rintro x w2 ⟨rfl, hb2⟩
      have hb2 := hb1.trans (hb2.mono hb1.size)
      obtain ⟨_, d0, d1, d2⟩ := HQ.out _ hb2
      obtain ⟨b', off', he, _, _, _, hcell⟩ := (HFN.out _ hb2).at (by omega)
      simp only [Option.some.injEq, Addr.mk.injEq] at he
      obtain ⟨rfl, rfl, _⟩ := he
      obtain ⟨c3, da, dc, c4, hin⟩ := hcell k hkl
      rw [hd] at c3 c4 hin
      have HD := Lib.hid hin
      clear hcell hin hb1 c0 c1 c2
      have HB2 := Lib.hid hb2
      clear hb2
      go_wp2_with fail
      refine (KD _ _ HD.out).mono ?_
      rintro x w3 ⟨v3, rfl, hu, hb3, hge⟩
      have HGE := Lib.hid (hge.mono (HB.out _ HB2.out).size)
      clear hge
      have HB1 := Lib.hid (HB.out _ (HB2.out.trans (hb3.mono HB2.out.size)))
      have HU := Lib.hid hu
      clear hu hb3
      go_wp2_with fail
      go_ret2
      exact ⟨_, rfl, HU.out, HB1.out, HGE.out⟩
end Go.Proofs.Ytdikkknjdbchbaa
