/-
  world.Copy of a sound world.
-/
import Derived.Test.YtdikkknjdbchbaaWoStore
import Derived.Deep.RegionLaw
import Derived.BigRegion
import Derived.Deep.DeepCutAuto
namespace Go.Proofs.Ytdikkknjdbchbaa
open Go.RowKit
set_option linter.unusedVariables false

theorem Wo.sound_bd {W : Wo.W} (h : Wo.sound W = true) : W.1.length ≤ 64 ∧ W.2.1.size ≤ 65536 ∧ W.2.2.size ≤ 65536 ∧ ∀ k, k < W.1.length → (W.1.getD k Wo.e0).2.size ≤ 65536 := by
  unfold Wo.sound at h
  simp only [Bool.and_eq_true, decide_eq_true_eq] at h
  refine ⟨h.1.1.1, h.1.1.2, h.1.2, fun k hk => ?_⟩
  have := h.2 k hk
  unfold Wo.okAt at this
  simp only [Bool.and_eq_true, decide_eq_true_eq] at this
  exact this.1.2
/-- A world that the call has made: its files in a row of its own. -/
def Wo.Made (w : World) (B : Nat) (v : Value) (W : Wo.W) : Prop := ∃ fv iv ov g, v = .agg #[fv, iv, ov] ∧ Wo.Own w B fv g ∧ g.map (·.1) = W.1 ∧ Wo.InU w iv W.2.1 ∧ Wo.InU w ov W.2.2 ∧ Wo.Ge B ov ∧ Wo.Ap iv ov ∧ ∀ x ∈ g, Wo.Ap x.2 ov
theorem Wo.take_map (fs : List Wo.F) (g : List (Wo.F × Value)) (k : Nat) (vd : Value) (hk : k < fs.length) (hg : g.map (·.1) = fs.take k) : (g ++ [(fs.getD k Wo.e0, vd)]).map (·.1) = fs.take (k + 1) := by
  rw [List.map_append, hg, List.take_add_one, List.getD_eq_getElem?_getD, List.getElem?_eq_getElem hk]
  simp

theorem Wo.via_alloc {w w' : World} {o : Obj} (hb : Below (w.drew.alloc o).heap.size (w.drew.alloc o) w') : w'.heap[w.heap.size]? = some o := by
  have e : (w.drew.alloc o).heap.size = w.drew.heap.size + 1 := by simp
  rw [hb.block w.heap.size (by rw [e]; exact Nat.lt_succ_self _)]
  exact heap_alloc_new w.drew o
theorem Wo.new_alloc {w w' : World} {o : Obj} (hb : Below (w.alloc o).heap.size (w.alloc o) w') : w'.heap[w.heap.size]? = some o := by
  have e : (w.alloc o).heap.size = w.heap.size + 1 := by simp
  rw [hb.block w.heap.size (by rw [e]; exact Nat.lt_succ_self _)]
  exact heap_alloc_new w o
/-- Files that the call owns, behind writes into a block of another kind. -/
theorem Wo.Own.moved {w w' : World} {B B' : Nat} {v : Value} {g : List (Wo.F × Value)} {T : Nat} {C : Array Value} {t : TypeId} (h : Wo.Own w B v g) (ht : t ≠ 5) (ht2 : t ≠ 53) (hT : w.heap[T]? = some (.cells C t (0, 0)))
    (hk : ∀ b, b ≠ T → w'.heap[b]? = w.heap[b]?) (hs : w.heap.size ≤ w'.heap.size) (hB : B' ≤ B) : Wo.Own w' B' v g := by
  refine ⟨⟨h.1.1, ?_⟩, fun x hx => (h.2 x hx).kept ht hT (fun b hb _ => hk b hb) hs⟩
  rcases h.1.2 with hv | ⟨b, cap, cur, hv, hB', hg, rest⟩
  · exact .inl hv
  · refine .inr ⟨b, cap, cur, hv, Nat.le_trans hB hB', (hk b ?_).trans hg, rest⟩
    intro e
    subst e
    rw [hg] at hT
    simp only [Option.some.injEq, Obj.cells.injEq] at hT
    exact ht2 hT.2.1.symm
set_option maxHeartbeats 4000000 in
set_option maxRecDepth 1000000 in
theorem Wo.Copy_any (W : Wo.W) (v : Value) (w : World) (h : Wo.In w v W) (hs : Wo.sound W = true) : Calls Try.prog 25 #[v] w fun e w' => ∃ v', e = .returned v' ∧ Wo.Made w' w.heap.size v' W ∧ Below w.heap.size w w' := by
  obtain ⟨b1, b2, b3, b4⟩ := Wo.sound_bd hs
  obtain ⟨fv, iv, ov, rfl, hf, hi, ho⟩ := h
  obtain ⟨fs, inp, out⟩ := W
  simp only at hf hi ho b1 b2 b3 b4
  obtain ⟨ad, cap, rfl⟩ := hf.slice
  obtain ⟨ad1, cap1, rfl⟩ := hi.slice
  obtain ⟨ad2, cap2, rfl⟩ := ho.slice
  obtain ⟨i0, hi0, hz0, hz1, hz2⟩ := info_parts Wo.infoFile
  have HF := Lib.hid hf
  have HI := Lib.hid hi
  have HO := Lib.hid ho
  have KI := fun w h => Wo.clone_any inp (.slice ad1 inp.size cap1) w h (by omega)
  have KO := fun w h => Wo.clone_any out (.slice ad2 out.size cap2) w h (by omega)
  clear hf hi ho hs
  have hsz : ∀ o, (w.alloc o).heap.size = w.heap.size + 1 := by intro o; simp
  have h1 : ∀ o o2, ((w.alloc o).alloc o2).heap[w.heap.size + 1]? = some o2 := by
    intro o o2
    have := heap_alloc_new (w.alloc o) o2
    rwa [hsz] at this
  have h0 : ∀ o o2, ((w.alloc o).alloc o2).heap[w.heap.size]? = some o := fun o o2 => (Lib.alloc_old _ _ _ (by rw [hsz]; omega)).trans (heap_alloc_new w o)
  have hb0 : ∀ o o2, Below w.heap.size w ((w.alloc o).alloc o2) := fun o o2 => ((Below.refl _ _).alloc (Nat.le_refl _) _).alloc (by rw [hsz]; omega) _
  have hs2 : ∀ o o2, ((w.alloc o).alloc o2).heap.size = w.heap.size + 2 := by intro o o2; simp
  go_enter Try.func25, Try.ntmps25
  go_wp2_with fail
  obtain ⟨W2, hW2⟩ : ∃ W2, (w.alloc (.cells #[.slice ad fs.length cap, .slice ad1 inp.size cap1, .slice ad2 out.size cap2] 26)).alloc (.cells #[.slice none 0 0, .slice none 0 0, .slice none 0 0] 26) = W2 := ⟨_, rfl⟩
  have q0 : W2.heap[w.heap.size]? = _ := hW2 ▸ h0 _ _
  have q1 : W2.heap[w.heap.size + 1]? = _ := hW2 ▸ h1 _ _
  have HB0 : Hid (Below w.heap.size w W2) := Lib.hid (hW2 ▸ hb0 _ _)
  have hz : w.heap.size + 2 ≤ W2.heap.size := Nat.le_of_eq (hW2 ▸ hs2 _ _).symm
  rw [hW2]
  have k1 := Dt.cell_of q0 1
  have k2 := Dt.cell_of q0 2
  have HQ1 := Lib.hid q1
  have HQ0 := Lib.hid q0
  have HIW := Lib.hid (fun (w' : World) (hb : Below W2.heap.size W2 w') => HI.out.below (HB0.out.trans (hb.mono (by omega))) (Nat.le_refl _))
  have HOW := Lib.hid (fun (w' : World) (hb : Below W2.heap.size W2 w') => HO.out.below (HB0.out.trans (hb.mono (by omega))) (Nat.le_refl _))
  have HKW : Hid (∀ w' : World, Below W2.heap.size W2 w' → w'.cell? ⟨w.heap.size, 1, none⟩ = some (.slice ad1 inp.size cap1) ∧ w'.cell? ⟨w.heap.size, 2, none⟩ = some (.slice ad2 out.size cap2)) := Lib.hid (fun w' hb => ⟨(hb.cell (p := ⟨w.heap.size, 1, none⟩) (by show w.heap.size < _; omega)).trans k1, (hb.cell (p := ⟨w.heap.size, 2, none⟩) (by show w.heap.size < _; omega)).trans k2⟩)
  have hacc : Below W2.heap.size W2 W2.drew := (Below.refl _ _).drew
  clear hW2 q0 q1 h0 h1 hb0 hs2 hsz
  go_cut [3] from 6 to 12 (fun t wx => ∃ (T : Nat) (aa : Option Addr) (ca : Nat) (ab : Option Addr) (cb : Nat), t = .pointer (some ⟨T, 0, none⟩) ∧ W2.heap.size ≤ T ∧ wx.heap[T]? = some (.cells #[.slice none 0 0, .slice aa inp.size ca, .slice ab out.size cb] 26 (0, 0)) ∧ Wo.InU wx (.slice aa inp.size ca) inp ∧ Wo.InU wx (.slice ab out.size cb) out ∧ Below W2.heap.size W2 wx ∧ Wo.Ge W2.heap.size (.slice ab out.size cb) ∧ Wo.Ap (.slice aa inp.size ca) (.slice ab out.size cb))
  case first =>
    go_region_held3 (fun w' => w'.cell? ⟨w.heap.size, 1, none⟩ = some (.slice ad1 inp.size cap1) ∧ w'.cell? ⟨w.heap.size, 2, none⟩ = some (.slice ad2 out.size cap2))
      (first | go_keep | exact hkeep | exact hkeepX)
      (first
        | (go_at_call_of 26 (Value.slice ad1 inp.size cap1)
           refine (KI _ (HIW.out _ hacc)).mono ?_
           rintro x wA ⟨va, rfl, hia, hbA, _⟩
           obtain ⟨aa, ca, rfl⟩ := hia.1.slice
           have hacc := hacc.trans (hbA.mono hacc.size)
           have hkeep := HKW.out _ hacc)
        | (go_at_call_of 26 (Value.slice ad1 inp.size cap1)
           refine (KI _ (HIW.out _ (hacc.alloc hacc.size _))).mono ?_
           rintro x wA ⟨va, rfl, hia, hbA, _⟩
           obtain ⟨aa, ca, rfl⟩ := hia.1.slice
           have hTT := Wo.via_alloc hbA
           have hacc := (hacc.alloc hacc.size _).trans (hbA.mono (hacc.alloc hacc.size _).size)
           have hTl : W2.heap.size ≤ W2.heap.size := Nat.le_refl _
           have hkeep := HKW.out _ hacc)
        | (go_at_call_of 26 (Value.slice ad2 out.size cap2)
           refine (KO _ (HOW.out _ hacc)).mono ?_
           rintro x wB ⟨vb, rfl, hib, hbB, hgb⟩
           obtain ⟨ab, cb, rfl⟩ := hib.1.slice
           have hap := hia.ap hgb (Nat.le_refl _)
           have hgb := hgb.mono hacc.size
           have hia := hia.below hbB (Nat.le_refl _)
           have hzA := hacc.size
           have hacc := hacc.trans (hbB.mono hacc.size)
           have hTT0 := (hbB.block _ (Array.getElem?_eq_some_iff.1 hTT).1).trans hTT
           obtain ⟨X1, X2, X3, ⟨f0, z0, e0, s0⟩, ⟨f1, z1, e1, s1⟩, ⟨f2, z2, e2, s2⟩, hTT, hXs, hXo, hXb⟩ := Dt.put3 hTT0 (.slice none 0 0) (.slice aa inp.size ca) (.slice ab out.size cb)
           have hkeep := HKW.out _ hacc
           have hkeepX := HKW.out X3 (hXb _ _ hacc (by omega))
           have hia := hia.kept (by decide) hTT0 (fun b hb _ => hXo b hb) (Nat.le_of_eq hXs.symm)
           have hib := hib.kept (by decide) hTT0 (fun b hb _ => hXo b hb) (Nat.le_of_eq hXs.symm)
           have hacc := hXb _ _ hacc (by omega))
        | (go_at_call_of 26 (Value.slice ad2 out.size cap2)
           refine (KO _ (HOW.out _ hacc)).mono ?_
           rintro x wB ⟨vb, rfl, hib, hbB, hgb⟩
           obtain ⟨ab, cb, rfl⟩ := hib.1.slice
           have hap := hia.ap hgb (Nat.le_refl _)
           have hgb := hgb.mono hacc.size
           have hia := hia.below hbB (Nat.le_refl _)
           have hzA := hacc.size
           have hacc := hacc.trans (hbB.mono hacc.size)
           have hkeep := HKW.out _ hacc)
        | (go_at_call_of 26 (Value.slice ad2 out.size cap2)
           refine (KO _ (HOW.out _ (hacc.alloc hacc.size _))).mono ?_
           rintro x wB ⟨vb, rfl, hib, hbB, hgb⟩
           obtain ⟨ab, cb, rfl⟩ := hib.1.slice
           have hap := hia.ap hgb (by simp)
           have hgb := hgb.mono (hacc.alloc hacc.size _).size
           have hTT0 := Wo.new_alloc hbB
           have hia := (hia.below ((Below.refl wA.heap.size wA).alloc (Nat.le_refl _) _) (Nat.le_refl _)).below hbB (Nat.le_refl _)
           have hzA := hacc.size
           have hacc := (hacc.alloc hacc.size _).trans (hbB.mono (hacc.alloc hacc.size _).size)
           obtain ⟨X1, X2, X3, ⟨f0, z0, e0, s0⟩, ⟨f1, z1, e1, s1⟩, ⟨f2, z2, e2, s2⟩, hTT, hXs, hXo, hXb⟩ := Dt.put3 hTT0 (.slice none 0 0) (.slice aa inp.size ca) (.slice ab out.size cb)
           have hkeep := HKW.out _ hacc
           have hkeepX := HKW.out X3 (hXb _ _ hacc (by omega))
           have hia := hia.kept (by decide) hTT0 (fun b hb _ => hXo b hb) (Nat.le_of_eq hXs.symm)
           have hib := hib.kept (by decide) hTT0 (fun b hb _ => hXo b hb) (Nat.le_of_eq hXs.symm)
           have hacc := hXb _ _ hacc (by omega)))
    all_goals
      first
      | (have hq : X3.heap[W2.heap.size]? = some (.cells #[.slice none 0 0, .slice aa inp.size ca, .slice ab out.size cb] 26 (0, 0)) := hTT
         have hTl : W2.heap.size ≤ W2.heap.size := Nat.le_refl _
         obtain ⟨T, hT⟩ : ∃ T, W2.heap.size = T := ⟨_, rfl⟩
         have hq2 : X3.heap[T]? = some (.cells #[.slice none 0 0, .slice aa inp.size ca, .slice ab out.size cb] 26 (0, 0)) := hT ▸ hq
         have hTl2 : W2.heap.size ≤ T := Nat.le_of_eq hT
         have HACC := Lib.hid hacc
         have HGB := Lib.hid hgb
         have HAP := Lib.hid hap
         have HIA := Lib.hid hia
         have HIB := Lib.hid hib
         rw [hT]
         clear hq hTT hTl hT hkeep hkeepX hXs hXo hXb f0 z0 e0 s0 f1 z1 e1 s1 f2 z2 e2 s2)
      | (have hq : X3.heap[wA.heap.size]? = some (.cells #[.slice none 0 0, .slice aa inp.size ca, .slice ab out.size cb] 26 (0, 0)) := hTT
         obtain ⟨T, hT⟩ : ∃ T, wA.heap.size = T := ⟨_, rfl⟩
         have hq2 : X3.heap[T]? = some (.cells #[.slice none 0 0, .slice aa inp.size ca, .slice ab out.size cb] 26 (0, 0)) := hT ▸ hq
         have hTl2 : W2.heap.size ≤ T := hT ▸ hzA
         have HACC := Lib.hid hacc
         have HGB := Lib.hid hgb
         have HAP := Lib.hid hap
         have HIA := Lib.hid hia
         have HIB := Lib.hid hib
         rw [hT]
         clear hq hTT hT hkeep hkeepX hXs hXo hXb f0 z0 e0 s0 f1 z1 e1 s1 f2 z2 e2 s2)
      | (obtain ⟨X3, hX3⟩ : ∃ X, wB.alloc (.cells #[.slice none 0 0, .slice aa inp.size ca, .slice ab out.size cb] 26) = X := ⟨_, rfl⟩
         obtain ⟨T, hT⟩ : ∃ T, wB.heap.size = T := ⟨_, rfl⟩
         have hq2 : X3.heap[T]? = some (.cells #[.slice none 0 0, .slice aa inp.size ca, .slice ab out.size cb] 26 (0, 0)) := by rw [← hX3, ← hT]; exact heap_alloc_new _ _
         have hTl2 : W2.heap.size ≤ T := hT ▸ hacc.size
         have hbx : Below wB.heap.size wB X3 := by rw [← hX3]; exact (Below.refl _ _).alloc (Nat.le_refl _) _
         have HACC := Lib.hid (hacc.trans (hbx.mono hacc.size))
         have HGB := Lib.hid hgb
         have HAP := Lib.hid hap
         have HIA := Lib.hid (hia.below hbx (Nat.le_refl _))
         have HIB := Lib.hid (hib.below hbx (Nat.le_refl _))
         rw [hX3, hT]
         clear hX3 hT hbx hkeep)
      go_wp2_with fail
      go_meet
      exact ⟨T, aa, ca, ab, cb, rfl, hTl2, hq2, HIA.out, HIB.out, HACC.out, HGB.out, HAP.out⟩
  case rest =>
    obtain ⟨T, aa, ca, ab, cb, rfl, hTl2, hq2, hia0, hib0, hacc0, hgb0, hap0⟩ := hcut
    have HGB := Lib.hid hgb0
    have HAP := Lib.hid hap0
    have HIA := Lib.hid hia0
    have HIB := Lib.hid hib0
    have HACC := Lib.hid hacc0
    obtain ⟨X3, hX3⟩ : ∃ z, z = wc := ⟨_, rfl⟩
    subst hX3
    clear hia0 hib0 hacc0 hgb0 hap0 k1 k2 hacc
    have hTs : T < X3.heap.size := (Array.getElem?_eq_some_iff.1 hq2).1
    have hOW0 : Wo.Own X3 T (.slice none 0 0) [] := Wo.Own.nil X3 T (Nat.le_of_lt hTs)
    have k0 := (HACC.out.block w.heap.size (by omega)).trans HQ0.out
    have k00 := Dt.cell_of k0 0
    clear k0
    go_wp2_with fail
    go_loopw [16] (fun i wr => ∃ (k : Nat) (fv : Value) (g : List (Wo.F × Value)), i = .int .i64 k ∧ k ≤ fs.length ∧ g.length = k ∧ g.map (·.1) = fs.take k ∧ wr.heap[T]? = some (.cells #[fv, .slice aa inp.size ca, .slice ab out.size cb] 26 (0, 0)) ∧ Wo.Own wr T fv g ∧ Wo.InU wr (.slice aa inp.size ca) inp ∧ Wo.InU wr (.slice ab out.size cb) out ∧ Below W2.heap.size W2 wr ∧ ∀ x ∈ g, Wo.Ap x.2 (.slice ab out.size cb)) (fun i _ => fs.length - (intOf i).toNat)
    case atStart => exact ⟨0, _, [], rfl, Nat.zero_le _, rfl, rfl, hq2, hOW0, HIA.out, HIB.out, HACC.out, fun x hx => by cases hx⟩
    case round =>
      obtain ⟨k, fv, g, rfl, hk, hgl, hgm, hT, hown, hia, hib, hbw, hapg⟩ := hrel
      have HAPG := Lib.hid hapg
      clear hapg
      subst hgl
      obtain ⟨wo, hwo⟩ : ∃ z, z = wr := ⟨_, rfl⟩
      subst hwo
      clear hOW0 hq2 hTs
      have hTs : T < wo.heap.size := (Array.getElem?_eq_some_iff.1 hT).1
      by_cases hlt : g.length < fs.length
      · obtain ⟨b, off, rfl, _, hcap, hbl, hcell⟩ := (HF.out.below (HB0.out.trans (hbw.mono (by omega))) (Nat.le_refl _)).at (by omega)
        obtain ⟨c0, da, dc, c1, hin⟩ := hcell g.length hlt
        have hbd := b4 g.length hlt
        have HGM := Lib.hid (fun vd => Wo.take_map fs g g.length vd hlt hgm)
        clear hcell hgm
        generalize fs.getD g.length Wo.e0 = d at *
        obtain ⟨af, cf, rfl⟩ := hown.slice
        have KD := fun w h => Wo.clone_any d.2 (.slice da d.2.size dc) w h (by omega)
        have hbV : ∀ o, Below wo.heap.size wo (wo.alloc o) := fun o => (Below.refl _ _).alloc (Nat.le_refl _) _
        have hTa : ∀ o, (wo.alloc o).heap[T]? = _ := fun o => (Lib.alloc_old _ _ _ hTs).trans hT
        have h5a : ∀ o, (wo.alloc o).heap[wo.heap.size]? = some o := fun o => heap_alloc_new wo o
        go_wp2_with fail
        obtain ⟨V, hV⟩ : ∃ V, wo.alloc (.cells #[.string d.1, .slice da d.2.size dc] 53) = V := ⟨_, rfl⟩
        have qT : V.heap[T]? = _ := hV ▸ hTa _
        have q5 : V.heap[wo.heap.size]? = _ := hV ▸ h5a _
        have hbV : Below wo.heap.size wo V := hV ▸ hbV _
        rw [hV]
        have HINV := Lib.hid (fun (w' : World) (hb : Below V.heap.size V w') => (hin.below hbV (Nat.le_refl _)).below hb (Nat.le_refl _))
        have HOV := Lib.hid (fun (w' : World) (hb : Below V.heap.size V w') => (hown.below hbV (Nat.le_refl _)).below hb (Nat.le_refl _))
        have HIAV := Lib.hid (fun (w' : World) (hb : Below V.heap.size V w') => (hia.below hbV (Nat.le_refl _)).below hb (Nat.le_refl _))
        have HIBV := Lib.hid (fun (w' : World) (hb : Below V.heap.size V w') => (hib.below hbV (Nat.le_refl _)).below hb (Nat.le_refl _))
        have l5 : wo.heap.size < V.heap.size := (Array.getElem?_eq_some_iff.1 q5).1
        have lT : T < V.heap.size := (Array.getElem?_eq_some_iff.1 qT).1
        have HNE := Lib.hid hown.ne_new
        have HIB0 := Lib.hid hib
        have HGE := Lib.hid hown.row_ge
        have HBWV := Lib.hid (hbw.trans (hbV.mono hbw.size))
        have hzw := hbw.size
        have k5 : ∀ w' : World, Below V.heap.size V w' → w'.cell? ⟨wo.heap.size, 0, none⟩ = some (.string d.1) ∧ w'.cell? ⟨wo.heap.size, 1, none⟩ = some (.slice da d.2.size dc) := fun w' hb => ⟨Dt.cell_of ((hb.block _ l5).trans q5) 0, Dt.cell_of ((hb.block _ l5).trans q5) 1⟩
        have kT : ∀ w' : World, Below V.heap.size V w' → w'.heap[T]? = some (.cells #[.slice af g.length cf, .slice aa inp.size ca, .slice ab out.size cb] 26 (0, 0)) := fun w' hb => (hb.block T lT).trans qT
        have K5 := Lib.hid k5
        have KT := Lib.hid kT
        have Q5 := Lib.hid q5
        have hacc : Below V.heap.size V V.drew := (Below.refl _ _).drew
        have hcT := Dt.cell_of (kT _ hacc) 0
        obtain ⟨x0, x1⟩ := k5 V (Below.refl _ _)
        clear k5 kT hV hbV hTa h5a hin hown hia hib qT q5 c0 c1 hT hbw k00
        go_region_law (first
            | (go_simp
               go_at_call 26
               refine (KD _ (HINV.out _ hacc)).mono ?_
               rintro x wD ⟨vd, rfl, hid, hbD, hgd⟩
               obtain ⟨ax, cx, rfl⟩ := hid.1.slice
               have hapd := (HIB0.out.ap hgd (Nat.le_trans (Nat.le_of_lt l5) hacc.size)).symm
               have hacc := hacc.trans (hbD.mono hacc.size)
               have hkeep := K5.out _ hacc
               have hcT := Dt.cell_of (KT.out _ hacc) 0
               have hTl : T < wD.heap.size := Nat.lt_of_lt_of_le lT hacc.size)
            | (refine Dt.step_append_own (by rfl) _ _ _ (by rfl) T 53 i0 (.agg #[.string ⟨#[]⟩, .slice none 0 0]) 2 40 Try.underlying24 hi0 hz0 hz1 hz2 rfl (by decide) _ g.length _ (by rfl) (HOV.out _ (hacc.alloc hacc.size _)).1 ⟨wD.heap.size, 0, none⟩ 1 1 [.string d.1, .slice ax d.2.size cx] (by rfl) rfl (Dt.row_at (heap_alloc_new wD _)) (by intro u hu; simp only [List.mem_cons, List.not_mem_nil, or_false] at hu; rcases hu with rfl | rfl <;> rfl) (by unfold maxLen; omega) (by omega) (Nat.le_trans (Nat.le_of_lt lT) (hacc.alloc hacc.size _).size) ?_
               intro v9 w9 hown9 hgrow9 _
               have hx := hacc.alloc hacc.size (.cells #[.string d.1, .slice ax d.2.size cx] 53)
               have hgr := Wo.Own.grow (f := d) (HOV.out _ hx) (hid.below ((Below.refl wD.heap.size wD).alloc (Nat.le_refl _) _) (Nat.le_refl _)) hown9 hgrow9
               obtain ⟨a9, c9, rfl⟩ := hgr.1.slice
               have hT9 := hgr.2.1 T _ _ (by decide) (KT.out _ hx)
               have hcT := Dt.cell_of hT9 0
               have hzT := Dt.frozen_of hT9 0
               have hkeep5 := (hgrow9.block wo.heap.size (Nat.lt_of_lt_of_le l5 hx.size) HNE.out).trans ((hx.block _ l5).trans Q5.out)
               have hkeep := And.intro (Dt.cell_of hkeep5 0) (Dt.cell_of hkeep5 1)
               have hkeepS := fun u => And.intro (Dt.cell_of ((Below.heap_setCell w9 ⟨T, 0, none⟩ u wo.heap.size (by show wo.heap.size ≠ T; omega)).trans hkeep5) 0) (Dt.cell_of ((Below.heap_setCell w9 ⟨T, 0, none⟩ u wo.heap.size (by show wo.heap.size ≠ T; omega)).trans hkeep5) 1)))
        all_goals
          have hl9 : (g ++ [(d, Value.slice ax d.2.size cx)]).length = g.length + 1 := by simp
          rw [hl9] at hgr
          have HG1 := Lib.hid (hgr.1.set (T := T) (k := 0) (t := 26) (by decide) (by decide) hT9 (Value.slice a9 (g.length + 1) c9))
          have HG2 := Lib.hid ((hgr.2.2 _ _ (HIAV.out _ hx)).set (T := T) (k := 0) (t := 26) (by decide) hT9 (Value.slice a9 (g.length + 1) c9))
          have HG3 := Lib.hid ((hgr.2.2 _ _ (HIBV.out _ hx)).set (T := T) (k := 0) (t := 26) (by decide) hT9 (Value.slice a9 (g.length + 1) c9))
          have HG4 : Hid ((w9.setCell ⟨T, 0, none⟩ (Value.slice a9 (g.length + 1) c9)).heap[T]? = some (.cells #[.slice a9 (g.length + 1) c9, .slice aa inp.size ca, .slice ab out.size cb] 26 (0, 0))) := Lib.hid (Dt.setCells hT9 0 (Value.slice a9 (g.length + 1) c9))
          have HG5 := Lib.hid (((HBWV.out.trans (hx.mono (by omega))).grown hgrow9 (Nat.le_trans (by omega) hx.size) (fun k hk => Nat.le_trans hTl2 (HGE.out k hk))).setCell (p := ⟨T, 0, none⟩) hTl2 (Value.slice a9 (g.length + 1) c9))
          have HG6 : Hid (∀ x ∈ g ++ [(d, Value.slice ax d.2.size cx)], Wo.Ap x.2 (.slice ab out.size cb)) := Lib.hid (fun x hx => by
            rcases List.mem_append.1 hx with hx | hx
            · exact HAPG.out x hx
            · simp only [List.mem_singleton] at hx
              subst hx
              exact hapd)
          clear hgr hown9 hgrow9 hT9 hkeep5 hkeep hkeepS hx hacc hid hbD hgd hapd hl9
          go_wp2_with fail
          go_roundw
          case rel => exact ⟨g.length + 1, _, g ++ [(d, Value.slice ax d.2.size cx)], by first | rfl | go_num | (simp; try omega), by omega, by simp, HGM.out _, HG4.out, HG1.out, HG2.out, HG3.out, HG5.out, HG6.out⟩
          case measure => simp [intOf]; omega
      · have hgl : g.length = fs.length := by omega
        have hgm2 : g.map (·.1) = fs := by rw [hgm, hgl, List.take_length]
        have qr := (hbw.block (w.heap.size + 1) (by omega)).trans HQ1.out
        obtain ⟨af, cf, rfl⟩ := hown.slice
        rw [hgl] at hT hown
        have g0 := Dt.cell_of hT 0
        have g1 := Dt.cell_of hT 1
        have g2 := Dt.cell_of hT 2
        obtain ⟨X1, X2, X4, ⟨f0, z0, e0, s0⟩, ⟨f1, z1, e1, s1⟩, ⟨f2, z2, e2, s2⟩, hR, hXs, hXo, hXb⟩ := Dt.put3 qr (.slice af fs.length cf) (.slice aa inp.size ca) (.slice ab out.size cb)
        have HOUT : Hid (Wo.Made X4 w.heap.size (.agg #[.slice af fs.length cf, .slice aa inp.size ca, .slice ab out.size cb]) (fs, inp, out)) := Lib.hid ⟨_, _, _, g, rfl, hown.moved (by decide) (by decide) qr hXo (Nat.le_of_eq hXs.symm) (by omega), hgm2, hia.kept (by decide) qr (fun b hb _ => hXo b hb) (Nat.le_of_eq hXs.symm), hib.kept (by decide) qr (fun b hb _ => hXo b hb) (Nat.le_of_eq hXs.symm), HGB.out.mono (by omega), HAP.out, HAPG.out⟩
        have HBB : Hid (Below w.heap.size w X4) := Lib.hid (hXb _ _ (HB0.out.trans (hbw.mono (by omega))) (by omega))
        have r0 := Dt.cell_of hR 0
        have r1 := Dt.cell_of hR 1
        have r2 := Dt.cell_of hR 2
        have hnlt : decide ((g.length : Int) < (fs.length : Int)) = false := decide_eq_false (by omega)
        clear hXs hXo hXb hown hia hib hgm hgm2 hbw qr hR hT
        go_wp2_with fail
        refine bodyPost_ret (v := .agg #[.slice af fs.length cf, .slice aa inp.size ca, .slice ab out.size cb]) (by simp [results, Try.results25, go_sem, r0, r1, r2]) rfl ⟨_, rfl, HOUT.out, HBB.out⟩
end Go.Proofs.Ytdikkknjdbchbaa
