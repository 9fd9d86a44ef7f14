/-
  sextantref07.Copy of any world.
-/
import Derived.Test.YtdikkknjdbchbaaWoRefBase
import Derived.Test.YtdikkknjdbchbaaWoHeldF
import Derived.Deep.RegionHeld3
import Derived.Deep.DeepCutAuto
namespace Go.Proofs.Ytdikkknjdbchbaa
open Go.RowKit
set_option linter.unusedVariables false
set_option linter.unusedSimpArgs false

set_option maxHeartbeats 8000000 in
set_option maxRecDepth 1000000 in
theorem Wo.CopyR_any (W : Wo.W) (v : Value) (w : World) (h : Wo.In w v W) (hs : Wo.Fit W) : Calls Try.prog 12 #[v] w fun e w' => ∃ v', e = .returned v' ∧ Wo.Made w' w.heap.size v' W ∧ Below w.heap.size w w' := by
  obtain ⟨b1, b2, b3, b4⟩ := hs
  obtain ⟨fv, iv, ov, rfl, hf, hi, ho⟩ := h
  obtain ⟨fs, inp, out⟩ := W
  simp only at hf hi ho b1 b2 b3 b4
  obtain ⟨ad, cap, rfl⟩ := hf.slice
  obtain ⟨ad1, cap1, rfl⟩ := hi.slice
  obtain ⟨ad2, cap2, rfl⟩ := ho.slice
  obtain ⟨i0, hi0, hz0, hz1, hz2⟩ := info_parts Wo.infoFile
  obtain ⟨i1, hi1, hy0, hy1, hy2⟩ := info_parts Wo.infoByte
  have HF := Lib.hid hf
  have HI := Lib.hid hi
  have HO := Lib.hid ho
  clear hf hi ho
  go_enter Try.func12, Try.ntmps12
  go_wp2_with fail
  obtain ⟨W2, hW2, q0, q1, hsz, hb0⟩ := Wo.two w (.cells #[.slice ad fs.length cap, .slice ad1 inp.size cap1, .slice ad2 out.size cap2] 26) (.cells #[.slice none 0 0, .slice none 0 0, .slice none 0 0] 26)
  rw [hW2]
  obtain ⟨_, e0, e1, e2⟩ := Wo.row3 q0 (Below.refl W2.heap.size W2) (Nat.le_refl _)
  have HI2 := Lib.hid (HI.out.below hb0 (Nat.le_refl _))
  have HO2 := Lib.hid (HO.out.below hb0 (Nat.le_refl _))
  have HQ := Lib.hid (fun (w' : World) (hb : Below W2.heap.size W2 w') => Wo.row3 q0 hb (Nat.le_refl _))
  have HSZ := Lib.hid hsz
  clear hsz hW2
  have HKW : Hid (∀ w' : World, Below W2.heap.size W2 w' → w'.cell? ⟨w.heap.size, 1, none⟩ = some (.slice ad1 inp.size cap1) ∧ w'.cell? ⟨w.heap.size, 2, none⟩ = some (.slice ad2 out.size cap2)) := Lib.hid (fun w' hb => ⟨(HQ.out _ hb).2.2.1, (HQ.out _ hb).2.2.2⟩)
  have HQ1 := Lib.hid q1
  have HQ0 := Lib.hid q0
  have HZ : Hid (w.heap.size + 2 ≤ W2.heap.size) := Lib.hid (by have := HSZ.out; omega)
  have HB0 := Lib.hid hb0
  have hacc : Below W2.heap.size W2 W2 := Below.refl _ _
  clear q0 q1 hb0 e0
  go_cut [3] from 5 to 13 (fun t wx => ∃ (T : Nat) (aa : Option Addr) (ca : Nat) (ab : Option Addr) (cb : Nat), t = .pointer (some ⟨T, 0, none⟩) ∧ W2.heap.size ≤ T ∧ wx.heap[T]? = some (.cells #[.slice none 0 0, .slice aa inp.size ca, .slice ab out.size cb] 26 (0, 0)) ∧ Wo.InU wx (.slice aa inp.size ca) inp ∧ Wo.InU wx (.slice ab out.size cb) out ∧ Below W2.heap.size W2 wx ∧ Wo.Ge W2.heap.size (.slice ab out.size cb) ∧ Wo.Ap (.slice aa inp.size ca) (.slice ab out.size cb))
  case first =>
    go_region_held3 (fun w' => w'.cell? ⟨w.heap.size, 1, none⟩ = some (.slice ad1 inp.size cap1) ∧ w'.cell? ⟨w.heap.size, 2, none⟩ = some (.slice ad2 out.size cap2))
      (first | with_reducible exact hkeep | with_reducible exact hkeepX | (refine HKW.out _ ?_; repeat (first | with_reducible exact hacc | with_reducible refine Wo.belowA ?_ _ | with_reducible refine Wo.belowD ?_)))
      (first
        | (refine Wo.step_append_fresh (by rfl) _ _ _ (by rfl) i1 (.int .u8 0) Try.underlying22 hi1 hy0 hy1 hy2 (by rfl) _ (by rfl) ?_ (.slice ad1 inp.size cap1) inp (by rfl) ?_ (by omega) ?_
           · repeat (first | (with_reducible refine Wo.new_at _ _ _ ?_; first | with_reducible rfl | (simp only [Wo.szA, Wo.szD]; done)) | with_reducible refine Wo.old_at ?_ _ | with_reducible refine Wo.drew_at ?_)
           · refine HI2.out.below (B := W2.heap.size) ?_ (Nat.le_refl _)
             repeat (first | with_reducible exact hacc | with_reducible refine Wo.belowA ?_ _ | with_reducible refine Wo.belowD ?_)
           intro va wa hia hba hla
           obtain ⟨aa, ca, rfl⟩ := hia.1.slice
           replace hacc : Below W2.heap.size W2 wa := by
             refine Wo.belowT ?_ hba
             repeat (first | with_reducible exact hacc | with_reducible refine Wo.belowA ?_ _ | with_reducible refine Wo.belowD ?_)
           have hkeep := HKW.out _ hacc)
        | (refine Wo.step_append_fresh (by rfl) _ _ _ (by rfl) i1 (.int .u8 0) Try.underlying22 hi1 hy0 hy1 hy2 (by rfl) _ (by rfl) ?_ (.slice ad2 out.size cap2) out (by rfl) ?_ (by omega) ?_
           · repeat (first | (with_reducible refine Wo.new_at _ _ _ ?_; first | with_reducible rfl | (simp only [Wo.szA, Wo.szD]; done)) | with_reducible refine Wo.below_at ?_ hba (Nat.le_refl _) | with_reducible refine Wo.old_at ?_ _ | with_reducible refine Wo.drew_at ?_)
           · refine HO2.out.below (B := W2.heap.size) ?_ (Nat.le_refl _)
             repeat (first | with_reducible exact hacc | with_reducible refine Wo.belowA ?_ _ | with_reducible refine Wo.belowD ?_)
           intro vb wb hib hbb hlb
           obtain ⟨ab, cb, rfl⟩ := hib.1.slice
           have hap : Wo.Ap (.slice aa inp.size ca) (.slice ab out.size cb) := by
             intro k h1 h2
             have hs1 := hba.size
             have hs0 := hacc.size
             rcases hla with h | ⟨h, hl⟩ <;> rcases hlb with h' | ⟨h', hl'⟩ <;> (rw [h] at h1; rw [h'] at h2; simp only [Option.some.injEq] at h1 h2; (try simp only [Wo.szA, Wo.szD] at hs1); (try simp only [Wo.szA, Wo.szD] at h1); (try simp only [Wo.szA, Wo.szD] at h2); (try simp only [Wo.szA, Wo.szD] at hl); (try simp only [Wo.szA, Wo.szD] at hl'); omega)
           have hgb : Wo.Ge W2.heap.size (.slice ab out.size cb) := by
             intro k h2
             have hs1 := hba.size
             have hs0 := hacc.size
             rcases hlb with h' | ⟨h', hl'⟩ <;> (rw [h'] at h2; simp only [Option.some.injEq] at h2; (try simp only [Wo.szA, Wo.szD] at hs1); (try simp only [Wo.szA, Wo.szD] at h2); omega)
           have hbab : Below wa.heap.size wa wb := by
             refine Wo.belowT ?_ hbb
             repeat (first | with_reducible exact Below.refl _ _ | with_reducible refine Wo.belowA ?_ _ | with_reducible refine Wo.belowD ?_)
           have hia := hia.below hbab (Nat.le_refl _)
           replace hacc : Below W2.heap.size W2 wb := Wo.belowT hacc hbab
           have hkeep := HKW.out _ hacc
           first
           | (refine Wo.viaBox (p := wb.heap[W2.heap.size]? = some (.cells #[.slice none 0 0, .slice none 0 0, .slice none 0 0] 26 (0, 0))) ?_ ?_
              · repeat (first | (with_reducible refine Wo.new_at _ _ _ ?_; first | with_reducible rfl | (simp only [Wo.szA, Wo.szD]; done)) | with_reducible refine Wo.below_at ?_ hbb (Nat.le_refl _) | with_reducible refine Wo.below_at ?_ hba (Nat.le_refl _) | with_reducible refine Wo.old_at ?_ _ | with_reducible refine Wo.drew_at ?_)
              intro hTT0
              obtain ⟨X1, X2, X3, ⟨f0, z0, e0, s0⟩, ⟨f1, z1, e1, s1⟩, ⟨f2, z2, e2, s2⟩, hTT, hXs, hXo, hXb⟩ := Dt.put3 hTT0 (.slice none 0 0) (.slice aa inp.size ca) (.slice ab out.size cb)
              have hTl : W2.heap.size ≤ W2.heap.size := by have hs1 := hba.size; have hs2 := hbb.size; (try simp only [Wo.szA, Wo.szD] at hs1); (try simp only [Wo.szA, Wo.szD] at hs2); omega
              have hkeepX := HKW.out X3 (hXb _ _ hacc hTl)
              have hia := hia.kept (by decide) hTT0 (fun b hb _ => hXo b hb) (Nat.le_of_eq hXs.symm)
              have hib := hib.kept (by decide) hTT0 (fun b hb _ => hXo b hb) (Nat.le_of_eq hXs.symm)
              have hacc := hXb _ _ hacc hTl)
           | (refine Wo.viaBox (p := wb.heap[(W2.heap.size + 1)]? = some (.cells #[.slice none 0 0, .slice none 0 0, .slice none 0 0] 26 (0, 0))) ?_ ?_
              · repeat (first | (with_reducible refine Wo.new_at _ _ _ ?_; first | with_reducible rfl | (simp only [Wo.szA, Wo.szD]; done)) | with_reducible refine Wo.below_at ?_ hbb (Nat.le_refl _) | with_reducible refine Wo.below_at ?_ hba (Nat.le_refl _) | with_reducible refine Wo.old_at ?_ _ | with_reducible refine Wo.drew_at ?_)
              intro hTT0
              obtain ⟨X1, X2, X3, ⟨f0, z0, e0, s0⟩, ⟨f1, z1, e1, s1⟩, ⟨f2, z2, e2, s2⟩, hTT, hXs, hXo, hXb⟩ := Dt.put3 hTT0 (.slice none 0 0) (.slice aa inp.size ca) (.slice ab out.size cb)
              have hTl : W2.heap.size ≤ (W2.heap.size + 1) := by have hs1 := hba.size; have hs2 := hbb.size; (try simp only [Wo.szA, Wo.szD] at hs1); (try simp only [Wo.szA, Wo.szD] at hs2); omega
              have hkeepX := HKW.out X3 (hXb _ _ hacc hTl)
              have hia := hia.kept (by decide) hTT0 (fun b hb _ => hXo b hb) (Nat.le_of_eq hXs.symm)
              have hib := hib.kept (by decide) hTT0 (fun b hb _ => hXo b hb) (Nat.le_of_eq hXs.symm)
              have hacc := hXb _ _ hacc hTl)
           | (refine Wo.viaBox (p := wb.heap[(W2.heap.size + 1 + 1)]? = some (.cells #[.slice none 0 0, .slice none 0 0, .slice none 0 0] 26 (0, 0))) ?_ ?_
              · repeat (first | (with_reducible refine Wo.new_at _ _ _ ?_; first | with_reducible rfl | (simp only [Wo.szA, Wo.szD]; done)) | with_reducible refine Wo.below_at ?_ hbb (Nat.le_refl _) | with_reducible refine Wo.below_at ?_ hba (Nat.le_refl _) | with_reducible refine Wo.old_at ?_ _ | with_reducible refine Wo.drew_at ?_)
              intro hTT0
              obtain ⟨X1, X2, X3, ⟨f0, z0, e0, s0⟩, ⟨f1, z1, e1, s1⟩, ⟨f2, z2, e2, s2⟩, hTT, hXs, hXo, hXb⟩ := Dt.put3 hTT0 (.slice none 0 0) (.slice aa inp.size ca) (.slice ab out.size cb)
              have hTl : W2.heap.size ≤ (W2.heap.size + 1 + 1) := by have hs1 := hba.size; have hs2 := hbb.size; (try simp only [Wo.szA, Wo.szD] at hs1); (try simp only [Wo.szA, Wo.szD] at hs2); omega
              have hkeepX := HKW.out X3 (hXb _ _ hacc hTl)
              have hia := hia.kept (by decide) hTT0 (fun b hb _ => hXo b hb) (Nat.le_of_eq hXs.symm)
              have hib := hib.kept (by decide) hTT0 (fun b hb _ => hXo b hb) (Nat.le_of_eq hXs.symm)
              have hacc := hXb _ _ hacc hTl)
           | (refine Wo.viaBox (p := wb.heap[wa.heap.size]? = some (.cells #[.slice none 0 0, .slice none 0 0, .slice none 0 0] 26 (0, 0))) ?_ ?_
              · repeat (first | (with_reducible refine Wo.new_at _ _ _ ?_; first | with_reducible rfl | (simp only [Wo.szA, Wo.szD]; done)) | with_reducible refine Wo.below_at ?_ hbb (Nat.le_refl _) | with_reducible refine Wo.below_at ?_ hba (Nat.le_refl _) | with_reducible refine Wo.old_at ?_ _ | with_reducible refine Wo.drew_at ?_)
              intro hTT0
              obtain ⟨X1, X2, X3, ⟨f0, z0, e0, s0⟩, ⟨f1, z1, e1, s1⟩, ⟨f2, z2, e2, s2⟩, hTT, hXs, hXo, hXb⟩ := Dt.put3 hTT0 (.slice none 0 0) (.slice aa inp.size ca) (.slice ab out.size cb)
              have hTl : W2.heap.size ≤ wa.heap.size := by have hs1 := hba.size; have hs2 := hbb.size; (try simp only [Wo.szA, Wo.szD] at hs1); (try simp only [Wo.szA, Wo.szD] at hs2); omega
              have hkeepX := HKW.out X3 (hXb _ _ hacc hTl)
              have hia := hia.kept (by decide) hTT0 (fun b hb _ => hXo b hb) (Nat.le_of_eq hXs.symm)
              have hib := hib.kept (by decide) hTT0 (fun b hb _ => hXo b hb) (Nat.le_of_eq hXs.symm)
              have hacc := hXb _ _ hacc hTl)
           | (refine Wo.viaBox (p := wb.heap[(wa.heap.size + 1)]? = some (.cells #[.slice none 0 0, .slice none 0 0, .slice none 0 0] 26 (0, 0))) ?_ ?_
              · repeat (first | (with_reducible refine Wo.new_at _ _ _ ?_; first | with_reducible rfl | (simp only [Wo.szA, Wo.szD]; done)) | with_reducible refine Wo.below_at ?_ hbb (Nat.le_refl _) | with_reducible refine Wo.below_at ?_ hba (Nat.le_refl _) | with_reducible refine Wo.old_at ?_ _ | with_reducible refine Wo.drew_at ?_)
              intro hTT0
              obtain ⟨X1, X2, X3, ⟨f0, z0, e0, s0⟩, ⟨f1, z1, e1, s1⟩, ⟨f2, z2, e2, s2⟩, hTT, hXs, hXo, hXb⟩ := Dt.put3 hTT0 (.slice none 0 0) (.slice aa inp.size ca) (.slice ab out.size cb)
              have hTl : W2.heap.size ≤ (wa.heap.size + 1) := by have hs1 := hba.size; have hs2 := hbb.size; (try simp only [Wo.szA, Wo.szD] at hs1); (try simp only [Wo.szA, Wo.szD] at hs2); omega
              have hkeepX := HKW.out X3 (hXb _ _ hacc hTl)
              have hia := hia.kept (by decide) hTT0 (fun b hb _ => hXo b hb) (Nat.le_of_eq hXs.symm)
              have hib := hib.kept (by decide) hTT0 (fun b hb _ => hXo b hb) (Nat.le_of_eq hXs.symm)
              have hacc := hXb _ _ hacc hTl)
           | skip))
    all_goals
      first
      | (have HOUT := Lib.hid (And.intro hTl (And.intro hTT (And.intro hia (And.intro hib (And.intro hacc (And.intro hgb hap))))))
         clear hTl hTT hTT0 hia hib hacc hgb hap hkeep hkeepX f0 z0 e0 s0 f1 z1 e1 s1 f2 z2 e2 s2 hXs hXo hXb hba hbb hla hlb hbab
         go_wp2_with fail
         go_meet
         exact ⟨_, aa, ca, ab, cb, rfl, HOUT.out⟩)
      | (have hn := heap_alloc_new wb (.cells #[.slice none 0 0, .slice aa inp.size ca, .slice ab out.size cb] 26)
         have hbx := (Below.refl wb.heap.size wb).alloc (Nat.le_refl _) (.cells #[.slice none 0 0, .slice aa inp.size ca, .slice ab out.size cb] 26)
         have HOUT := Lib.hid (And.intro hacc.size (And.intro hn (And.intro (hia.below hbx (Nat.le_refl _)) (And.intro (hib.below hbx (Nat.le_refl _)) (And.intro (Wo.belowT hacc hbx) (And.intro hgb hap))))))
         clear hn hbx hia hib hacc hgb hap hkeep hba hbb hla hlb hbab
         go_wp2_with fail
         go_meet
         exact ⟨_, aa, ca, ab, cb, rfl, HOUT.out⟩)
  case rest =>
    obtain ⟨T, aa, ca, ab, cb, rfl, hTl2, hq2, hia0, hib0, hacc0, hgb0, hap0⟩ := hcut
    have HGB := Lib.hid hgb0
    have HAP := Lib.hid hap0
    have HIA := Lib.hid hia0
    have HIB := Lib.hid hib0
    have HACC := Lib.hid hacc0
    obtain ⟨X3, hX3⟩ : ∃ z, z = wc := ⟨_, rfl⟩
    subst hX3
    clear hia0 hib0 hacc0 hgb0 hap0 hacc
    have hTs : T < X3.heap.size := (Array.getElem?_eq_some_iff.1 hq2).1
    have hOW0 : Wo.Own X3 T (.slice none 0 0) [] := Wo.Own.nil X3 T (Nat.le_of_lt hTs)
    have k0 := (HACC.out.block w.heap.size (by have := HSZ.out; omega)).trans HQ0.out
    have k00 := Dt.cell_of k0 0
    clear k0
    go_wp2_with fail
    go_loopw [4] (fun i wr => ∃ (k : Nat) (fv : Value) (g : List (Wo.F × Value)), i = .int .i64 k ∧ k ≤ fs.length ∧ g.length = k ∧ g.map (·.1) = fs.take k ∧ wr.heap[T]? = some (.cells #[fv, .slice aa inp.size ca, .slice ab out.size cb] 26 (0, 0)) ∧ Wo.Own wr T fv g ∧ Wo.InU wr (.slice aa inp.size ca) inp ∧ Wo.InU wr (.slice ab out.size cb) out ∧ Below W2.heap.size W2 wr ∧ ∀ x ∈ g, Wo.Ap x.2 (.slice ab out.size cb)) (fun i _ => fs.length - (intOf i).toNat)
    case atStart => exact ⟨0, _, [], rfl, Nat.zero_le _, rfl, rfl, hq2, hOW0, HIA.out, HIB.out, HACC.out, fun x hx => by cases hx⟩
    case round =>
      obtain ⟨k, fv, g, rfl, hk, hgl, hgm, hT, hown, hia, hib, hbw, hapg⟩ := hrel
      have HAPG := Lib.hid hapg
      clear hapg
      subst hgl
      obtain ⟨wo, hwo⟩ : ∃ z, z = wr := ⟨_, rfl⟩
      subst hwo
      clear hOW0 hq2 hTs
      have hTs : T < wo.heap.size := (Array.getElem?_eq_some_iff.1 hT).1
      have hQw := HQ.out wo hbw
      have x9 := hQw.2.1
      by_cases hlt : g.length < fs.length
      · obtain ⟨b, off, rfl, _, hcap, hbl, hcell⟩ := HF.out.at (by omega)
        obtain ⟨c0, da, dc, c1, hin⟩ := hcell g.length hlt
        have hbd := b4 g.length hlt
        have HGM := Lib.hid (fun vd => Wo.take_map fs g g.length vd hlt hgm)
        clear hcell hgm
        generalize fs.getD g.length Wo.e0 = d at *
        obtain ⟨af, cf, rfl⟩ := hown.slice
        have HIN := Lib.hid (fun (w' : World) (hb : Below wo.heap.size wo w') => ((hin.below HB0.out (Nat.le_refl _)).below hbw (Nat.le_refl _)).below hb (Nat.le_refl _))
        have HOV := Lib.hid (fun (w' : World) (hb : Below wo.heap.size wo w') => hown.below hb (Nat.le_refl _))
        have HIAV := Lib.hid (fun (w' : World) (hb : Below wo.heap.size wo w') => hia.below hb (Nat.le_refl _))
        have HIBV := Lib.hid (fun (w' : World) (hb : Below wo.heap.size wo w') => hib.below hb (Nat.le_refl _))
        have HKT := Lib.hid (fun (w' : World) (hb : Below wo.heap.size wo w') => (hb.block T hTs).trans hT)
        have HIB0 := Lib.hid hib
        have HGE := Lib.hid hown.row_ge
        have HBW := Lib.hid hbw
        have hzw := hbw.size
        have z0 : (W2.cell? ⟨b, off + g.length * 2, none⟩) = some (.string d.1) := (HB0.out.cell (p := ⟨b, off + g.length * 2, none⟩) hbl).trans c0
        have z1 : (W2.cell? ⟨b, off + g.length * 2 + 1, none⟩) = some (.slice da d.2.size dc) := (HB0.out.cell (p := ⟨b, off + g.length * 2 + 1, none⟩) hbl).trans c1
        have hbl2 : b < W2.heap.size := Nat.lt_of_lt_of_le hbl HB0.out.size
        have hK : ∀ w' : World, Below wo.heap.size wo w' → w'.cell? ⟨w.heap.size, 0, none⟩ = some (.slice (some ⟨b, off, none⟩) fs.length cap) ∧ w'.cell? ⟨b, off + g.length * 2, none⟩ = some (.string d.1) ∧ w'.cell? ⟨b, off + g.length * 2 + 1, none⟩ = some (.slice da d.2.size dc) ∧ w'.cell? ⟨T, 0, none⟩ = some (.slice af g.length cf) := fun w' hb =>
          ⟨(HQ.out w' (Wo.belowT hbw hb)).2.1, ((Wo.belowT hbw hb).cell (p := ⟨b, off + g.length * 2, none⟩) hbl2).trans z0, ((Wo.belowT hbw hb).cell (p := ⟨b, off + g.length * 2 + 1, none⟩) hbl2).trans z1, Dt.cell_of ((hb.block T hTs).trans hT) 0⟩
        have HK := Lib.hid hK
        clear hK z0 z1 hbl2 hbl c0 c1 hin hia hib hT hQw
        have hacc : Below wo.heap.size wo wo := Below.refl _ _
        go_wp2_with fail
        refine Wo.region_F (fun w' => w'.cell? ⟨w.heap.size, 0, none⟩ = some (.slice (some ⟨b, off, none⟩) fs.length cap) ∧ w'.cell? ⟨b, off + g.length * 2, none⟩ = some (.string d.1) ∧ w'.cell? ⟨b, off + g.length * 2 + 1, none⟩ = some (.slice da d.2.size dc) ∧ w'.cell? ⟨T, 0, none⟩ = some (.slice af g.length cf)) [18, 20] (by kernel_rfl) (HK.out _ (Wo.belowD hacc)) (fun _ => ?_)
        have hS := HK.out _ (Wo.belowD hacc)
        refine Wo.anyF_pure (i := 0) (v := ?_) rfl (by kernel_rfl) (by kernel_rfl) (by kernel_rfl) rfl (fun _ _ _ h => h) (by rfl) ?_ (fun _ => hS) ?_
        rotate_left 1
        · intro w'
          go_simp
          all_goals with_reducible rfl
        try simp only [Act.put, List.setIfInBounds_toArray, List.set_cons_zero, List.set_cons_succ]
        refine Wo.anyF_load (i := 1) (v := ?_) [18, 20] rfl (by kernel_rfl) (by kernel_rfl) (by kernel_rfl) rfl (by kernel_rfl) (by rfl) (by kernel_rfl) (fun _ _ _ h => h) (by rfl) ?_ (fun _ => hS) ?_
        rotate_left 1
        · intro w' hSw
          (try dsimp only at hSw)
          obtain ⟨s0, s1, s2, s3⟩ := hSw
          go_simp
          all_goals with_reducible rfl
        try simp only [Act.put, List.setIfInBounds_toArray, List.set_cons_zero, List.set_cons_succ]
        refine Wo.anyF_pure (i := 2) (v := ?_) rfl (by kernel_rfl) (by kernel_rfl) (by kernel_rfl) rfl (fun _ _ _ h => h) (by rfl) ?_ (fun _ => hS) ?_
        rotate_left 1
        · intro w'
          go_simp
          all_goals with_reducible rfl
        try simp only [Act.put, List.setIfInBounds_toArray, List.set_cons_zero, List.set_cons_succ]
        refine Wo.anyF_load (i := 3) (v := ?_) [5, 6, 7, 16, 17, 18, 20] rfl (by kernel_rfl) (by kernel_rfl) (by kernel_rfl) rfl (by kernel_rfl) (by rfl) (by kernel_rfl) (fun _ _ _ h => h) (by rfl) ?_ (fun _ => hS) ?_
        rotate_left 1
        · intro w' hSw
          (try dsimp only at hSw)
          obtain ⟨s0, s1, s2, s3⟩ := hSw
          go_simp
          all_goals with_reducible rfl
        try simp only [Act.put, List.setIfInBounds_toArray, List.set_cons_zero, List.set_cons_succ]
        refine Wo.anyF_pure (i := 4) (v := ?_) rfl (by kernel_rfl) (by kernel_rfl) (by kernel_rfl) rfl (fun _ _ _ h => h) (by rfl) ?_ (fun _ => hS) ?_
        rotate_left 1
        · intro w'
          go_simp
          all_goals with_reducible rfl
        try simp only [Act.put, List.setIfInBounds_toArray, List.set_cons_zero, List.set_cons_succ]
        refine Wo.anyF_pure (i := 5) (v := ?_) rfl (by kernel_rfl) (by kernel_rfl) (by kernel_rfl) rfl (fun _ _ _ h => h) (by rfl) ?_ (fun _ => hS) ?_
        rotate_left 1
        · intro w'
          go_simp
          all_goals with_reducible rfl
        try simp only [Act.put, List.setIfInBounds_toArray, List.set_cons_zero, List.set_cons_succ]
        refine Wo.anyF_pure (i := 6) (v := ?_) rfl (by kernel_rfl) (by kernel_rfl) (by kernel_rfl) rfl (fun _ _ _ h => h) (by rfl) ?_ (fun _ => hS) ?_
        rotate_left 1
        · intro w'
          go_simp
          all_goals with_reducible rfl
        try simp only [Act.put, List.setIfInBounds_toArray, List.set_cons_zero, List.set_cons_succ]
        refine Wo.anyF_load (i := 7) (v := ?_) [16, 17, 18, 20] rfl (by kernel_rfl) (by kernel_rfl) (by kernel_rfl) rfl (by kernel_rfl) (by rfl) (by kernel_rfl) (fun _ _ _ h => h) (by rfl) ?_ (fun _ => hS) ?_
        rotate_left 1
        · intro w' hSw
          (try dsimp only at hSw)
          obtain ⟨s0, s1, s2, s3⟩ := hSw
          go_simp
          all_goals with_reducible rfl
        try simp only [Act.put, List.setIfInBounds_toArray, List.set_cons_zero, List.set_cons_succ]
        refine Wo.anyF_pure (i := 9) (v := ?_) rfl (by kernel_rfl) (by kernel_rfl) (by kernel_rfl) rfl (fun _ _ _ h => h) (by rfl) ?_ (fun _ => hS) ?_
        rotate_left 1
        · intro w'
          go_simp
          all_goals with_reducible rfl
        try simp only [Act.put, List.setIfInBounds_toArray, List.set_cons_zero, List.set_cons_succ]
        refine Wo.anyF_load (i := 10) (v := ?_) [12, 13, 14, 15, 16, 17, 18, 20] rfl (by kernel_rfl) (by kernel_rfl) (by kernel_rfl) rfl (by kernel_rfl) (by rfl) (by kernel_rfl) (fun _ _ _ h => h) (by rfl) ?_ (fun _ => hS) ?_
        rotate_left 1
        · intro w' hSw
          (try dsimp only at hSw)
          obtain ⟨s0, s1, s2, s3⟩ := hSw
          go_simp
          all_goals with_reducible rfl
        try simp only [Act.put, List.setIfInBounds_toArray, List.set_cons_zero, List.set_cons_succ]
        refine Wo.anyF_pure (i := 11) (v := ?_) rfl (by kernel_rfl) (by kernel_rfl) (by kernel_rfl) rfl (fun _ _ _ h => h) (by rfl) ?_ (fun _ => hS) ?_
        rotate_left 1
        · intro w'
          go_simp
          all_goals with_reducible rfl
        try simp only [Act.put, List.setIfInBounds_toArray, List.set_cons_zero, List.set_cons_succ]
        refine Wo.anyF_pure (i := 12) (v := ?_) rfl (by kernel_rfl) (by kernel_rfl) (by kernel_rfl) rfl (fun _ _ _ h => h) (by rfl) ?_ (fun _ => hS) ?_
        rotate_left 1
        · intro w'
          go_simp
          all_goals with_reducible rfl
        try simp only [Act.put, List.setIfInBounds_toArray, List.set_cons_zero, List.set_cons_succ]
        refine Wo.anyF_pure (i := 13) (v := ?_) rfl (by kernel_rfl) (by kernel_rfl) (by kernel_rfl) rfl (fun _ _ _ h => h) (by rfl) ?_ (fun _ => hS) ?_
        rotate_left 1
        · intro w'
          go_simp
          all_goals with_reducible rfl
        try simp only [Act.put, List.setIfInBounds_toArray, List.set_cons_zero, List.set_cons_succ]
        refine Wo.anyF_load (i := 14) (v := ?_) [15, 16, 17, 18, 20] rfl (by kernel_rfl) (by kernel_rfl) (by kernel_rfl) rfl (by kernel_rfl) (by rfl) (by kernel_rfl) (fun _ _ _ h => h) (by rfl) ?_ (fun _ => hS) ?_
        rotate_left 1
        · intro w' hSw
          (try dsimp only at hSw)
          obtain ⟨s0, s1, s2, s3⟩ := hSw
          go_simp
          all_goals with_reducible rfl
        try simp only [Act.put, List.setIfInBounds_toArray, List.set_cons_zero, List.set_cons_succ]
        refine Wo.anyF_one (i := 8) rfl (by kernel_rfl) (fun K hK => ?_)
        go_simp
        refine hK.out _ _ (fun _ => ?_) ?_
        · exact HK.out _ (Wo.belowA (Wo.belowD hacc) _)
        try simp only [Act.put, List.setIfInBounds_toArray, List.set_cons_zero, List.set_cons_succ]
        clear hK K hS
        have hS := HK.out _ (Wo.belowA (Wo.belowD hacc) (.cells #[] 5))
        refine Wo.anyF_one (i := 15) rfl (by kernel_rfl) (fun K hK => ?_)
        refine Wo.step_append_fresh (by rfl) _ _ _ (by rfl) i1 (.int .u8 0) Try.underlying22 hi1 hy0 hy1 hy2 (by rfl) wo.heap.size (by rfl) (Wo.new_at wo.drew _ _ rfl) (.slice da d.2.size dc) d.2 (by rfl) (HIN.out _ (Wo.belowA (Wo.belowD hacc) _)) (by omega) ?_
        intro vd wD hid hbD hld
        obtain ⟨ax, cx, rfl⟩ := hid.1.slice
        have hgd : Wo.Ge wo.heap.size (.slice ax d.2.size cx) := by
          intro k h2
          rcases hld with h' | ⟨h', hl'⟩ <;> (rw [h'] at h2; simp only [Option.some.injEq] at h2; (try simp only [Wo.szA, Wo.szD] at h2); omega)
        have hapd := (HIB0.out.ap hgd (Nat.le_refl _)).symm
        replace hacc : Below wo.heap.size wo wD := Wo.belowT (Wo.belowA (Wo.belowD hacc) _) hbD
        clear hbD hld hgd hS
        have hS := HK.out _ hacc
        refine hK.out _ _ (fun _ => hS) ?_
        try simp only [Act.put, List.setIfInBounds_toArray, List.set_cons_zero, List.set_cons_succ]
        clear hK K
        refine Wo.anyF_pure (i := 16) (v := ?_) rfl (by kernel_rfl) (by kernel_rfl) (by kernel_rfl) rfl (fun _ _ _ h => h) (by rfl) ?_ (fun _ => hS) ?_
        rotate_left 1
        · intro w'
          go_simp
          all_goals with_reducible rfl
        try simp only [Act.put, List.setIfInBounds_toArray, List.set_cons_zero, List.set_cons_succ]
        refine Wo.anyF_one (i := 17) rfl (by kernel_rfl) (fun K hK => ?_)
        go_simp
        refine hK.out _ _ (fun _ => ?_) ?_
        · exact HK.out _ (Wo.belowA hacc _)
        try simp only [Act.put, List.setIfInBounds_toArray, List.set_cons_zero, List.set_cons_succ]
        clear hK K hS
        refine Wo.anyF_one (i := 18) rfl (by kernel_rfl) (fun K hK => ?_)
        refine Dt.step_append_own (by rfl) _ _ _ (by rfl) T 53 i0 (.agg #[.string ⟨#[]⟩, .slice none 0 0]) 2 40 Try.underlying24 hi0 hz0 hz1 hz2 rfl (by decide) _ g.length _ (by rfl) (HOV.out _ (Wo.belowA hacc _)).1 ⟨wD.heap.size, 0, none⟩ 1 1 [.string d.1, .slice ax d.2.size cx] (by rfl) rfl (Dt.row_at (heap_alloc_new wD _)) (by intro u hu; simp only [List.mem_cons, List.not_mem_nil, or_false] at hu; rcases hu with rfl | rfl <;> rfl) (by unfold maxLen; omega) (by omega) (Nat.le_trans (Nat.le_of_lt hTs) (Wo.belowA hacc _).size) ?_
        intro v9 w9 hown9 hgrow9 _
        have hx := Wo.belowA hacc (.cells #[.string d.1, .slice ax d.2.size cx] 53)
        have hgr := Wo.Own.grow (f := d) (HOV.out _ hx) (hid.below ((Below.refl wD.heap.size wD).alloc (Nat.le_refl _) _) (Nat.le_refl _)) hown9 hgrow9
        obtain ⟨a9, c9, rfl⟩ := hgr.1.slice
        have hT9 := hgr.2.1 T _ _ (by decide) (HKT.out _ hx)
        have hcT := Dt.cell_of hT9 0
        have hzT := Dt.frozen_of hT9 0
        have hl9 : (g ++ [(d, Value.slice ax d.2.size cx)]).length = g.length + 1 := by simp
        rw [hl9] at hgr
        have HG1 := Lib.hid (hgr.1.set (T := T) (k := 0) (t := 26) (by decide) (by decide) hT9 (Value.slice a9 (g.length + 1) c9))
        have HG2 := Lib.hid ((hgr.2.2 _ _ (HIAV.out _ hx)).set (T := T) (k := 0) (t := 26) (by decide) hT9 (Value.slice a9 (g.length + 1) c9))
        have HG3 := Lib.hid ((hgr.2.2 _ _ (HIBV.out _ hx)).set (T := T) (k := 0) (t := 26) (by decide) hT9 (Value.slice a9 (g.length + 1) c9))
        have HG4 : Hid ((w9.setCell ⟨T, 0, none⟩ (Value.slice a9 (g.length + 1) c9)).heap[T]? = some (.cells #[.slice a9 (g.length + 1) c9, .slice aa inp.size ca, .slice ab out.size cb] 26 (0, 0))) := Lib.hid (Dt.setCells hT9 0 (Value.slice a9 (g.length + 1) c9))
        have HG5 := Lib.hid (((Wo.belowT HBW.out hx).grown hgrow9 (Nat.le_trans HBW.out.size hx.size) (fun k hk => Nat.le_trans hTl2 (HGE.out k hk))).setCell (p := ⟨T, 0, none⟩) hTl2 (Value.slice a9 (g.length + 1) c9))
        have HG6 : Hid (∀ x ∈ g ++ [(d, Value.slice ax d.2.size cx)], Wo.Ap x.2 (.slice ab out.size cb)) := Lib.hid (fun x hx => by
          rcases List.mem_append.1 hx with hx | hx
          · exact HAPG.out x hx
          · simp only [List.mem_singleton] at hx
            subst hx
            exact hapd)
        clear hgr hown9 hgrow9 hT9 hx hid hapd hl9
        refine hK.out _ _ (Wo.off (by kernel_rfl)) ?_
        try simp only [Act.put, List.setIfInBounds_toArray, List.set_cons_zero, List.set_cons_succ]
        clear hK K hacc
        refine Wo.anyF_pure (i := 19) (v := ?_) rfl (by kernel_rfl) (by kernel_rfl) (by kernel_rfl) rfl (fun _ _ _ h => h) (by rfl) ?_ (Wo.off (by kernel_rfl)) ?_
        rotate_left 1
        · intro w'
          go_simp
          all_goals with_reducible rfl
        try simp only [Act.put, List.setIfInBounds_toArray, List.set_cons_zero, List.set_cons_succ]
        refine Wo.anyF_one (i := 20) rfl (by kernel_rfl) (fun K hK => ?_)
        go_simp
        refine hK.out _ _ (Wo.off (by kernel_rfl)) ?_
        try simp only [Act.put, List.setIfInBounds_toArray, List.set_cons_zero, List.set_cons_succ]
        clear hK K
        refine Wo.anyF_done (by kernel_rfl) ?_ _
        clear hcT hzT
        go_wp2_with fail
        go_roundw
        case rel => exact ⟨g.length + 1, _, g ++ [(d, Value.slice ax d.2.size cx)], by first | rfl | go_num | (simp; try omega), by omega, by simp, HGM.out _, HG4.out, HG1.out, HG2.out, HG3.out, HG5.out, HG6.out⟩
        case measure => simp [intOf]; omega
      · have hgl : g.length = fs.length := by omega
        have hgm2 : g.map (·.1) = fs := by rw [hgm, hgl, List.take_length]
        have qr := (hbw.block (w.heap.size + 1) (by have := HZ.out; omega)).trans HQ1.out
        obtain ⟨af, cf, rfl⟩ := hown.slice
        rw [hgl] at hT hown
        have g0 := Dt.cell_of hT 0
        have g1 := Dt.cell_of hT 1
        have g2 := Dt.cell_of hT 2
        have hz := HZ.out
        obtain ⟨X1, X2, X4, ⟨f0, z0, e0, s0⟩, ⟨f1, z1, e1, s1⟩, ⟨f2, z2, e2, s2⟩, hR, hXs, hXo, hXb⟩ := Dt.put3 qr (.slice af fs.length cf) (.slice aa inp.size ca) (.slice ab out.size cb)
        have HOUT : Hid (Wo.Made X4 w.heap.size (.agg #[.slice af fs.length cf, .slice aa inp.size ca, .slice ab out.size cb]) (fs, inp, out)) := Lib.hid ⟨_, _, _, g, rfl, hown.moved (by decide) (by decide) qr hXo (Nat.le_of_eq hXs.symm) (by omega), hgm2, hia.kept (by decide) qr (fun b hb _ => hXo b hb) (Nat.le_of_eq hXs.symm), hib.kept (by decide) qr (fun b hb _ => hXo b hb) (Nat.le_of_eq hXs.symm), HGB.out.mono (by omega), HAP.out, HAPG.out⟩
        have HBB : Hid (Below w.heap.size w X4) := Lib.hid (hXb _ _ (HB0.out.trans (hbw.mono (by omega))) (by omega))
        have r0 := Dt.cell_of hR 0
        have r1 := Dt.cell_of hR 1
        have r2 := Dt.cell_of hR 2
        have hnlt : decide ((g.length : Int) < (fs.length : Int)) = false := decide_eq_false (by omega)
        clear hXs hXo hXb hown hia hib hgm hgm2 hbw qr hR hT
        go_wp2_with fail
        refine bodyPost_ret (v := .agg #[.slice af fs.length cf, .slice aa inp.size ca, .slice ab out.size cb]) (by simp [results, Try.results12, go_sem, r0, r1, r2]) rfl ⟨_, rfl, HOUT.out, HBB.out⟩
end Go.Proofs.Ytdikkknjdbchbaa
