/-
  The walk of the law CondParts.
-/
import Derived.Test.YtikmebkfdpbidaaGreatDoorPk
import Derived.Test.YtikmebkfdpbidaaGreatDoorPl
import Derived.Test.YtikmebkfdpbidaaGreatDoorPm
namespace Go.Proofs.YtikmebkfdpbidaaGreatDoor
open Go.RowKit
set_option linter.unusedVariables false
set_option linter.unusedSimpArgs false

theorem Sp.LLIn.below {w w' : World} {S : Nat → Prop} {B : Nat} {ls : List (List Sp)} {v : Value} (h : Sp.LLIn w S ls v) (hb : Below B w w') (hB : w.heap.size ≤ B) : Sp.LLIn w' S ls v :=
  Tr.Sl.imp h (hb.size) (fun _ h => h) (fun b off hlt hS hA k l hk => by
    obtain ⟨lv, h1, h2⟩ := hA k l hk
    exact ⟨lv, (hb.cell (p := ⟨b, off + k, none⟩) (by show b < B; omega)).trans h1, h2.below hb hB⟩)
/-- One part that lies alone in its block. -/
theorem Sp.LIn.one {w : World} {S : Nat → Prop} {s : Sp} {b n : Nat} {fv : Value} {t : TypeId} (h : w.heap[b]? = some (.cells #[.int .i64 s.t, fv] t (0, 0))) (hf : Tr.LIn w S s.f fv) : Sp.LIn w (fun _ => True) [s] (.slice (some ⟨b, 0, none⟩) 1 1) := by
  have hb := (Array.getElem?_eq_some_iff.1 h).1
  refine .inr (.inr ⟨by simp, b, 0, 1, rfl, by simp, by decide, hb, trivial, fun k l hk => ?_⟩)
  match k, hk with
  | 0, hk =>
    simp only [List.getElem?_cons_zero, Option.some.injEq] at hk
    subst hk
    exact ⟨fv, (Sm.cells h (0 + 0 * 2)).trans rfl, (Sm.cells h (0 + 0 * 2 + 1)).trans rfl, hf.mono (fun _ _ => trivial)⟩
  | k + 1, hk => simp at hk
set_option maxHeartbeats 16000000 in
set_option maxRecDepth 1000000 in
theorem condParts.walk0 (ls : List (List Sp)) (t : Int) (v : Value) (w : World) (h : Sp.LLIn w (fun _ => True) ls v) (hT : Tr.Tabs w) (hx : ∀ l ∈ ls, Sp.txt l) (hlen : ls.flatten.length ≤ 4000000000000) :
    Calls Tryz.prog 5 #[v, .int .i64 t] w fun e w' => e = .returned (.bool true) ∧ Below w.heap.size w w' := by
  obtain ⟨ad, cap, rfl, _, _⟩ := Tr.Sl.slice h
  have HH := Lib.hid h
  have HTB : Hid (∀ w', Below w.heap.size w w' → Tr.Tabs w') := Lib.hid (fun w' hb => hT.since hb (Nat.le_refl _))
  have HX := Lib.hid hx
  have KJ := Sp.Join_any ls _ _ w h hT hlen
  have KR := Lib.hid (fun w' (hb : Below w.heap.size w w') => Cr.Join_any ls _ _ w' (h.below hb (Nat.le_refl _)) (hT.since hb (Nat.le_refl _)) hx hlen)
  clear h hT hx hlen
  generalize Sp.chk ls.flatten = ck at *
  generalize Sp.joined ls.flatten = J at *
  go_enter Tryz.func5, Tryz.ntmps5
  go_wp2_with fail
  refine KJ.mono ?_
  rintro x w2 ⟨vc, rfl, hc, hb2⟩
  obtain ⟨ca, cc, rfl, _, _⟩ := hc.slice
  have HB2 := Lib.hid hb2
  have HC := Lib.hid hc
  clear KJ hc hb2
  go_wp2_with fail
  refine (KR.out _ HB2.out).mono ?_
  rintro x w3 ⟨vd, rfl, hd, hb3⟩
  obtain ⟨da, dc, rfl, _, _⟩ := hd.slice
  have HB3 := Lib.hid (HB2.out.trans (hb3.mono HB2.out.size))
  have HC3 := Lib.hid (HC.out.below hb3 (Nat.le_refl _))
  have HD := Lib.hid hd
  clear hd hb3
  go_wp2_with fail
  refine (Co.awake_any _).mono ?_
  rintro x w4 ⟨rfl, hb4⟩
  have HB4 := Lib.hid (HB3.out.trans (hb4.mono HB3.out.size))
  have KS := Cr.same J _ _ _ _ w4 (HC3.out.below hb4 (Nat.le_refl _)) (HD.out.below hb4 (Nat.le_refl _))
  clear hb4
  go_wp2_with fail
  refine KS.mono ?_
  rintro x w5 ⟨rfl, hb5⟩
  have HB5 := Lib.hid (HB4.out.trans (hb5.mono HB4.out.size))
  clear KS hb5
  go_wp2_with fail
  go_loopg [9] ls.length (fun g i wr => ∃ k : Nat, k + g = ls.length ∧ i = .int .i64 k ∧ Below w.heap.size w wr)
  case atStart => exact ⟨0, by omega, rfl, HB5.out⟩
  case round =>
    obtain ⟨k, hkg, rfl, hbw⟩ := hrel
    obtain ⟨wp, hwp⟩ : ∃ z, z = wr := ⟨_, rfl⟩
    subst hwp
    have HBW := Lib.hid hbw
    clear hbw
    by_cases hlt : k < ls.length
    · obtain ⟨l, hl⟩ : ∃ l, ls[k]? = some l := ⟨_, List.getElem?_eq_getElem hlt⟩
      obtain ⟨b, off, rfl, _, _, _, hblt, _, hall⟩ := Tr.Sl.at HH.out (by omega)
      obtain ⟨lv, c0, hL⟩ := hall k l hl
      obtain ⟨la, lc, rfl, _, _⟩ := hL.slice
      have hxl := HX.out l (List.mem_of_getElem? hl)
      have HC0 : Hid (∀ w', Below w.heap.size w w' → w'.cell? ⟨b, off + k, none⟩ = some (.slice la l.length lc)) := Lib.hid (fun w' hb => (hb.cell (p := ⟨b, off + k, none⟩) hblt).trans c0)
      have KF := Lib.hid (fun w' (hb : Below w.heap.size w w') => Sp.Find_any l t _ _ w' (hL.below hb (Nat.le_refl _)) (HTB.out w' hb))
      have KG := Lib.hid (fun w' (hb : Below w.heap.size w w') => Cr.Find_any l t _ _ w' (hL.below hb (Nat.le_refl _)) (HTB.out w' hb) hxl)
      have KC := Lib.hid (fun w' (hb : Below w.heap.size w w') => Sp.Check_any l _ _ w' (hL.below hb (Nat.le_refl _)) (HTB.out w' hb))
      have KD := Lib.hid (fun w' (hb : Below w.heap.size w w') => Cr.Check_any l _ _ w' (hL.below hb (Nat.le_refl _)) (HTB.out w' hb) hxl)
      obtain ⟨x, hx⟩ : ∃ z, z = Sp.find l t := ⟨_, rfl⟩
      obtain ⟨k2, hk2⟩ : ∃ z, z = Sp.chk l := ⟨_, rfl⟩
      rw [← hx] at KF KG
      rw [← hk2] at KC KD
      obtain ⟨x, g⟩ := x
      clear hx hk2 hxl hall hL hl hblt c0
      have c0 := HC0.out _ HBW.out
      go_wp2_with fail
      refine (KF.out _ HBW.out).mono ?_
      rintro z w6 ⟨fva, rfl, hLa, hb6⟩
      obtain ⟨a9, c9, rfl, _, _⟩ := Tr.Sl.slice hLa
      obtain ⟨W6, hW6⟩ : ∃ z, w6.alloc (.cells #[.int .i64 x.t, .slice a9 x.f.length c9] 53) = z := ⟨_, rfl⟩
      have hq6 : W6.heap[w6.heap.size]? = some (.cells #[.int .i64 x.t, .slice a9 x.f.length c9] 53 (0, 0)) := by rw [← hW6]; exact heap_alloc_new w6 _
      have hs6 : Below w6.heap.size w6 W6 := by rw [← hW6]; exact (Below.refl _ _).alloc (Nat.le_refl _) _
      have hbw6 := HBW.out.trans (hb6.mono HBW.out.size)
      have HB6 := Lib.hid (hbw6.trans (hs6.mono hbw6.size))
      have HLA := Lib.hid (hLa.below hs6 (Nat.le_refl _))
      have HQ6 := Lib.hid hq6
      have HLT6 := Lib.hid (Array.getElem?_eq_some_iff.1 hq6).1
      clear hLa hb6 hs6 hq6 hbw6 c0
      have c0 := HC0.out _ HB6.out
      go_wp2_with fail
      refine (KG.out _ HB6.out).mono ?_
      rintro z w7 ⟨fvb, rfl, hLb, hb7⟩
      obtain ⟨a11, c11, rfl, _, _⟩ := Tr.Sl.slice hLb
      obtain ⟨W7, hW7⟩ : ∃ z, w7.alloc (.cells #[.int .i64 x.t, .slice a11 x.f.length c11] 53) = z := ⟨_, rfl⟩
      have hq7 : W7.heap[w7.heap.size]? = some (.cells #[.int .i64 x.t, .slice a11 x.f.length c11] 53 (0, 0)) := by rw [← hW7]; exact heap_alloc_new w7 _
      have hs7 : Below w7.heap.size w7 W7 := by rw [← hW7]; exact (Below.refl _ _).alloc (Nat.le_refl _) _
      have hb67 := hb7.trans (hs7.mono hb7.size)
      have HB7 := Lib.hid (HB6.out.trans (hb67.mono HB6.out.size))
      have hq67 := (hb67.block w6.heap.size HLT6.out).trans HQ6.out
      have HF : Hid (∀ w', Below W7.heap.size W7 w' → w'.cell? ⟨b, off + k, none⟩ = some (.slice la l.length lc) ∧ w'.cell? ⟨w6.heap.size, 0, none⟩ = some (.int .i64 x.t) ∧ w'.cell? ⟨w6.heap.size, 1, none⟩ = some (.slice a9 x.f.length c9) ∧ w'.cell? ⟨w7.heap.size, 0, none⟩ = some (.int .i64 x.t) ∧ w'.cell? ⟨w7.heap.size, 1, none⟩ = some (.slice a11 x.f.length c11) ∧ (∀ o, (w'.alloc o).cell? ⟨w6.heap.size, 0, none⟩ = some (.int .i64 x.t)) ∧ (∀ o, (w'.alloc o).cell? ⟨w6.heap.size, 1, none⟩ = some (.slice a9 x.f.length c9)) ∧ (∀ o, (w'.alloc o).cell? ⟨w7.heap.size, 0, none⟩ = some (.int .i64 x.t)) ∧ (∀ o, (w'.alloc o).cell? ⟨w7.heap.size, 1, none⟩ = some (.slice a11 x.f.length c11))) := Lib.hid (fun w' hb => by
        have e6 := (hb.block w6.heap.size (Array.getElem?_eq_some_iff.1 hq67).1).trans hq67
        have e7 := (hb.block w7.heap.size (Array.getElem?_eq_some_iff.1 hq7).1).trans hq7
        have f6 := fun o => (Lib.alloc_old w' o w6.heap.size (Array.getElem?_eq_some_iff.1 e6).1).trans e6
        have f7 := fun o => (Lib.alloc_old w' o w7.heap.size (Array.getElem?_eq_some_iff.1 e7).1).trans e7
        exact ⟨HC0.out _ (HB7.out.trans (hb.mono HB7.out.size)), (Sm.cells e6 0).trans rfl, (Sm.cells e6 1).trans rfl, (Sm.cells e7 0).trans rfl, (Sm.cells e7 1).trans rfl, fun o => (Sm.cells (f6 o) 0).trans rfl, fun o => (Sm.cells (f6 o) 1).trans rfl, fun o => (Sm.cells (f7 o) 0).trans rfl, fun o => (Sm.cells (f7 o) 1).trans rfl⟩)
      have HUP : Hid (∀ w', Below W7.heap.size W7 w' → Below w.heap.size w w') := Lib.hid (fun w' hb => HB7.out.trans (hb.mono HB7.out.size))
      have HSA : Hid (∀ w', Below W7.heap.size W7 w' → Calls Tryz.prog 23 #[.slice (some ⟨w'.heap.size, 0, none⟩) 1 1, .slice (some ⟨w'.heap.size + 1, 0, none⟩) 1 1] ((w'.alloc (.cells #[.int .i64 x.t, .slice a9 x.f.length c9] 53)).alloc (.cells #[.int .i64 x.t, .slice a11 x.f.length c11] 53)) fun e w'' => e = .returned (.bool true) ∧ Below w.heap.size w w'') := Lib.hid (fun w' hb => by
        obtain ⟨n0, n1, n2, n3⟩ := Sm.two w' (.cells #[.int .i64 x.t, .slice a9 x.f.length c9] 53) (.cells #[.int .i64 x.t, .slice a11 x.f.length c11] 53)
        have hbn := hb.trans (n3.mono hb.size)
        refine (Cr.same [x] _ _ _ _ _ (Sp.LIn.one (n := 0) n0 (HLA.out.below (hb67.trans (hbn.mono hb67.size)) (Nat.le_refl _))) (Sp.LIn.one (n := 0) n1 ((hLb.below hs7 (Nat.le_refl _)).below hbn (Nat.le_refl _)))).mono ?_
        rintro e w'' ⟨rfl, hb''⟩
        have h1 := HB7.out.trans (hbn.mono HB7.out.size)
        exact ⟨rfl, h1.trans (hb''.mono h1.size)⟩)
      have HSB : Hid (∀ w', Below W7.heap.size W7 w' → Calls Tryz.prog 23 #[.slice (some ⟨w'.heap.size + 1, 0, none⟩) 1 1, .slice (some ⟨w'.heap.size, 0, none⟩) 1 1] ((w'.alloc (.cells #[.int .i64 x.t, .slice a11 x.f.length c11] 53)).alloc (.cells #[.int .i64 x.t, .slice a9 x.f.length c9] 53)) fun e w'' => e = .returned (.bool true) ∧ Below w.heap.size w w'') := Lib.hid (fun w' hb => by
        obtain ⟨n0, n1, n2, n3⟩ := Sm.two w' (.cells #[.int .i64 x.t, .slice a11 x.f.length c11] 53) (.cells #[.int .i64 x.t, .slice a9 x.f.length c9] 53)
        have hbn := hb.trans (n3.mono hb.size)
        refine (Cr.same [x] _ _ _ _ _ (Sp.LIn.one (n := 0) n1 (HLA.out.below (hb67.trans (hbn.mono hb67.size)) (Nat.le_refl _))) (Sp.LIn.one (n := 0) n0 ((hLb.below hs7 (Nat.le_refl _)).below hbn (Nat.le_refl _)))).mono ?_
        rintro e w'' ⟨rfl, hb''⟩
        have h1 := HB7.out.trans (hbn.mono HB7.out.size)
        exact ⟨rfl, h1.trans (hb''.mono h1.size)⟩)
      have HBS : Hid (Below W7.heap.size W7 W7.drew) := Lib.hid ((Below.refl _ _).drew)
      obtain ⟨q0, q1, q2, q3, q4, q5, q6, q7, q8⟩ := HF.out _ HBS.out
      clear hLb hb7 hs7 hq7 hb67 hq67 c0
      go_wp2_with fail
      go_region_with (first
        | (go_at_call 26
           refine (KC.out _ (HUP.out _ (by first | exact HBR.out | exact HBS.out))).mono ?_
           rintro z w8 ⟨rfl, hb8⟩
           have HBC : Hid (Below W7.heap.size W7 w8) := Lib.hid (by first | exact HBR.out.trans (hb8.mono HBR.out.size) | exact HBS.out.trans (hb8.mono HBS.out.size))
           clear hb8 q0 q1 q2 q3 q4 q5 q6 q7 q8
           obtain ⟨q0, q1, q2, q3, q4, q5, q6, q7, q8⟩ := HF.out _ HBC.out)
        | (go_at_call 27
           refine (KD.out _ (HUP.out _ (by first | exact HBC.out | exact HBS.out))).mono ?_
           rintro z w9 ⟨rfl, hb9⟩
           have HBR : Hid (Below W7.heap.size W7 w9) := Lib.hid (by first | exact HBC.out.trans (hb9.mono HBC.out.size) | exact HBS.out.trans (hb9.mono HBS.out.size))
           clear hb9 q0 q1 q2 q3 q4 q5 q6 q7 q8
           obtain ⟨q0, q1, q2, q3, q4, q5, q6, q7, q8⟩ := HF.out _ HBR.out)
        | (go_at_call 23
           first | (with_reducible refine (HSA.out w9 HBR.out).mono ?_) | (with_reducible refine (HSB.out w9 HBR.out).mono ?_) | (with_reducible refine (HSA.out w8 HBC.out).mono ?_) | (with_reducible refine (HSB.out w8 HBC.out).mono ?_)
           rintro z w10 ⟨rfl, hb10⟩
           have HEND := Lib.hid hb10
           clear hb10))
      all_goals
        go_wp2_with fail
        go_roundg (gk - 1)
        case measure => omega
        case rel => exact ⟨k + 1, by omega, by first | rfl | go_num | (simp; try omega), HEND.out⟩
    · have hk : k = ls.length := by omega
      subst hk
      go_wp2_with fail
      go_ret
      exact ⟨rfl, HBW.out⟩
end Go.Proofs.YtikmebkfdpbidaaGreatDoor
