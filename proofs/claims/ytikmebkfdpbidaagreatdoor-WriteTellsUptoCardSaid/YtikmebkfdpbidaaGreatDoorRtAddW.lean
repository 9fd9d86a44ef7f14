/-
  Fractions: exact.sum.
-/
import Derived.Test.YtikmebkfdpbidaaGreatDoorWd
namespace Go.Proofs.YtikmebkfdpbidaaGreatDoor
open Go.RowKit
set_option linter.unusedVariables false
set_option linter.unusedSimpArgs false

set_option maxHeartbeats 8000000 in
set_option maxRecDepth 1000000 in
theorem Rt.sum_eq (s1 s2 : Bool) (t1 b1 t2 b2 x y bb : Nat) (hx : t1 * b2 = x) (hy : t2 * b1 = y) (hbb : b1 * b2 = bb) (v v2 : Value) (w : World) (h : Rt.R w v s1 t1 b1) (h2 : Rt.R w v2 s2 t2 b2) (hb1 : 0 < b1) (hb2 : 0 < b2) (hl : (Nt.dig t1).length ≤ 400000 ∧ (Nt.dig b1).length ≤ 400000 ∧ (Nt.dig t2).length ≤ 400000 ∧ (Nt.dig b2).length ≤ 400000) (hlx : (Nt.dig x).length ≤ 400000) (hly : (Nt.dig y).length ≤ 400000) (hs : s1 = s2) (hok : Nt.Ok (x + y) bb) :
    Calls Tryz.prog 123 #[v, v2] w fun e w' => ∃ v', e = .returned v' ∧ Rt.R w' v' (Rt.ratS s1 (x + y) bb).1 (Rt.ratS s1 (x + y) bb).2.1 (Rt.ratS s1 (x + y) bb).2.2 ∧ Below w.heap.size w w' := by
  have hbpos : 0 < bb := hbb ▸ Nat.mul_pos hb1 hb2
  subst hs
  have KX := fun v v2 w h h2 => Nt.Times_any t1 b2 v v2 w h h2 hl.1 hl.2.2.2
  have KY := fun v v2 w h h2 => Nt.Times_any t2 b1 v v2 w h h2 hl.2.2.1 hl.2.1
  have KB := fun v v2 w h h2 => Nt.Times_any b1 b2 v v2 w h h2 hl.2.1 hl.2.2.2
  rw [hx] at KX
  rw [hy] at KY
  rw [hbb] at KB
  have KA := fun v v2 w h h2 => Nt.Plus_any x y v v2 w h h2 hlx hly
  have KR := fun tv bv w h h2 => Rt.rat_any s1 (x + y) bb tv bv w h h2 hbpos hok
  generalize Rt.ratS s1 (x + y) bb = rr at *
  generalize hrv : x + y = res at *
  obtain ⟨rs, rt, rb⟩ := rr
  simp only at KR ⊢
  clear hrv hok hb1 hb2 hbpos hl hx hy hbb hlx hly
  obtain ⟨tv1, bv1, rfl, hn1, hd1⟩ := h
  obtain ⟨tv2, bv2, rfl, hn2, hd2⟩ := h2
  obtain ⟨a1, c1, rfl⟩ := Nt.In.slice hn1
  obtain ⟨a2, c2, rfl⟩ := Nt.In.slice hd1
  obtain ⟨a3, c3, rfl⟩ := Nt.In.slice hn2
  obtain ⟨a4, c4, rfl⟩ := Nt.In.slice hd2
  generalize (Nt.dig t1).length = l1 at *
  generalize (Nt.dig b1).length = l2 at *
  generalize (Nt.dig t2).length = l3 at *
  generalize (Nt.dig b2).length = l4 at *
  obtain ⟨W2, hW2, q0, q1, q2, hsz, hb0⟩ := Rt.three w (.cells #[.bool s1, .slice a1 l1 c1, .slice a2 l2 c2] 24) (.cells #[.bool s1, .slice a3 l3 c3, .slice a4 l4 c4] 24) (.cells #[.bool false, .slice none 0 0, .slice none 0 0] 24)
  have HI := Lib.hid (fun (w' : World) (hb : Below W2.heap.size W2 w') => And.intro ((Nt.N.below hn1 hb0 (Nat.le_refl _)).below hb (Nat.le_refl _)) (And.intro ((Nt.N.below hd1 hb0 (Nat.le_refl _)).below hb (Nat.le_refl _)) (And.intro ((Nt.N.below hn2 hb0 (Nat.le_refl _)).below hb (Nat.le_refl _)) ((Nt.N.below hd2 hb0 (Nat.le_refl _)).below hb (Nat.le_refl _)))))
  have HK := Lib.hid (fun (w' : World) (hb : Below W2.heap.size W2 w') => And.intro (Rt.cells3 ((hb.block w.heap.size (by omega)).trans q0)) (Rt.cells3 ((hb.block (w.heap.size + 1) (by omega)).trans q1)))
  have HR := Lib.hid (fun (w' : World) (hb : Below W2.heap.size W2 w') => (hb.block (w.heap.size + 2) (by omega)).trans q2)
  have HKX := Lib.hid (fun (w' w'' : World) (hb : Below W2.heap.size W2 w') (hx : ∀ q, q ≠ w.heap.size + 2 → w''.heap[q]? = w'.heap[q]?) => And.intro (Rt.cells3 ((hx w.heap.size (by omega)).trans ((hb.block w.heap.size (by omega)).trans q0))) (Rt.cells3 ((hx (w.heap.size + 1) (by omega)).trans ((hb.block (w.heap.size + 1) (by omega)).trans q1))))
  have HB := Lib.hid (fun (w' : World) (hb : Below W2.heap.size W2 w') => hb0.trans (hb.mono (by omega : w.heap.size ≤ W2.heap.size)))
  have hacc : Below W2.heap.size W2 W2.drew := Rt.belowD (Below.refl _ _)
  have hkeep := HK.out _ hacc
  clear q0 q1 q2 hb0 hn1 hd1 hn2 hd2 hsz
  go_enter Tryz.func123, Tryz.ntmps123
  go_wp2_with fail
  clear hW2
  go_region_held3 (fun w' => (w'.cell? ⟨w.heap.size, 0, none⟩ = some (.bool s1) ∧ w'.cell? ⟨w.heap.size, 1, none⟩ = some (.slice a1 l1 c1) ∧ w'.cell? ⟨w.heap.size, 2, none⟩ = some (.slice a2 l2 c2)) ∧ (w'.cell? ⟨w.heap.size + 1, 0, none⟩ = some (.bool s1) ∧ w'.cell? ⟨w.heap.size + 1, 1, none⟩ = some (.slice a3 l3 c3) ∧ w'.cell? ⟨w.heap.size + 1, 2, none⟩ = some (.slice a4 l4 c4)))
    (first | exact hkeep)
    (first
      | (go_at_call_of 167 (Value.slice a1 l1 c1)
         refine (KX _ _ _ (HI.out _ hacc).1 (HI.out _ hacc).2.2.2).mono ?_
         rintro x w5 ⟨v5, rfl, hv5, hb5⟩
         have hacc := Rt.belowT hacc hb5
         have hkeep := HK.out _ hacc)
      | (go_at_call_of 167 (Value.slice a3 l3 c3)
         refine (KY _ _ _ (HI.out _ hacc).2.2.1 (HI.out _ hacc).2.1).mono ?_
         rintro x w6 ⟨v6, rfl, hv6, hb6⟩
         have hv5 := Nt.N.below hv5 hb6 (Nat.le_refl _)
         have hacc := Rt.belowT hacc hb6
         have hkeep := HK.out _ hacc))
  all_goals
    clear hb5 hb6
    obtain ⟨ax, cx, rfl⟩ := Nt.In.slice hv5
    obtain ⟨ay, cy, rfl⟩ := Nt.In.slice hv6
    generalize (Nt.dig x).length = lx at *
    generalize (Nt.dig y).length = ly at *
    obtain ⟨⟨e0, e1, e2⟩, f0, f1, f2⟩ := hkeep
    have HV := Lib.hid (And.intro hv5 (And.intro hv6 hacc))
    clear hv5 hv6 hacc
    go_wp2_with fail
    refine (KB _ _ _ (HI.out _ HV.out.2.2).2.1 (HI.out _ HV.out.2.2).2.2.2).mono ?_
    rintro z w7 ⟨v7, rfl, hv7, hb7⟩
    have hacc := Rt.belowT HV.out.2.2 hb7
    obtain ⟨⟨e0, e1, e2⟩, f0, f1, f2⟩ := HK.out _ hacc
    have HV := Lib.hid (And.intro (HV.out.1.below hb7 (Nat.le_refl _)) (And.intro (HV.out.2.1.below hb7 (Nat.le_refl _)) (And.intro hv7 hacc)))
    obtain ⟨az, cz, rfl⟩ := Nt.In.slice hv7
    generalize (Nt.dig bb).length = lz at *
    clear hv7 hb7 hacc
    go_wp2_with fail
    have hacc := Rt.belowD HV.out.2.2.2
    have hkeep := HK.out _ hacc
    clear e0 e1 e2 f0 f1 f2
    have HVD := Lib.hid (And.intro (HV.out.1.below ((Below.refl _ _).drew) (Nat.le_refl _)) (And.intro (HV.out.2.1.below ((Below.refl _ _).drew) (Nat.le_refl _)) (HV.out.2.2.1.below ((Below.refl _ _).drew) (Nat.le_refl _))))
    go_region_held3 (fun w' => (w'.cell? ⟨w.heap.size, 0, none⟩ = some (.bool s1) ∧ w'.cell? ⟨w.heap.size, 1, none⟩ = some (.slice a1 l1 c1) ∧ w'.cell? ⟨w.heap.size, 2, none⟩ = some (.slice a2 l2 c2)) ∧ (w'.cell? ⟨w.heap.size + 1, 0, none⟩ = some (.bool s1) ∧ w'.cell? ⟨w.heap.size + 1, 1, none⟩ = some (.slice a3 l3 c3) ∧ w'.cell? ⟨w.heap.size + 1, 2, none⟩ = some (.slice a4 l4 c4)))
      (first | exact hkeep | exact hkeepX)
      (first
        | (go_at_call_of 168 (Value.slice ax lx cx)
           refine (KA _ _ _ HVD.out.1 HVD.out.2.1).mono ?_
           rintro x w8 ⟨v8, rfl, hv8, hb8⟩
           have hvz := HVD.out.2.2.below hb8 (Nat.le_refl _)
           have hacc := Rt.belowT hacc hb8
           have hkeep := HK.out _ hacc)
        | (go_at_call 84
           refine (KR _ _ _ hv8 hvz).mono ?_
           rintro x w9 ⟨v9, rfl, ⟨tv, bv, rfl, hn, hd⟩, hb9⟩
           obtain ⟨a5, c5, rfl⟩ := Nt.In.slice hn
           obtain ⟨a6, c6, rfl⟩ := Nt.In.slice hd
           have hacc := Rt.belowT hacc hb9
           have hkeep := HK.out _ hacc
           obtain ⟨X1, X2, X3, ⟨g0, z0, s0⟩, ⟨g1, z1, s1'⟩, ⟨g2, z2, s2'⟩, ⟨r0, r1, r2'⟩, HX⟩ := Rt.put3 (HR.out _ hacc) (.bool rs) (.slice a5 (Nt.dig rt).length c5) (.slice a6 (Nt.dig rb).length c6)
           have HOUT : Hid (Nt.N X3 (.slice a5 (Nt.dig rt).length c5) rt ∧ Nt.N X3 (.slice a6 (Nt.dig rb).length c6) rb ∧ Below w.heap.size w X3) := Lib.hid ⟨Nt.In.othr hn (HR.out _ hacc) Rt.noWords HX.out.2.2.1 HX.out.2.1, Nt.In.othr hd (HR.out _ hacc) Rt.noWords HX.out.2.2.1 HX.out.2.1, HX.out.2.2.2 _ _ (HB.out _ hacc) (by omega)⟩
           have hkeepX := HKX.out _ X3 hacc HX.out.2.2.1))
  all_goals
    clear hkeep hkeepX hacc hb8 hb9 hv8 hvz hn hd HX
    generalize (Nt.dig rt).length = l5 at *
    generalize (Nt.dig rb).length = l6 at *
    go_wp2_with fail
    refine bodyPost_ret (v := .agg #[.bool rs, .slice a5 l5 c5, .slice a6 l6 c6]) (by simp [results, Tryz.results123, go_sem, r0, r1, r2']) rfl ⟨_, rfl, ⟨_, _, rfl, HOUT.out.1, HOUT.out.2.1⟩, HOUT.out.2.2⟩

set_option maxHeartbeats 8000000 in
set_option maxRecDepth 1000000 in
theorem Rt.sum_ge (s1 s2 : Bool) (t1 b1 t2 b2 x y bb : Nat) (hx : t1 * b2 = x) (hy : t2 * b1 = y) (hbb : b1 * b2 = bb) (v v2 : Value) (w : World) (h : Rt.R w v s1 t1 b1) (h2 : Rt.R w v2 s2 t2 b2) (hb1 : 0 < b1) (hb2 : 0 < b2) (hl : (Nt.dig t1).length ≤ 400000 ∧ (Nt.dig b1).length ≤ 400000 ∧ (Nt.dig t2).length ≤ 400000 ∧ (Nt.dig b2).length ≤ 400000) (hlx : (Nt.dig x).length ≤ 400000) (hly : (Nt.dig y).length ≤ 400000) (hs : s1 ≠ s2) (hle : y ≤ x) (hok : Nt.Ok (x - y) bb) :
    Calls Tryz.prog 123 #[v, v2] w fun e w' => ∃ v', e = .returned v' ∧ Rt.R w' v' (Rt.ratS s1 (x - y) bb).1 (Rt.ratS s1 (x - y) bb).2.1 (Rt.ratS s1 (x - y) bb).2.2 ∧ Below w.heap.size w w' := by
  have hbpos : 0 < bb := hbb ▸ Nat.mul_pos hb1 hb2
  have KX := fun v v2 w h h2 => Nt.Times_any t1 b2 v v2 w h h2 hl.1 hl.2.2.2
  have KY := fun v v2 w h h2 => Nt.Times_any t2 b1 v v2 w h h2 hl.2.2.1 hl.2.1
  have KB := fun v v2 w h h2 => Nt.Times_any b1 b2 v v2 w h h2 hl.2.1 hl.2.2.2
  rw [hx] at KX
  rw [hy] at KY
  rw [hbb] at KB
  have KA := fun v v2 w h h2 => Nt.Less_any x y v v2 w h h2 hlx hle
  have KR := fun tv bv w h h2 => Rt.rat_any s1 (x - y) bb tv bv w h h2 hbpos hok
  have KO := fun v v2 w h h2 => Nt.Order_any x y v v2 w h h2 (by omega) (by omega)
  have hc0 : (0 : Int) ≤ Nt.cmp x y := by
    have := mt Nt.cmp_neg.1 (by omega : ¬ x < y)
    omega
  have hcd : decide ((0 : Int) ≤ Nt.cmp x y) = true := decide_eq_true hc0
  generalize Nt.cmp x y = cc at *
  have hne : (s1 == s2) = false := by cases s1 <;> cases s2 <;> simp_all
  have hned : decide (s1 = s2) = false := decide_eq_false hs
  generalize Rt.ratS s1 (x - y) bb = rr at *
  generalize hrv : x - y = res at *
  obtain ⟨rs, rt, rb⟩ := rr
  simp only at KR ⊢
  clear hrv hok hb1 hb2 hbpos hl hx hy hbb hlx hly hle hs
  obtain ⟨tv1, bv1, rfl, hn1, hd1⟩ := h
  obtain ⟨tv2, bv2, rfl, hn2, hd2⟩ := h2
  obtain ⟨a1, c1, rfl⟩ := Nt.In.slice hn1
  obtain ⟨a2, c2, rfl⟩ := Nt.In.slice hd1
  obtain ⟨a3, c3, rfl⟩ := Nt.In.slice hn2
  obtain ⟨a4, c4, rfl⟩ := Nt.In.slice hd2
  generalize (Nt.dig t1).length = l1 at *
  generalize (Nt.dig b1).length = l2 at *
  generalize (Nt.dig t2).length = l3 at *
  generalize (Nt.dig b2).length = l4 at *
  obtain ⟨W2, hW2, q0, q1, q2, hsz, hb0⟩ := Rt.three w (.cells #[.bool s1, .slice a1 l1 c1, .slice a2 l2 c2] 24) (.cells #[.bool s2, .slice a3 l3 c3, .slice a4 l4 c4] 24) (.cells #[.bool false, .slice none 0 0, .slice none 0 0] 24)
  have HI := Lib.hid (fun (w' : World) (hb : Below W2.heap.size W2 w') => And.intro ((Nt.N.below hn1 hb0 (Nat.le_refl _)).below hb (Nat.le_refl _)) (And.intro ((Nt.N.below hd1 hb0 (Nat.le_refl _)).below hb (Nat.le_refl _)) (And.intro ((Nt.N.below hn2 hb0 (Nat.le_refl _)).below hb (Nat.le_refl _)) ((Nt.N.below hd2 hb0 (Nat.le_refl _)).below hb (Nat.le_refl _)))))
  have HK := Lib.hid (fun (w' : World) (hb : Below W2.heap.size W2 w') => And.intro (Rt.cells3 ((hb.block w.heap.size (by omega)).trans q0)) (Rt.cells3 ((hb.block (w.heap.size + 1) (by omega)).trans q1)))
  have HR := Lib.hid (fun (w' : World) (hb : Below W2.heap.size W2 w') => (hb.block (w.heap.size + 2) (by omega)).trans q2)
  have HKX := Lib.hid (fun (w' w'' : World) (hb : Below W2.heap.size W2 w') (hx : ∀ q, q ≠ w.heap.size + 2 → w''.heap[q]? = w'.heap[q]?) => And.intro (Rt.cells3 ((hx w.heap.size (by omega)).trans ((hb.block w.heap.size (by omega)).trans q0))) (Rt.cells3 ((hx (w.heap.size + 1) (by omega)).trans ((hb.block (w.heap.size + 1) (by omega)).trans q1))))
  have HB := Lib.hid (fun (w' : World) (hb : Below W2.heap.size W2 w') => hb0.trans (hb.mono (by omega : w.heap.size ≤ W2.heap.size)))
  have hacc : Below W2.heap.size W2 W2.drew := Rt.belowD (Below.refl _ _)
  have hkeep := HK.out _ hacc
  clear q0 q1 q2 hb0 hn1 hd1 hn2 hd2 hsz
  go_enter Tryz.func123, Tryz.ntmps123
  go_wp2_with fail
  clear hW2
  go_region_held3 (fun w' => (w'.cell? ⟨w.heap.size, 0, none⟩ = some (.bool s1) ∧ w'.cell? ⟨w.heap.size, 1, none⟩ = some (.slice a1 l1 c1) ∧ w'.cell? ⟨w.heap.size, 2, none⟩ = some (.slice a2 l2 c2)) ∧ (w'.cell? ⟨w.heap.size + 1, 0, none⟩ = some (.bool s2) ∧ w'.cell? ⟨w.heap.size + 1, 1, none⟩ = some (.slice a3 l3 c3) ∧ w'.cell? ⟨w.heap.size + 1, 2, none⟩ = some (.slice a4 l4 c4)))
    (first | exact hkeep)
    (first
      | (go_at_call_of 167 (Value.slice a1 l1 c1)
         refine (KX _ _ _ (HI.out _ hacc).1 (HI.out _ hacc).2.2.2).mono ?_
         rintro x w5 ⟨v5, rfl, hv5, hb5⟩
         have hacc := Rt.belowT hacc hb5
         have hkeep := HK.out _ hacc)
      | (go_at_call_of 167 (Value.slice a3 l3 c3)
         refine (KY _ _ _ (HI.out _ hacc).2.2.1 (HI.out _ hacc).2.1).mono ?_
         rintro x w6 ⟨v6, rfl, hv6, hb6⟩
         have hv5 := Nt.N.below hv5 hb6 (Nat.le_refl _)
         have hacc := Rt.belowT hacc hb6
         have hkeep := HK.out _ hacc))
  all_goals
    clear hb5 hb6
    obtain ⟨ax, cx, rfl⟩ := Nt.In.slice hv5
    obtain ⟨ay, cy, rfl⟩ := Nt.In.slice hv6
    generalize (Nt.dig x).length = lx at *
    generalize (Nt.dig y).length = ly at *
    obtain ⟨⟨e0, e1, e2⟩, f0, f1, f2⟩ := hkeep
    have HV := Lib.hid (And.intro hv5 (And.intro hv6 hacc))
    clear hv5 hv6 hacc
    go_wp2_with fail
    refine (KB _ _ _ (HI.out _ HV.out.2.2).2.1 (HI.out _ HV.out.2.2).2.2.2).mono ?_
    rintro z w7 ⟨v7, rfl, hv7, hb7⟩
    have hacc := Rt.belowT HV.out.2.2 hb7
    obtain ⟨⟨e0, e1, e2⟩, f0, f1, f2⟩ := HK.out _ hacc
    have HV := Lib.hid (And.intro (HV.out.1.below hb7 (Nat.le_refl _)) (And.intro (HV.out.2.1.below hb7 (Nat.le_refl _)) (And.intro hv7 hacc)))
    obtain ⟨az, cz, rfl⟩ := Nt.In.slice hv7
    generalize (Nt.dig bb).length = lz at *
    clear hv7 hb7 hacc
    go_wp2_with fail
    refine (KO _ _ _ HV.out.1 HV.out.2.1).mono ?_
    rintro z w8 ⟨rfl, hb8⟩
    have hacc := Rt.belowT HV.out.2.2.2 hb8
    obtain ⟨⟨e0, e1, e2⟩, f0, f1, f2⟩ := HK.out _ hacc
    have HV := Lib.hid (And.intro (HV.out.1.below hb8 (Nat.le_refl _)) (And.intro (HV.out.2.1.below hb8 (Nat.le_refl _)) (And.intro (HV.out.2.2.1.below hb8 (Nat.le_refl _)) hacc)))
    clear hb8 hacc
    go_wp2_with fail
    have hacc := Rt.belowD HV.out.2.2.2
    have hkeep := HK.out _ hacc
    clear e0 e1 e2 f0 f1 f2
    have HVD := Lib.hid (And.intro (HV.out.1.below ((Below.refl _ _).drew) (Nat.le_refl _)) (And.intro (HV.out.2.1.below ((Below.refl _ _).drew) (Nat.le_refl _)) (HV.out.2.2.1.below ((Below.refl _ _).drew) (Nat.le_refl _))))
    go_region_held3 (fun w' => (w'.cell? ⟨w.heap.size, 0, none⟩ = some (.bool s1) ∧ w'.cell? ⟨w.heap.size, 1, none⟩ = some (.slice a1 l1 c1) ∧ w'.cell? ⟨w.heap.size, 2, none⟩ = some (.slice a2 l2 c2)) ∧ (w'.cell? ⟨w.heap.size + 1, 0, none⟩ = some (.bool s2) ∧ w'.cell? ⟨w.heap.size + 1, 1, none⟩ = some (.slice a3 l3 c3) ∧ w'.cell? ⟨w.heap.size + 1, 2, none⟩ = some (.slice a4 l4 c4)))
      (first | exact hkeep | exact hkeepX)
      (first
        | (go_at_call_of 170 (Value.slice ax lx cx)
           refine (KA _ _ _ HVD.out.1 HVD.out.2.1).mono ?_
           rintro x w8 ⟨v8, rfl, hv8, hb8⟩
           have hvz := HVD.out.2.2.below hb8 (Nat.le_refl _)
           have hacc := Rt.belowT hacc hb8
           have hkeep := HK.out _ hacc)
        | (go_at_call 84
           refine (KR _ _ _ hv8 hvz).mono ?_
           rintro x w9 ⟨v9, rfl, ⟨tv, bv, rfl, hn, hd⟩, hb9⟩
           obtain ⟨a5, c5, rfl⟩ := Nt.In.slice hn
           obtain ⟨a6, c6, rfl⟩ := Nt.In.slice hd
           have hacc := Rt.belowT hacc hb9
           have hkeep := HK.out _ hacc
           obtain ⟨X1, X2, X3, ⟨g0, z0, s0⟩, ⟨g1, z1, s1'⟩, ⟨g2, z2, s2'⟩, ⟨r0, r1, r2'⟩, HX⟩ := Rt.put3 (HR.out _ hacc) (.bool rs) (.slice a5 (Nt.dig rt).length c5) (.slice a6 (Nt.dig rb).length c6)
           have HOUT : Hid (Nt.N X3 (.slice a5 (Nt.dig rt).length c5) rt ∧ Nt.N X3 (.slice a6 (Nt.dig rb).length c6) rb ∧ Below w.heap.size w X3) := Lib.hid ⟨Nt.In.othr hn (HR.out _ hacc) Rt.noWords HX.out.2.2.1 HX.out.2.1, Nt.In.othr hd (HR.out _ hacc) Rt.noWords HX.out.2.2.1 HX.out.2.1, HX.out.2.2.2 _ _ (HB.out _ hacc) (by omega)⟩
           have hkeepX := HKX.out _ X3 hacc HX.out.2.2.1))
  all_goals
    clear hkeep hkeepX hacc hb8 hb9 hv8 hvz hn hd HX
    generalize (Nt.dig rt).length = l5 at *
    generalize (Nt.dig rb).length = l6 at *
    go_wp2_with fail
    refine bodyPost_ret (v := .agg #[.bool rs, .slice a5 l5 c5, .slice a6 l6 c6]) (by simp [results, Tryz.results123, go_sem, r0, r1, r2']) rfl ⟨_, rfl, ⟨_, _, rfl, HOUT.out.1, HOUT.out.2.1⟩, HOUT.out.2.2⟩

set_option maxHeartbeats 8000000 in
set_option maxRecDepth 1000000 in
theorem Rt.sum_lt (s1 s2 : Bool) (t1 b1 t2 b2 x y bb : Nat) (hx : t1 * b2 = x) (hy : t2 * b1 = y) (hbb : b1 * b2 = bb) (v v2 : Value) (w : World) (h : Rt.R w v s1 t1 b1) (h2 : Rt.R w v2 s2 t2 b2) (hb1 : 0 < b1) (hb2 : 0 < b2) (hl : (Nt.dig t1).length ≤ 400000 ∧ (Nt.dig b1).length ≤ 400000 ∧ (Nt.dig t2).length ≤ 400000 ∧ (Nt.dig b2).length ≤ 400000) (hlx : (Nt.dig x).length ≤ 400000) (hly : (Nt.dig y).length ≤ 400000) (hs : s1 ≠ s2) (hle : x < y) (hok : Nt.Ok (y - x) bb) :
    Calls Tryz.prog 123 #[v, v2] w fun e w' => ∃ v', e = .returned v' ∧ Rt.R w' v' (Rt.ratS s2 (y - x) bb).1 (Rt.ratS s2 (y - x) bb).2.1 (Rt.ratS s2 (y - x) bb).2.2 ∧ Below w.heap.size w w' := by
  have hbpos : 0 < bb := hbb ▸ Nat.mul_pos hb1 hb2
  have KX := fun v v2 w h h2 => Nt.Times_any t1 b2 v v2 w h h2 hl.1 hl.2.2.2
  have KY := fun v v2 w h h2 => Nt.Times_any t2 b1 v v2 w h h2 hl.2.2.1 hl.2.1
  have KB := fun v v2 w h h2 => Nt.Times_any b1 b2 v v2 w h h2 hl.2.1 hl.2.2.2
  rw [hx] at KX
  rw [hy] at KY
  rw [hbb] at KB
  have KA := fun v v2 w h h2 => Nt.Less_any y x v v2 w h h2 hly (Nat.le_of_lt hle)
  have KR := fun tv bv w h h2 => Rt.rat_any s2 (y - x) bb tv bv w h h2 hbpos hok
  have KO := fun v v2 w h h2 => Nt.Order_any x y v v2 w h h2 (by omega) (by omega)
  have hc0 : ¬ (0 : Int) ≤ Nt.cmp x y := by
    have := Nt.cmp_neg.2 hle
    omega
  have hcd : decide ((0 : Int) ≤ Nt.cmp x y) = false := decide_eq_false hc0
  generalize Nt.cmp x y = cc at *
  have hne : (s1 == s2) = false := by cases s1 <;> cases s2 <;> simp_all
  have hned : decide (s1 = s2) = false := decide_eq_false hs
  generalize Rt.ratS s2 (y - x) bb = rr at *
  generalize hrv : y - x = res at *
  obtain ⟨rs, rt, rb⟩ := rr
  simp only at KR ⊢
  clear hrv hok hb1 hb2 hbpos hl hx hy hbb hlx hly hle hs
  obtain ⟨tv1, bv1, rfl, hn1, hd1⟩ := h
  obtain ⟨tv2, bv2, rfl, hn2, hd2⟩ := h2
  obtain ⟨a1, c1, rfl⟩ := Nt.In.slice hn1
  obtain ⟨a2, c2, rfl⟩ := Nt.In.slice hd1
  obtain ⟨a3, c3, rfl⟩ := Nt.In.slice hn2
  obtain ⟨a4, c4, rfl⟩ := Nt.In.slice hd2
  generalize (Nt.dig t1).length = l1 at *
  generalize (Nt.dig b1).length = l2 at *
  generalize (Nt.dig t2).length = l3 at *
  generalize (Nt.dig b2).length = l4 at *
  obtain ⟨W2, hW2, q0, q1, q2, hsz, hb0⟩ := Rt.three w (.cells #[.bool s1, .slice a1 l1 c1, .slice a2 l2 c2] 24) (.cells #[.bool s2, .slice a3 l3 c3, .slice a4 l4 c4] 24) (.cells #[.bool false, .slice none 0 0, .slice none 0 0] 24)
  have HI := Lib.hid (fun (w' : World) (hb : Below W2.heap.size W2 w') => And.intro ((Nt.N.below hn1 hb0 (Nat.le_refl _)).below hb (Nat.le_refl _)) (And.intro ((Nt.N.below hd1 hb0 (Nat.le_refl _)).below hb (Nat.le_refl _)) (And.intro ((Nt.N.below hn2 hb0 (Nat.le_refl _)).below hb (Nat.le_refl _)) ((Nt.N.below hd2 hb0 (Nat.le_refl _)).below hb (Nat.le_refl _)))))
  have HK := Lib.hid (fun (w' : World) (hb : Below W2.heap.size W2 w') => And.intro (Rt.cells3 ((hb.block w.heap.size (by omega)).trans q0)) (Rt.cells3 ((hb.block (w.heap.size + 1) (by omega)).trans q1)))
  have HR := Lib.hid (fun (w' : World) (hb : Below W2.heap.size W2 w') => (hb.block (w.heap.size + 2) (by omega)).trans q2)
  have HKX := Lib.hid (fun (w' w'' : World) (hb : Below W2.heap.size W2 w') (hx : ∀ q, q ≠ w.heap.size + 2 → w''.heap[q]? = w'.heap[q]?) => And.intro (Rt.cells3 ((hx w.heap.size (by omega)).trans ((hb.block w.heap.size (by omega)).trans q0))) (Rt.cells3 ((hx (w.heap.size + 1) (by omega)).trans ((hb.block (w.heap.size + 1) (by omega)).trans q1))))
  have HB := Lib.hid (fun (w' : World) (hb : Below W2.heap.size W2 w') => hb0.trans (hb.mono (by omega : w.heap.size ≤ W2.heap.size)))
  have hacc : Below W2.heap.size W2 W2.drew := Rt.belowD (Below.refl _ _)
  have hkeep := HK.out _ hacc
  clear q0 q1 q2 hb0 hn1 hd1 hn2 hd2 hsz
  go_enter Tryz.func123, Tryz.ntmps123
  go_wp2_with fail
  clear hW2
  go_region_held3 (fun w' => (w'.cell? ⟨w.heap.size, 0, none⟩ = some (.bool s1) ∧ w'.cell? ⟨w.heap.size, 1, none⟩ = some (.slice a1 l1 c1) ∧ w'.cell? ⟨w.heap.size, 2, none⟩ = some (.slice a2 l2 c2)) ∧ (w'.cell? ⟨w.heap.size + 1, 0, none⟩ = some (.bool s2) ∧ w'.cell? ⟨w.heap.size + 1, 1, none⟩ = some (.slice a3 l3 c3) ∧ w'.cell? ⟨w.heap.size + 1, 2, none⟩ = some (.slice a4 l4 c4)))
    (first | exact hkeep)
    (first
      | (go_at_call_of 167 (Value.slice a1 l1 c1)
         refine (KX _ _ _ (HI.out _ hacc).1 (HI.out _ hacc).2.2.2).mono ?_
         rintro x w5 ⟨v5, rfl, hv5, hb5⟩
         have hacc := Rt.belowT hacc hb5
         have hkeep := HK.out _ hacc)
      | (go_at_call_of 167 (Value.slice a3 l3 c3)
         refine (KY _ _ _ (HI.out _ hacc).2.2.1 (HI.out _ hacc).2.1).mono ?_
         rintro x w6 ⟨v6, rfl, hv6, hb6⟩
         have hv5 := Nt.N.below hv5 hb6 (Nat.le_refl _)
         have hacc := Rt.belowT hacc hb6
         have hkeep := HK.out _ hacc))
  all_goals
    clear hb5 hb6
    obtain ⟨ax, cx, rfl⟩ := Nt.In.slice hv5
    obtain ⟨ay, cy, rfl⟩ := Nt.In.slice hv6
    generalize (Nt.dig x).length = lx at *
    generalize (Nt.dig y).length = ly at *
    obtain ⟨⟨e0, e1, e2⟩, f0, f1, f2⟩ := hkeep
    have HV := Lib.hid (And.intro hv5 (And.intro hv6 hacc))
    clear hv5 hv6 hacc
    go_wp2_with fail
    refine (KB _ _ _ (HI.out _ HV.out.2.2).2.1 (HI.out _ HV.out.2.2).2.2.2).mono ?_
    rintro z w7 ⟨v7, rfl, hv7, hb7⟩
    have hacc := Rt.belowT HV.out.2.2 hb7
    obtain ⟨⟨e0, e1, e2⟩, f0, f1, f2⟩ := HK.out _ hacc
    have HV := Lib.hid (And.intro (HV.out.1.below hb7 (Nat.le_refl _)) (And.intro (HV.out.2.1.below hb7 (Nat.le_refl _)) (And.intro hv7 hacc)))
    obtain ⟨az, cz, rfl⟩ := Nt.In.slice hv7
    generalize (Nt.dig bb).length = lz at *
    clear hv7 hb7 hacc
    go_wp2_with fail
    refine (KO _ _ _ HV.out.1 HV.out.2.1).mono ?_
    rintro z w8 ⟨rfl, hb8⟩
    have hacc := Rt.belowT HV.out.2.2.2 hb8
    obtain ⟨⟨e0, e1, e2⟩, f0, f1, f2⟩ := HK.out _ hacc
    have HV := Lib.hid (And.intro (HV.out.1.below hb8 (Nat.le_refl _)) (And.intro (HV.out.2.1.below hb8 (Nat.le_refl _)) (And.intro (HV.out.2.2.1.below hb8 (Nat.le_refl _)) hacc)))
    clear hb8 hacc
    go_wp2_with fail
    have hacc := Rt.belowD HV.out.2.2.2
    have hkeep := HK.out _ hacc
    clear e0 e1 e2 f0 f1 f2
    have HVD := Lib.hid (And.intro (HV.out.1.below ((Below.refl _ _).drew) (Nat.le_refl _)) (And.intro (HV.out.2.1.below ((Below.refl _ _).drew) (Nat.le_refl _)) (HV.out.2.2.1.below ((Below.refl _ _).drew) (Nat.le_refl _))))
    go_region_held3 (fun w' => (w'.cell? ⟨w.heap.size, 0, none⟩ = some (.bool s1) ∧ w'.cell? ⟨w.heap.size, 1, none⟩ = some (.slice a1 l1 c1) ∧ w'.cell? ⟨w.heap.size, 2, none⟩ = some (.slice a2 l2 c2)) ∧ (w'.cell? ⟨w.heap.size + 1, 0, none⟩ = some (.bool s2) ∧ w'.cell? ⟨w.heap.size + 1, 1, none⟩ = some (.slice a3 l3 c3) ∧ w'.cell? ⟨w.heap.size + 1, 2, none⟩ = some (.slice a4 l4 c4)))
      (first | exact hkeep | exact hkeepX)
      (first
        | (go_at_call_of 170 (Value.slice ay ly cy)
           refine (KA _ _ _ HVD.out.2.1 HVD.out.1).mono ?_
           rintro x w8 ⟨v8, rfl, hv8, hb8⟩
           have hvz := HVD.out.2.2.below hb8 (Nat.le_refl _)
           have hacc := Rt.belowT hacc hb8
           have hkeep := HK.out _ hacc)
        | (go_at_call 84
           refine (KR _ _ _ hv8 hvz).mono ?_
           rintro x w9 ⟨v9, rfl, ⟨tv, bv, rfl, hn, hd⟩, hb9⟩
           obtain ⟨a5, c5, rfl⟩ := Nt.In.slice hn
           obtain ⟨a6, c6, rfl⟩ := Nt.In.slice hd
           have hacc := Rt.belowT hacc hb9
           have hkeep := HK.out _ hacc
           obtain ⟨X1, X2, X3, ⟨g0, z0, s0⟩, ⟨g1, z1, s1'⟩, ⟨g2, z2, s2'⟩, ⟨r0, r1, r2'⟩, HX⟩ := Rt.put3 (HR.out _ hacc) (.bool rs) (.slice a5 (Nt.dig rt).length c5) (.slice a6 (Nt.dig rb).length c6)
           have HOUT : Hid (Nt.N X3 (.slice a5 (Nt.dig rt).length c5) rt ∧ Nt.N X3 (.slice a6 (Nt.dig rb).length c6) rb ∧ Below w.heap.size w X3) := Lib.hid ⟨Nt.In.othr hn (HR.out _ hacc) Rt.noWords HX.out.2.2.1 HX.out.2.1, Nt.In.othr hd (HR.out _ hacc) Rt.noWords HX.out.2.2.1 HX.out.2.1, HX.out.2.2.2 _ _ (HB.out _ hacc) (by omega)⟩
           have hkeepX := HKX.out _ X3 hacc HX.out.2.2.1))
  all_goals
    clear hkeep hkeepX hacc hb8 hb9 hv8 hvz hn hd HX
    generalize (Nt.dig rt).length = l5 at *
    generalize (Nt.dig rb).length = l6 at *
    go_wp2_with fail
    refine bodyPost_ret (v := .agg #[.bool rs, .slice a5 l5 c5, .slice a6 l6 c6]) (by simp [results, Tryz.results123, go_sem, r0, r1, r2']) rfl ⟨_, rfl, ⟨_, _, rfl, HOUT.out.1, HOUT.out.2.1⟩, HOUT.out.2.2⟩

theorem Rt.sum_any (s1 s2 : Bool) (t1 b1 t2 b2 : Nat) (v v2 : Value) (w : World) (h : Rt.R w v s1 t1 b1) (h2 : Rt.R w v2 s2 t2 b2) (hb1 : 0 < b1) (hb2 : 0 < b2) (hl : (Nt.dig t1).length ≤ 400000 ∧ (Nt.dig b1).length ≤ 400000 ∧ (Nt.dig t2).length ≤ 400000 ∧ (Nt.dig b2).length ≤ 400000) (hok : Nt.Ok (t1 * b2 + t2 * b1) (b1 * b2)) :
    Calls Tryz.prog 123 #[v, v2] w fun e w' => ∃ v', e = .returned v' ∧ Rt.R w' v' (Rt.sumS s1 t1 b1 s2 t2 b2).1 (Rt.sumS s1 t1 b1 s2 t2 b2).2.1 (Rt.sumS s1 t1 b1 s2 t2 b2).2.2 ∧ Below w.heap.size w w' := by
  have hx := Nat.le_trans (Nt.dig_len_mono (Nat.le_add_right (t1 * b2) (t2 * b1))) hok.2
  have hy := Nat.le_trans (Nt.dig_len_mono (Nat.le_add_left (t2 * b1) (t1 * b2))) hok.2
  by_cases hs : s1 = s2
  · have := Rt.sum_eq s1 s2 t1 b1 t2 b2 _ _ _ rfl rfl rfl v v2 w h h2 hb1 hb2 hl hx hy hs hok
    unfold Rt.sumS
    rwa [if_pos hs]
  · by_cases hle : t2 * b1 ≤ t1 * b2
    · have := Rt.sum_ge s1 s2 t1 b1 t2 b2 _ _ _ rfl rfl rfl v v2 w h h2 hb1 hb2 hl hx hy hs hle ⟨hok.1, Nat.le_trans (Nt.dig_len_mono (by omega)) hok.2⟩
      unfold Rt.sumS
      rwa [if_neg hs, if_pos hle]
    · have := Rt.sum_lt s1 s2 t1 b1 t2 b2 _ _ _ rfl rfl rfl v v2 w h h2 hb1 hb2 hl hx hy hs (by omega) ⟨hok.1, Nat.le_trans (Nt.dig_len_mono (by omega)) hok.2⟩
      unfold Rt.sumS
      rwa [if_neg hs, if_neg hle]
end Go.Proofs.YtikmebkfdpbidaaGreatDoor
