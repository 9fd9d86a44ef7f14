/-
  exact.DivMod of a whole number by a whole number above 0: the walk.
-/
import Derived.Deep.DeepCutAuto
import Derived.Deep.RegionHeld3
import Derived.Test.YtikmebkfdpbidaaGreatDoorTh
import Derived.Test.YtikmebkfdpbidaaGreatDoorTf
namespace Go.Proofs.YtikmebkfdpbidaaGreatDoor
open Go.RowKit
set_option linter.unusedVariables false
set_option linter.unusedSimpArgs false

def Tx.zN : Array Value := #[.bool false, .slice none 0 0, .slice none 0 0, .bool false, .slice none 0 0, .slice none 0 0]
/-- Four blocks, one behind the other. -/
theorem Tx.four (w : World) (o o2 o3 o4 : Obj) : ∃ W4, (((w.alloc o).alloc o2).alloc o3).alloc o4 = W4 ∧ W4.heap[w.heap.size]? = some o ∧ W4.heap[w.heap.size + 1]? = some o2 ∧ W4.heap[w.heap.size + 2]? = some o3 ∧ W4.heap[w.heap.size + 3]? = some o4 ∧ W4.heap.size = w.heap.size + 4 ∧ Below w.heap.size w W4 := by
  obtain ⟨W3, h3, q0, q1, q2, hs, hb⟩ := Rt.three w o o2 o3
  refine ⟨W3.alloc o4, by rw [h3], ?_, ?_, ?_, ?_, by simp [hs], hb.alloc hb.size _⟩
  · exact (Lib.alloc_old _ _ _ (by omega)).trans q0
  · exact (Lib.alloc_old _ _ _ (by omega)).trans q1
  · exact (Lib.alloc_old _ _ _ (by omega)).trans q2
  · have := heap_alloc_new W3 o4
    rwa [hs] at this
/-- A cell that is stored as it was. -/
theorem Tx.put_same {w : World} {b : Nat} {C : Array Value} {t : TypeId} (h : w.heap[b]? = some (.cells C t (0, 0))) (k : Nat) (u : Value) (hk : C[k]? = some u) : w.setCell ⟨b, k, none⟩ u = w := by
  have h1 := Rt.setCells h k u
  obtain ⟨hlt, he⟩ := Array.getElem?_eq_some_iff.1 hk
  have e : C.set! k u = C := by
    rw [Array.set!_eq_setIfInBounds]
    apply Array.ext_getElem?
    intro i
    rw [Array.getElem?_setIfInBounds]
    by_cases hi : k = i
    · subst hi
      rw [if_pos rfl, if_pos hlt, hk]
    · rw [if_neg hi]
  rw [e] at h1
  have hh : (w.setCell ⟨b, k, none⟩ u).heap = w.heap := by
    apply Array.ext_getElem?
    intro q
    by_cases hq : q = b
    · subst hq
      rw [h1, h]
    · exact Below.heap_setCell w ⟨b, k, none⟩ u q hq
  show { w with heap := (w.setCell ⟨b, k, none⟩ u).heap } = w
  rw [hh]
/-- Six cells that are stored as they were. -/
theorem Tx.same6 {w : World} {b : Nat} {v0 v1 v2 v3 v4 v5 : Value} {t : TypeId} (h : w.heap[b]? = some (.cells #[v0, v1, v2, v3, v4, v5] t (0, 0))) :
    (w.setCell ⟨b, 0, none⟩ v0 = w ∧ w.setCell ⟨b, 1, none⟩ v1 = w ∧ w.setCell ⟨b, 2, none⟩ v2 = w ∧ w.setCell ⟨b, 3, none⟩ v3 = w ∧ w.setCell ⟨b, 4, none⟩ v4 = w ∧ w.setCell ⟨b, 5, none⟩ v5 = w) ∧
    (w.frozen? ⟨b, 0, none⟩ = false ∧ w.frozen? ⟨b, 1, none⟩ = false ∧ w.frozen? ⟨b, 2, none⟩ = false ∧ w.frozen? ⟨b, 3, none⟩ = false ∧ w.frozen? ⟨b, 4, none⟩ = false ∧ w.frozen? ⟨b, 5, none⟩ = false) :=
  ⟨⟨Tx.put_same h 0 _ rfl, Tx.put_same h 1 _ rfl, Tx.put_same h 2 _ rfl, Tx.put_same h 3 _ rfl, Tx.put_same h 4 _ rfl, Tx.put_same h 5 _ rfl⟩, Rt.frozen_of h 0, Rt.frozen_of h 1, Rt.frozen_of h 2, Rt.frozen_of h 3, Rt.frozen_of h 4, Rt.frozen_of h 5⟩
def Tx.zR : Array Value := #[.bool false, .slice none 0 0, .slice none 0 0]
/-- A fraction is stored into a block that has been made behind X. -/
theorem Tx.pack {X y : World} {G : Nat} (hb : Below X.heap.size X y) (hG : y.heap[G]? = some (.cells #[.bool false, .slice none 0 0, .slice none 0 0] 24 (0, 0))) (hGX : X.heap.size ≤ G) {sR : Bool} {p1 p2 : Option Addr} {P1 P2 h1 h2 tR bR : Nat} (hn : Nt.N y (.slice p1 P1 h1) tR) (hd : Nt.N y (.slice p2 P2 h2) bR) :
    ∃ X1 X2 X3 : World,
    (y.cell? ⟨G, 0, none⟩ = some (.bool false) ∧ y.frozen? ⟨G, 0, none⟩ = false ∧ y.setCell ⟨G, 0, none⟩ (.bool sR) = X1) ∧
    (X1.cell? ⟨G, 1, none⟩ = some (.slice none 0 0) ∧ X1.frozen? ⟨G, 1, none⟩ = false ∧ X1.setCell ⟨G, 1, none⟩ (.slice p1 P1 h1) = X2) ∧
    (X2.cell? ⟨G, 2, none⟩ = some (.slice none 0 0) ∧ X2.frozen? ⟨G, 2, none⟩ = false ∧ X2.setCell ⟨G, 2, none⟩ (.slice p2 P2 h2) = X3) ∧
    Hid ((∀ q, q < X.heap.size → X3.heap[q]? = X.heap[q]?) ∧ X3.heap[G]? = some (.cells #[.bool sR, .slice p1 P1 h1, .slice p2 P2 h2] 24 (0, 0)) ∧ Nt.N X3 (.slice p1 P1 h1) tR ∧ Nt.N X3 (.slice p2 P2 h2) bR ∧ (∀ (B : Nat) (w0 : World), Below B w0 X → B ≤ X.heap.size → Below B w0 X3) ∧ (∀ v n, Nt.N X v n → Nt.N X3 v n)) := by
  obtain ⟨X1, X2, X3, f0, f1, f2, _, HX⟩ := Rt.put3 hG (.bool sR) (.slice p1 P1 h1) (.slice p2 P2 h2)
  refine ⟨X1, X2, X3, f0, f1, f2, Lib.hid ⟨fun q hq => (HX.out.2.2.1 q (by omega)).trans (hb.block q hq), HX.out.1, Nt.In.othr hn hG Rt.noWords HX.out.2.2.1 HX.out.2.1, Nt.In.othr hd hG Rt.noWords HX.out.2.2.1 HX.out.2.1, fun B w0 hB hle => HX.out.2.2.2 _ _ (hB.trans (hb.mono hle)) (by omega), fun v n h => Nt.In.othr (Nt.In.below h hb (Nat.le_refl _)) hG Rt.noWords HX.out.2.2.1 HX.out.2.1⟩⟩
set_option maxHeartbeats 4000000 in
set_option maxRecDepth 1000000 in
theorem Tx.DivMod_at (s si sj sP sF sM sN sR : Bool) (t d bi bj tP bP F tM bM tN bN tR bR : Nat) (v v2 : Value) (w : World) (h : Rt.Q w v s t 1 si 0 bi) (h2 : Rt.Q w v2 false d 1 sj 0 bj) (K1 : Rt.SoundAt w v) (K2 : Rt.SoundAt w v2) (hd : 0 < d)
    (KP : ∀ v v2 w, Rt.R w v s t 1 → Rt.R w v2 false 1 d → Calls Tryz.prog 121 #[v, v2] w fun e w' => ∃ v', e = .returned v' ∧ Rt.R w' v' sP tP bP ∧ Below w.heap.size w w')
    (KF : ∀ v w, Rt.R w v sP tP bP → Calls Tryz.prog 122 #[v] w fun e w' => ∃ v', e = .returned v' ∧ Rt.R w' v' sF F 1 ∧ Below w.heap.size w w')
    (KM : ∀ v v2 w, Rt.R w v sF F 1 → Rt.R w v2 false d 1 → Calls Tryz.prog 121 #[v, v2] w fun e w' => ∃ v', e = .returned v' ∧ Rt.R w' v' sM tM bM ∧ Below w.heap.size w w')
    (KN : ∀ v w, Rt.R w v sM tM bM → Calls Tryz.prog 124 #[v] w fun e w' => ∃ v', e = .returned v' ∧ Rt.R w' v' sN tN bN ∧ Below w.heap.size w w')
    (KS : ∀ v v2 w, Rt.R w v s t 1 → Rt.R w v2 sN tN bN → Calls Tryz.prog 123 #[v, v2] w fun e w' => ∃ v', e = .returned v' ∧ Rt.R w' v' sR tR bR ∧ Below w.heap.size w w')
    (KW : ∀ w, Calls Tryz.prog 50 #[.bool false, .slice none 0 0] w fun e w' => ∃ v', e = .returned v' ∧ Rt.R w' v' false 0 1 ∧ Below w.heap.size w w')
    (KQ : ∀ v v2 w, Rt.R w v sF F 1 → Rt.R w v2 false 0 1 → Calls Tryz.prog 125 #[v, v2] w fun e w' => ∃ v', e = .returned (.tuple #[v', .int .i64 0]) ∧ Rt.Q w' v' sF F 1 false 0 1 ∧ Below w.heap.size w w')
    (KT : ∀ v v2 w, Rt.R w v sR tR bR → Rt.R w v2 false 0 1 → Calls Tryz.prog 125 #[v, v2] w fun e w' => ∃ v', e = .returned (.tuple #[v', .int .i64 0]) ∧ Rt.Q w' v' sR tR bR false 0 1 ∧ Below w.heap.size w w') :
    Calls Tryz.prog 77 #[v, v2] w fun e w' => ∃ q r, e = .returned (.tuple #[q, r, .int .i64 0]) ∧ Rt.Q w' q sF F 1 false 0 1 ∧ Rt.Q w' r sR tR bR false 0 1 ∧ Below w.heap.size w w' := by
  obtain ⟨tv, bv, tv2, bv2, rfl, h1, hb1, h3, h4⟩ := h
  obtain ⟨a3, c3, rfl⟩ := Tx.N_zero h3
  obtain ⟨L1, a1, c1, rfl, hL1⟩ := Tx.N_slice h1
  obtain ⟨L2, a2, c2, rfl, hL2⟩ := Tx.N_slice hb1
  obtain ⟨L4, a4, c4, rfl, hL4⟩ := Tx.N_slice h4
  obtain ⟨tv3, bv3, tv4, bv4, rfl, g1, gb1, g3, g4⟩ := h2
  obtain ⟨a7, c7, rfl⟩ := Tx.N_zero g3
  obtain ⟨L5, a5, c5, rfl, hL5⟩ := Tx.N_slice g1
  obtain ⟨L6, a6, c6, rfl, hL6⟩ := Tx.N_slice gb1
  obtain ⟨L8, a8, c8, rfl, hL8⟩ := Tx.N_slice g4
  have hL5p : 0 < L5 := by rw [hL5]; exact Nt.dig_len_pos.2 hd
  obtain ⟨W4, hW4, q0, q1, q2, q3, hz4, hb4⟩ := Tx.four w (.cells #[.bool s, .slice a1 L1 c1, .slice a2 L2 c2, .bool si, .slice a3 0 c3, .slice a4 L4 c4] 26) (.cells #[.bool false, .slice a5 L5 c5, .slice a6 L6 c6, .bool sj, .slice a7 0 c7, .slice a8 L8 c8] 26) (.cells Tx.zN 26) (.cells Tx.zN 26)
  obtain ⟨W5, hW5⟩ : ∃ z, W4.alloc (.cells #[.bool s, .slice a1 L1 c1, .slice a2 L2 c2, .bool si, .slice a3 0 c3, .slice a4 L4 c4, .bool false, .slice a5 L5 c5, .slice a6 L6 c6, .bool sj, .slice a7 0 c7, .slice a8 L8 c8] 26) = z := ⟨_, rfl⟩
  have hb45 : Below W4.heap.size W4 W5 := by rw [← hW5]; exact (Below.refl _ _).alloc (Nat.le_refl _) _
  have hq5 : W5.heap[W4.heap.size]? = some (.cells #[.bool s, .slice a1 L1 c1, .slice a2 L2 c2, .bool si, .slice a3 0 c3, .slice a4 L4 c4, .bool false, .slice a5 L5 c5, .slice a6 L6 c6, .bool sj, .slice a7 0 c7, .slice a8 L8 c8] 26 (0, 0)) := by rw [← hW5]; exact heap_alloc_new W4 _
  have hb5 : Below w.heap.size w W5 := hb4.trans (hb45.mono hb4.size)
  have KC := Tx.chk2 _ _ _ _ _ _ _ _ _ _ _ _ _ _ _ _ _ _ _ _ _ _ _ _ _ _ _ W5 hq5 (fun w' hb => K1 w' (hb5.trans (hb.mono hb5.size))) (fun w' hb => K2 w' (hb5.trans (hb.mono hb5.size)))
  /- The two arguments' cells, wherever only blocks behind them have been written. -/
  have HK : Hid (∀ w' : World, (∀ q, q < w.heap.size + 2 → w'.heap[q]? = W4.heap[q]?) → (w'.cell? ⟨w.heap.size, 0, none⟩ = some (.bool s) ∧ w'.cell? ⟨w.heap.size, 1, none⟩ = some (.slice a1 L1 c1) ∧ w'.cell? ⟨w.heap.size, 2, none⟩ = some (.slice a2 L2 c2) ∧ w'.cell? ⟨w.heap.size, 3, none⟩ = some (.bool si) ∧ w'.cell? ⟨w.heap.size, 4, none⟩ = some (.slice a3 0 c3) ∧ w'.cell? ⟨w.heap.size, 5, none⟩ = some (.slice a4 L4 c4)) ∧ (w'.cell? ⟨w.heap.size + 1, 0, none⟩ = some (.bool false) ∧ w'.cell? ⟨w.heap.size + 1, 1, none⟩ = some (.slice a5 L5 c5) ∧ w'.cell? ⟨w.heap.size + 1, 2, none⟩ = some (.slice a6 L6 c6) ∧ w'.cell? ⟨w.heap.size + 1, 3, none⟩ = some (.bool sj) ∧ w'.cell? ⟨w.heap.size + 1, 4, none⟩ = some (.slice a7 0 c7) ∧ w'.cell? ⟨w.heap.size + 1, 5, none⟩ = some (.slice a8 L8 c8))) := Lib.hid (fun w' hq => ⟨Rt.cells6 ((hq w.heap.size (by omega)).trans q0), Rt.cells6 ((hq (w.heap.size + 1) (by omega)).trans q1)⟩)
  have HI : Hid (∀ w' : World, Below w.heap.size w w' → Rt.R w' (.agg #[.bool s, .slice a1 L1 c1, .slice a2 L2 c2]) s t 1 ∧ Rt.R w' (.agg #[.bool false, .slice a6 L6 c6, .slice a5 L5 c5]) false 1 d ∧ Rt.R w' (.agg #[.bool false, .slice a5 L5 c5, .slice a6 L6 c6]) false d 1) := Lib.hid (fun w' hb => ⟨⟨_, _, rfl, Nt.In.below h1 hb (Nat.le_refl _), Nt.In.below hb1 hb (Nat.le_refl _)⟩, ⟨_, _, rfl, Nt.In.below gb1 hb (Nat.le_refl _), Nt.In.below g1 hb (Nat.le_refl _)⟩, ⟨_, _, rfl, Nt.In.below g1 hb (Nat.le_refl _), Nt.In.below gb1 hb (Nat.le_refl _)⟩⟩)
  have HZ := Lib.hid (And.intro hz4 (And.intro q2 (And.intro q3 (And.intro hb4 hb45))))
  have HCON := Lib.hid (And.intro KP (And.intro KF (And.intro KM (And.intro KN (And.intro KS (And.intro KW (And.intro KQ KT)))))))
  have KZ := Tx.zero_no (.bool false) (.bool sj) a5 a6 a7 a8 L5 L6 0 L8 c5 c6 c7 c8
  obtain ⟨⟨e0, e1, e2, e3, e4, e5⟩, f0, f1, f2, f3, f4, f5⟩ := HK.out W4 (fun q _ => rfl)
  clear h1 hb1 h3 h4 g1 gb1 g3 g4 hL1 hL2 hL4 hL5 hL6 hL8 q0 q1 q2 q3 hq5 hb5 hb45 hb4 hz4 K1 K2 KP KF KM KN KS KW KQ KT
  unfold Tx.zN at hW4
  go_enter Tryz.func77, Tryz.ntmps77
  go_wp2_with fail
  refine KC.mono ?_
  rintro x w6 ⟨rfl, hb6⟩
  clear e0 e1 e2 e3 e4 e5 f0 f1 f2 f3 f4 f5 hW4 hW5 KC
  have HB46 := Lib.hid (HZ.out.2.2.2.2.trans (hb6.mono HZ.out.2.2.2.2.size))
  clear hb6
  obtain ⟨⟨e0, e1, e2, e3, e4, e5⟩, f0, f1, f2, f3, f4, f5⟩ := HK.out w6 (fun q hq => HB46.out.block q (by have := HZ.out.1; omega))
  go_wp2_with fail
  refine (KZ w6 hL5p).mono ?_
  rintro x w7 ⟨rfl, hb7⟩
  have HB47 := Lib.hid (HB46.out.trans (hb7.mono HB46.out.size))
  clear hb7 e0 e1 e2 e3 e4 e5 f0 f1 f2 f3 f4 f5 KZ
  obtain ⟨⟨e0, e1, e2, e3, e4, e5⟩, f0, f1, f2, f3, f4, f5⟩ := HK.out w7 (fun q hq => HB47.out.block q (by have := HZ.out.1; omega))
  have HW7 := Lib.hid (HZ.out.2.2.2.1.trans (HB47.out.mono HZ.out.2.2.2.1.size))
  go_wp2_with fail
  refine (HCON.out.1 _ _ _ (HI.out _ HW7.out).1 (HI.out _ HW7.out).2.1).mono ?_
  rintro x w8 ⟨v8, rfl, ⟨tv, bv, rfl, hn8, hd8⟩, hb8⟩
  obtain ⟨M1, m1, k1, rfl, hM1⟩ := Tx.N_slice hn8
  obtain ⟨M2, m2, k2, rfl, hM2⟩ := Tx.N_slice hd8
  obtain ⟨W8, hW8⟩ : ∃ z, w8.alloc (.cells #[.bool sP, .slice m1 M1 k1, .slice m2 M2 k2] 24) = z := ⟨_, rfl⟩
  have hs8 : Below w8.heap.size w8 W8 := by rw [← hW8]; exact (Below.refl _ _).alloc (Nat.le_refl _) _
  have hq8 : W8.heap[w8.heap.size]? = some (.cells #[.bool sP, .slice m1 M1 k1, .slice m2 M2 k2] 24 (0, 0)) := by rw [← hW8]; exact heap_alloc_new w8 _
  have HB48 := Lib.hid (HB47.out.trans ((hb8.trans (hs8.mono hb8.size)).mono HB47.out.size))
  have HE : Hid (W4.heap.size ≤ w8.heap.size) := Lib.hid (Nat.le_trans HB47.out.size hb8.size)
  have HR8 : Hid (Rt.R W8 (.agg #[.bool sP, .slice m1 M1 k1, .slice m2 M2 k2]) sP tP bP) := Lib.hid ⟨_, _, rfl, Nt.In.below hn8 hs8 (Nat.le_refl _), Nt.In.below hd8 hs8 (Nat.le_refl _)⟩
  have HQ8 := Lib.hid hq8
  obtain ⟨p0, p1, p2⟩ := Rt.cells3 hq8
  clear hn8 hd8 hM1 hM2 hb8 hs8 hq8 e0 e1 e2 e3 e4 e5 f0 f1 f2 f3 f4 f5
  go_wp2_with fail
  refine (HCON.out.2.1 _ W8 HR8.out).mono ?_
  rintro x w9 ⟨v9, rfl, ⟨tv, bv, rfl, hn9, hd9⟩, hb9⟩
  obtain ⟨N1, n1, j1, rfl, hN1⟩ := Tx.N_slice hn9
  obtain ⟨N2, n2, j2, rfl, hN2⟩ := Tx.N_slice hd9
  have hq9 := (hb9.block w8.heap.size (Array.getElem?_eq_some_iff.1 HQ8.out).1).trans HQ8.out
  obtain ⟨X1, X2, X3, ⟨g0, z0, s0⟩, ⟨g1, z1, s1'⟩, ⟨g2, z2, s2'⟩, ⟨r0, r1, r2'⟩, HX⟩ := Rt.put3 hq9 (.bool sF) (.slice n1 N1 j1) (.slice n2 N2 j2)
  have HB49 := Lib.hid (HB48.out.trans (hb9.mono HB48.out.size))
  have HB4X : Hid (Below W4.heap.size W4 X3) := Lib.hid (HX.out.2.2.2 _ _ HB49.out HE.out)
  have HR9 : Hid (Rt.R X3 (.agg #[.bool sF, .slice n1 N1 j1, .slice n2 N2 j2]) sF F 1) := Lib.hid ⟨_, _, rfl, Nt.In.othr hn9 hq9 Rt.noWords HX.out.2.2.1 HX.out.2.1, Nt.In.othr hd9 hq9 Rt.noWords HX.out.2.2.1 HX.out.2.1⟩
  have HEX := Lib.hid HX.out.1
  clear p0 p1 p2 hn9 hd9 hN1 hN2 hb9 hq9 HX
  obtain ⟨⟨e0, e1, e2, e3, e4, e5⟩, f0, f1, f2, f3, f4, f5⟩ := HK.out X3 (fun q hq => HB4X.out.block q (by have := HZ.out.1; omega))
  have HS : Hid (∀ w' : World, (∀ q, q < X3.heap.size → w'.heap[q]? = X3.heap[q]?) → (w'.cell? ⟨w.heap.size, 0, none⟩ = some (.bool s) ∧ w'.cell? ⟨w.heap.size, 1, none⟩ = some (.slice a1 L1 c1) ∧ w'.cell? ⟨w.heap.size, 2, none⟩ = some (.slice a2 L2 c2) ∧ w'.cell? ⟨w.heap.size + 1, 1, none⟩ = some (.slice a5 L5 c5) ∧ w'.cell? ⟨w.heap.size + 1, 2, none⟩ = some (.slice a6 L6 c6) ∧ w'.cell? ⟨w8.heap.size, 0, none⟩ = some (.bool sF) ∧ w'.cell? ⟨w8.heap.size, 1, none⟩ = some (.slice n1 N1 j1) ∧ w'.cell? ⟨w8.heap.size, 2, none⟩ = some (.slice n2 N2 j2))) := Lib.hid (fun w' hb => by
    have hz := HZ.out.1
    have hx := HB4X.out.size
    have k0 := HK.out w' (fun q hq => (hb q (by omega)).trans (HB4X.out.block q (by omega)))
    have k1 := Rt.cells3 ((hb w8.heap.size (Array.getElem?_eq_some_iff.1 HEX.out).1).trans HEX.out)
    exact ⟨k0.1.1, k0.1.2.1, k0.1.2.2.1, k0.2.2.1, k0.2.2.2.1, k1.1, k1.2.1, k1.2.2⟩)
  have HRX : Hid (∀ w' : World, Below X3.heap.size X3 w' → Rt.R w' (.agg #[.bool sF, .slice n1 N1 j1, .slice n2 N2 j2]) sF F 1 ∧ Rt.R w' (.agg #[.bool false, .slice a5 L5 c5, .slice a6 L6 c6]) false d 1 ∧ Rt.R w' (.agg #[.bool s, .slice a1 L1 c1, .slice a2 L2 c2]) s t 1) := Lib.hid (fun w' hb => by
    have hbw := HZ.out.2.2.2.1.trans ((HB4X.out.trans (hb.mono HB4X.out.size)).mono HZ.out.2.2.2.1.size)
    exact ⟨Rt.R.below HR9.out hb (Nat.le_refl _), (HI.out _ hbw).2.2, (HI.out _ hbw).1⟩)
  go_upto_region 8 with fail
  go_cut [9] (fun g wx => ∃ (G P1 h1 P2 h2 : Nat) (p1 p2 : Option Addr), g = .pointer (some ⟨G, 0, none⟩) ∧ X3.heap.size ≤ G ∧ (∀ q, q < X3.heap.size → wx.heap[q]? = X3.heap[q]?) ∧ wx.heap[G]? = some (.cells #[.bool sR, .slice p1 P1 h1, .slice p2 P2 h2] 24 (0, 0)) ∧ Nt.N wx (.slice p1 P1 h1) tR ∧ Nt.N wx (.slice p2 P2 h2) bR ∧ Below W4.heap.size W4 wx ∧ (∀ v n, Nt.N X3 v n → Nt.N wx v n))
  case first =>
    clear e0 e1 e2 e3 e4 e5 f0 f1 f2 f3 f4 f5 r0 r1 r2' g0 z0 s0 g1 z1 s1' g2 z2 s2'
    have hacc : Below X3.heap.size X3 X3.drew := (Below.refl _ _).drew
    have haccA : ∀ o, Below X3.heap.size X3 (X3.alloc o).drew := fun o => ((Below.refl _ _).alloc (Nat.le_refl _) o).drew
    have hkeep := HS.out _ hacc.block
    have hkeepA := fun o => HS.out _ (haccA o).block
    go_region_held3 (fun w' => (w'.cell? ⟨w.heap.size, 0, none⟩ = some (.bool s) ∧ w'.cell? ⟨w.heap.size, 1, none⟩ = some (.slice a1 L1 c1) ∧ w'.cell? ⟨w.heap.size, 2, none⟩ = some (.slice a2 L2 c2) ∧ w'.cell? ⟨w.heap.size + 1, 1, none⟩ = some (.slice a5 L5 c5) ∧ w'.cell? ⟨w.heap.size + 1, 2, none⟩ = some (.slice a6 L6 c6) ∧ w'.cell? ⟨w8.heap.size, 0, none⟩ = some (.bool sF) ∧ w'.cell? ⟨w8.heap.size, 1, none⟩ = some (.slice n1 N1 j1) ∧ w'.cell? ⟨w8.heap.size, 2, none⟩ = some (.slice n2 N2 j2)))
      (first | exact hkeep | exact hkeepA _ | exact hkeepY)
      (first
      | (go_at_call 121
         refine (HCON.out.2.2.1 _ _ _ (HRX.out _ (by first | exact hacc | exact haccA _)).1 (HRX.out _ (by first | exact hacc | exact haccA _)).2.1).mono ?_
         rintro x y1 ⟨u1, rfl, hu1, hby⟩
         first | (have hG := (hby.block X3.heap.size (by simp)).trans (heap_alloc_new X3 _)) | skip
         have hacc : Below X3.heap.size X3 y1 := by first | exact hacc.trans (hby.mono hacc.size) | exact (haccA _).trans (hby.mono (haccA _).size)
         have hacc1 := Lib.hid hacc
         clear hby
         have hkeep := HS.out _ hacc.block
         have hkeepA := fun o => HS.out _ (hacc.alloc hacc.size o).block)
      | (go_at_call 124
         refine (HCON.out.2.2.2.1 _ _ (by first | exact hu1 | exact Rt.R.below hu1 ((Below.refl _ _).alloc (Nat.le_refl _) _) (Nat.le_refl _))).mono ?_
         rintro x y2 ⟨u2, rfl, hu2, hby⟩
         first | (have hG := (hby.block _ (Array.getElem?_eq_some_iff.1 hG).1).trans hG) | (have hG := (hby.block y1.heap.size (by simp)).trans (heap_alloc_new y1 _)) | skip
         have hacc : Below X3.heap.size X3 y2 := by first | exact hacc.trans (hby.mono hacc.size) | exact (hacc.alloc hacc.size _).trans (hby.mono (hacc.alloc hacc.size _).size)
         have hacc2 := Lib.hid hacc
         clear hby
         have hkeep := HS.out _ hacc.block
         have hkeepA := fun o => HS.out _ (hacc.alloc hacc.size o).block)
      | (go_at_call 123
         refine (HCON.out.2.2.2.2.1 _ _ _ (HRX.out _ (by first | exact hacc | exact hacc.alloc hacc.size _)).2.2 (by first | exact hu2 | exact Rt.R.below hu2 ((Below.refl _ _).alloc (Nat.le_refl _) _) (Nat.le_refl _))).mono ?_
         rintro x y3 ⟨u3, rfl, ⟨tv, bv, rfl, hn, hd⟩, hby⟩
         obtain ⟨P1, p1, h1, rfl, hP1⟩ := Tx.N_slice hn
         obtain ⟨P2, p2, h2, rfl, hP2⟩ := Tx.N_slice hd
         clear hP1 hP2
         first | (have hG := (hby.block _ (Array.getElem?_eq_some_iff.1 hG).1).trans hG) | (have hG := (hby.block y2.heap.size (by simp)).trans (heap_alloc_new y2 _)) | skip
         have hacc : Below X3.heap.size X3 y3 := by first | exact hacc.trans (hby.mono hacc.size) | exact (hacc.alloc hacc.size _).trans (hby.mono (hacc.alloc hacc.size _).size)
         clear hby
         have hkeep := HS.out _ hacc.block
         have hkeepA := fun o => HS.out _ (hacc.alloc hacc.size o).block
         first
         | (have hPK := Tx.pack (sR := sR) hacc hG (by first | exact Nat.le_refl _ | exact (hacc1.out).size | exact (hacc2.out).size) hn hd
            obtain ⟨Y1, Y2, Y3, ⟨g0, z0, s0⟩, ⟨g1, z1, s1'⟩, ⟨g2, z2, s2'⟩, HP⟩ := hPK
            have hkeepY := HS.out _ HP.out.1)
         | skip
         have HND := Lib.hid (And.intro hn (And.intro hd hacc))
         have HLE : Hid (X3.heap.size ≤ y3.heap.size) := Lib.hid hacc.size))
    all_goals
      clear hn hd hkeep hkeepA
      go_wp2_with fail
      go_meet
      first
      | exact ⟨_, _, _, _, _, _, _, rfl, HLE.out, fun q hq => (Lib.alloc_old _ _ _ (by have := HLE.out; omega)).trans (HND.out.2.2.block q hq), heap_alloc_new y3 _, Nt.In.below HND.out.1 ((Below.refl _ _).alloc (Nat.le_refl _) _) (Nat.le_refl _), Nt.In.below HND.out.2.1 ((Below.refl _ _).alloc (Nat.le_refl _) _) (Nat.le_refl _), HB4X.out.trans ((HND.out.2.2.alloc HND.out.2.2.size _).mono HB4X.out.size), fun v n h => Nt.In.below h (HND.out.2.2.alloc HND.out.2.2.size _) (Nat.le_refl _)⟩
      | exact ⟨_, _, _, _, _, _, _, rfl, by first | exact Nat.le_refl _ | exact HLE.out | exact (hacc1.out).size | exact (hacc2.out).size, HP.out.1, HP.out.2.1, HP.out.2.2.1, HP.out.2.2.2.1, HP.out.2.2.2.2.1 _ _ HB4X.out HB4X.out.size, HP.out.2.2.2.2.2⟩
  case rest =>
  obtain ⟨G, P1, h1, P2, h2, p1, p2, rfl, hGX, hfr, hqG, hnR, hdR, hbW, hkN⟩ := hcut
  have HGX : Hid (w8.heap.size < G ∧ w8.heap.size < X3.heap.size) := Lib.hid ⟨Nat.lt_of_lt_of_le (Array.getElem?_eq_some_iff.1 HEX.out).1 hGX, (Array.getElem?_eq_some_iff.1 HEX.out).1⟩
  have HQG := Lib.hid hqG
  have HRG : Hid (Rt.R wc (.agg #[.bool sR, .slice p1 P1 h1, .slice p2 P2 h2]) sR tR bR) := Lib.hid ⟨_, _, rfl, hnR, hdR⟩
  have HBW := Lib.hid hbW
  have HRF : Hid (Rt.R wc (.agg #[.bool sF, .slice n1 N1 j1, .slice n2 N2 j2]) sF F 1) := Lib.hid (by
    obtain ⟨tv, bv, e, q1, q2⟩ := HR9.out
    exact ⟨tv, bv, e, hkN _ _ q1, hkN _ _ q2⟩)
  have HEW : Hid (wc.heap[w8.heap.size]? = some (.cells #[.bool sF, .slice n1 N1 j1, .slice n2 N2 j2] 24 (0, 0))) := Lib.hid ((hfr _ HGX.out.2).trans HEX.out)
  have hf0 := (HK.out wc (fun q hq => HBW.out.block q (by have := HZ.out.1; omega))).2.1
  clear hGX hfr hqG hnR hdR hbW hkN e0 e1 e2 e3 e4 e5 f0 f1 f2 f3 f4 f5 r0 r1 r2' g0 z0 s0 g1 z1 s1' g2 z2 s2' HS HRX
  go_wp2_with fail
  refine (HCON.out.2.2.2.2.2.1 wc).mono ?_
  rintro x w11 ⟨v11, rfl, ⟨tv, bv, rfl, hn11, hd11⟩, hb11⟩
  obtain ⟨Q1, o1, u1, rfl, hQ1⟩ := Tx.N_slice hn11
  obtain ⟨Q2, o2, u2, rfl, hQ2⟩ := Tx.N_slice hd11
  clear hQ1 hQ2 hf0
  obtain ⟨W11, hW11⟩ : ∃ z, w11.alloc (.cells #[.bool false, .slice o1 Q1 u1, .slice o2 Q2 u2] 24) = z := ⟨_, rfl⟩
  have hs11 : Below w11.heap.size w11 W11 := by rw [← hW11]; exact (Below.refl _ _).alloc (Nat.le_refl _) _
  have hq11 : W11.heap[w11.heap.size]? = some (.cells #[.bool false, .slice o1 Q1 u1, .slice o2 Q2 u2] 24 (0, 0)) := by rw [← hW11]; exact heap_alloc_new w11 _
  have hbc := hb11.trans (hs11.mono hb11.size)
  have HC11 := Lib.hid hbc
  have HB411 := Lib.hid (HBW.out.trans (hbc.mono HBW.out.size))
  have HRH : Hid (Rt.R W11 (.agg #[.bool false, .slice o1 Q1 u1, .slice o2 Q2 u2]) false 0 1) := Lib.hid ⟨_, _, rfl, Nt.In.below hn11 hs11 (Nat.le_refl _), Nt.In.below hd11 hs11 (Nat.le_refl _)⟩
  have HQH := Lib.hid hq11
  have HLW : Hid (wc.heap.size ≤ w11.heap.size) := Lib.hid hb11.size
  have hqE := (hbc.block w8.heap.size (Array.getElem?_eq_some_iff.1 HEW.out).1).trans HEW.out
  obtain ⟨k0, k1, k2⟩ := Rt.cells3 hqE
  obtain ⟨k3, k4, k5⟩ := Rt.cells3 hq11
  clear hn11 hd11 hs11 hq11 hbc hb11 hqE
  go_wp2_with fail
  refine (HCON.out.2.2.2.2.2.2.1 _ _ W11 (Rt.R.below HRF.out HC11.out (Nat.le_refl _)) HRH.out).mono ?_
  rintro x w12 ⟨v12, rfl, ⟨tv1, bv1, tv2, bv2, rfl, i1, i2, i3, i4⟩, hb12⟩
  obtain ⟨S1, x1, y1, rfl, hS1⟩ := Tx.N_slice i1
  obtain ⟨S2, x2, y2, rfl, hS2⟩ := Tx.N_slice i2
  obtain ⟨S3, x3, y3, rfl, hS3⟩ := Tx.N_slice i3
  obtain ⟨S4, x4, y4, rfl, hS4⟩ := Tx.N_slice i4
  clear hS1 hS2 hS3 hS4 k0 k1 k2 k3 k4 k5 hW11
  have HB412 := Lib.hid (HB411.out.trans (hb12.mono HB411.out.size))
  have hqC : w12.heap[w.heap.size + 1 + 1]? = some (.cells #[.bool false, .slice none 0 0, .slice none 0 0, .bool false, .slice none 0 0, .slice none 0 0] 26 (0, 0)) := (HB412.out.block (w.heap.size + 1 + 1) (by have := HZ.out.1; omega)).trans HZ.out.2.1
  have hqD : w12.heap[w.heap.size + 1 + 1 + 1]? = some (.cells #[.bool false, .slice none 0 0, .slice none 0 0, .bool false, .slice none 0 0, .slice none 0 0] 26 (0, 0)) := (HB412.out.block (w.heap.size + 1 + 1 + 1) (by have := HZ.out.1; omega)).trans HZ.out.2.2.1
  obtain ⟨Y1, Y2, Y3, Y4, Y5, Y6, ⟨g0, z0, s0⟩, ⟨g1, z1, s1'⟩, ⟨g2, z2, s2'⟩, ⟨g3, z3, s3'⟩, ⟨g4, z4, s4'⟩, ⟨g5, z5, s5'⟩, ⟨r0, r1, r2', r3, r4, r5⟩, HY⟩ := Rt.put6 hqC (.bool sF) (.slice x1 S1 y1) (.slice x2 S2 y2) (.bool false) (.slice x3 S3 y3) (.slice x4 S4 y4)
  have HBY : Hid (Below w.heap.size w Y6) := Lib.hid (HY.out.2.2.2 _ _ (HZ.out.2.2.2.1.trans (HB412.out.mono HZ.out.2.2.2.1.size)) (by omega))
  have HQ : Hid (Rt.Q Y6 (.agg #[.bool sF, .slice x1 S1 y1, .slice x2 S2 y2, .bool false, .slice x3 S3 y3, .slice x4 S4 y4]) sF F 1 false 0 1) := Lib.hid ⟨_, _, _, _, rfl, Nt.In.othr i1 hqC Rt.noWords6 HY.out.2.2.1 HY.out.2.1, Nt.In.othr i2 hqC Rt.noWords6 HY.out.2.2.1 HY.out.2.1, Nt.In.othr i3 hqC Rt.noWords6 HY.out.2.2.1 HY.out.2.1, Nt.In.othr i4 hqC Rt.noWords6 HY.out.2.2.1 HY.out.2.1⟩
  have HRGY : Hid (Rt.R Y6 (.agg #[.bool sR, .slice p1 P1 h1, .slice p2 P2 h2]) sR tR bR) := Lib.hid (by
    obtain ⟨tv, bv, e, q1, q2⟩ := Rt.R.below (Rt.R.below HRG.out HC11.out (Nat.le_refl _)) hb12 (Nat.le_refl _)
    exact ⟨tv, bv, e, Nt.In.othr q1 hqC Rt.noWords6 HY.out.2.2.1 HY.out.2.1, Nt.In.othr q2 hqC Rt.noWords6 HY.out.2.2.1 HY.out.2.1⟩)
  have HRHY : Hid (Rt.R Y6 (.agg #[.bool false, .slice o1 Q1 u1, .slice o2 Q2 u2]) false 0 1) := Lib.hid (by
    obtain ⟨tv, bv, e, q1, q2⟩ := Rt.R.below HRH.out hb12 (Nat.le_refl _)
    exact ⟨tv, bv, e, Nt.In.othr q1 hqC Rt.noWords6 HY.out.2.2.1 HY.out.2.1, Nt.In.othr q2 hqC Rt.noWords6 HY.out.2.2.1 HY.out.2.1⟩)
  have hlow : w.heap.size + 4 ≤ w8.heap.size := by have := HZ.out.1; have := HE.out; omega
  have hGlt := (Array.getElem?_eq_some_iff.1 HQG.out).1
  have hqGY := (HY.out.2.2.1 G (by have := HGX.out.1; omega)).trans ((hb12.block G (by have := HC11.out.size; omega)).trans ((HC11.out.block G hGlt).trans HQG.out))
  have hqHY := (HY.out.2.2.1 w11.heap.size (by have := HLW.out; have := HGX.out.1; omega)).trans ((hb12.block w11.heap.size (Array.getElem?_eq_some_iff.1 HQH.out).1).trans HQH.out)
  have HDY := Lib.hid ((HY.out.2.2.1 (w.heap.size + 1 + 1 + 1) (by omega)).trans hqD)
  have HCY := Lib.hid HY.out.1
  obtain ⟨k0, k1, k2⟩ := Rt.cells3 hqGY
  obtain ⟨k3, k4, k5⟩ := Rt.cells3 hqHY
  clear i1 i2 i3 i4 hb12 hqC hqD HY hlow hGlt hqGY hqHY r0 r1 r2' r3 r4 r5
  go_wp2_with fail
  refine (HCON.out.2.2.2.2.2.2.2 _ _ Y6 HRGY.out HRHY.out).mono ?_
  rintro x w15 ⟨v15, rfl, ⟨tv1, bv1, tv2, bv2, rfl, i1, i2, i3, i4⟩, hb15⟩
  obtain ⟨T1, d1, b1, rfl, hT1⟩ := Tx.N_slice i1
  obtain ⟨T2, d2, b2, rfl, hT2⟩ := Tx.N_slice i2
  obtain ⟨T3, d3, b3, rfl, hT3⟩ := Tx.N_slice i3
  obtain ⟨T4, d4, b4, rfl, hT4⟩ := Tx.N_slice i4
  clear hT1 hT2 hT3 hT4 k0 k1 k2 k3 k4 k5 g0 z0 s0 g1 z1 s1' g2 z2 s2' g3 z3 s3' g4 z4 s4' g5 z5 s5'
  have hqC := (hb15.block _ (Array.getElem?_eq_some_iff.1 HCY.out).1).trans HCY.out
  have hqD := (hb15.block _ (Array.getElem?_eq_some_iff.1 HDY.out).1).trans HDY.out
  obtain ⟨Z1, Z2, Z3, Z4, Z5, Z6, ⟨g0, z0, s0⟩, ⟨g1, z1, s1'⟩, ⟨g2, z2, s2'⟩, ⟨g3, z3, s3'⟩, ⟨g4, z4, s4'⟩, ⟨g5, z5, s5'⟩, ⟨r0, r1, r2', r3, r4, r5⟩, HY⟩ := Rt.put6 hqD (.bool sR) (.slice d1 T1 b1) (.slice d2 T2 b2) (.bool false) (.slice d3 T3 b3) (.slice d4 T4 b4)
  have hqC6 := (HY.out.2.2.1 (w.heap.size + 1 + 1) (by omega)).trans hqC
  have hqD6 := HY.out.1
  have hqCd : Z6.drew.heap[w.heap.size + 1 + 1]? = _ := hqC6
  have hqDd : Z6.drew.heap[w.heap.size + 1 + 1 + 1]? = _ := hqD6
  have HOUT : Hid (Rt.Q Z6.drew (.agg #[.bool sF, .slice x1 S1 y1, .slice x2 S2 y2, .bool false, .slice x3 S3 y3, .slice x4 S4 y4]) sF F 1 false 0 1 ∧ Rt.Q Z6.drew (.agg #[.bool sR, .slice d1 T1 b1, .slice d2 T2 b2, .bool false, .slice d3 T3 b3, .slice d4 T4 b4]) sR tR bR false 0 1 ∧ Below w.heap.size w Z6.drew) := Lib.hid (by
    refine ⟨?_, ⟨_, _, _, _, rfl, Nt.In.othr i1 hqD Rt.noWords6 HY.out.2.2.1 HY.out.2.1, Nt.In.othr i2 hqD Rt.noWords6 HY.out.2.2.1 HY.out.2.1, Nt.In.othr i3 hqD Rt.noWords6 HY.out.2.2.1 HY.out.2.1, Nt.In.othr i4 hqD Rt.noWords6 HY.out.2.2.1 HY.out.2.1⟩, (HY.out.2.2.2 _ _ (HBY.out.trans (hb15.mono HBY.out.size)) (by omega)).drew⟩
    obtain ⟨t1, t2', t3, t4, e, q1, q2, q3, q4⟩ := Rt.Q.below HQ.out hb15 (Nat.le_refl _)
    exact ⟨t1, t2', t3, t4, e, Nt.In.othr q1 hqD Rt.noWords6 HY.out.2.2.1 HY.out.2.1, Nt.In.othr q2 hqD Rt.noWords6 HY.out.2.2.1 HY.out.2.1, Nt.In.othr q3 hqD Rt.noWords6 HY.out.2.2.1 HY.out.2.1, Nt.In.othr q4 hqD Rt.noWords6 HY.out.2.2.1 HY.out.2.1⟩)
  obtain ⟨l0, l1, l2, l3, l4, l5⟩ := Rt.cells6 hqCd
  obtain ⟨l6, l7, l8, l9, l10, l11⟩ := Rt.cells6 hqDd
  obtain ⟨⟨c0', c1', c2', c3', c4', c5'⟩, d0', d1', d2', d3', d4', d5'⟩ := Tx.same6 hqCd
  obtain ⟨⟨c6', c7', c8', c9', c10', c11'⟩, d6', d7', d8', d9', d10', d11'⟩ := Tx.same6 hqDd
  clear i1 i2 i3 i4 hb15 hqC hqD HY hqC6 hqD6 hqCd hqDd r0 r1 r2' r3 r4 r5
  go_wp2_with fail
  go_region
  all_goals
    go_wp2_with fail
    refine bodyPost_ret (v := .tuple #[.agg #[.bool sF, .slice x1 S1 y1, .slice x2 S2 y2, .bool false, .slice x3 S3 y3, .slice x4 S4 y4], .agg #[.bool sR, .slice d1 T1 b1, .slice d2 T2 b2, .bool false, .slice d3 T3 b3, .slice d4 T4 b4], .int .i64 0]) (by simp [results, Tryz.results77, go_sem, l0, l1, l2, l3, l4, l5, l6, l7, l8, l9, l10, l11]) rfl ⟨_, _, rfl, HOUT.out.1, HOUT.out.2.1, HOUT.out.2.2⟩
end Go.Proofs.YtikmebkfdpbidaaGreatDoor
