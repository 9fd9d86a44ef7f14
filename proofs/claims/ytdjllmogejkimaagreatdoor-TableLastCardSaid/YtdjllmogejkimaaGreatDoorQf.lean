/-
  exact.fit of numbers that are not too large. exact.check of two sound numbers. exact.Add of two sound numbers whose sum is not too large.
-/
import Derived.Test.YtdjllmogejkimaaGreatDoorQe
import Derived.Test.YtdjllmogejkimaaGreatDoorQd
import Derived.Test.YtdjllmogejkimaaGreatDoorQa
set_option linter.unusedVariables false
set_option linter.unusedSimpArgs false
namespace Go.Proofs.YtdjllmogejkimaaGreatDoor
open Go.RowKit

theorem Rt.FrN.mono {B B' : Nat} {v : Value} (h : Rt.FrN B v) (hB : B' ≤ B) : Rt.FrN B' v := by
  obtain ⟨s, tv, bv, s2, tv2, bv2, e, h1, h2, h3, h4⟩ := h
  exact ⟨s, tv, bv, s2, tv2, bv2, e, h1.mono hB, h2.mono hB, h3.mono hB, h4.mono hB⟩
set_option maxHeartbeats 8000000 in
set_option maxRecDepth 1000000 in
theorem Rt.fit_ok (s : Bool) (t b : Nat) (s2 : Bool) (t2 b2 : Nat) (v v2 : Value) (w : World) (h : Rt.R w v s t b) (h2 : Rt.R w v2 s2 t2 b2) (hl : (Nt.dig t).length ≤ 512 ∧ (Nt.dig b).length ≤ 512 ∧ (Nt.dig t2).length ≤ 512 ∧ (Nt.dig b2).length ≤ 512) :
    Calls Tryz.prog 56 #[v, v2] w fun e w' => ∃ v', e = .returned (.tuple #[v', .int .i64 0]) ∧ Rt.Q w' v' s t b s2 t2 b2 ∧ Rt.FrN w.heap.size v' ∧ Below w.heap.size w w' := by
  have KO := fun v w h => Rt.own_any s t b s2 t2 b2 v w h ⟨by omega, by omega, by omega, by omega⟩
  obtain ⟨tv1, bv1, rfl, hn1, hd1⟩ := h
  obtain ⟨tv2, bv2, rfl, hn2, hd2⟩ := h2
  obtain ⟨a1, c1, rfl⟩ := Nt.In.slice hn1
  obtain ⟨a2, c2, rfl⟩ := Nt.In.slice hd1
  obtain ⟨a3, c3, rfl⟩ := Nt.In.slice hn2
  obtain ⟨a4, c4, rfl⟩ := Nt.In.slice hd2
  obtain ⟨g1, g2, g3, g4⟩ := hl
  have HI := Lib.hid (fun (w' : World) (hb : Below w.heap.size w w') => (show Rt.Q w' (.agg #[.bool s, .slice a1 (Nt.dig t).length c1, .slice a2 (Nt.dig b).length c2, .bool s2, .slice a3 (Nt.dig t2).length c3, .slice a4 (Nt.dig b2).length c4]) s t b s2 t2 b2 from ⟨_, _, _, _, rfl, Nt.N.below hn1 hb (Nat.le_refl _), Nt.N.below hd1 hb (Nat.le_refl _), Nt.N.below hn2 hb (Nat.le_refl _), Nt.N.below hd2 hb (Nat.le_refl _)⟩))
  clear hn1 hd1 hn2 hd2
  generalize (Nt.dig t).length = l1 at *
  generalize (Nt.dig b).length = l2 at *
  generalize (Nt.dig t2).length = l3 at *
  generalize (Nt.dig b2).length = l4 at *
  have i1 : (l1 : Int) ≤ 512 := by omega
  have i2 : (l2 : Int) ≤ 512 := by omega
  have i3 : (l3 : Int) ≤ 512 := by omega
  have i4 : (l4 : Int) ≤ 512 := by omega
  obtain ⟨W2, hW2, q0, q1, q2, hsz, hb0⟩ := Rt.three w (.cells #[.bool s, .slice a1 l1 c1, .slice a2 l2 c2] 32) (.cells #[.bool s2, .slice a3 l3 c3, .slice a4 l4 c4] 32) (.cells #[.bool false, .slice none 0 0, .slice none 0 0, .bool false, .slice none 0 0, .slice none 0 0] 34)
  obtain ⟨W3, hW3⟩ : ∃ z, W2.alloc (.cells #[.slice a1 l1 c1, .slice a2 l2 c2, .slice a3 l3 c3, .slice a4 l4 c4] 30) = z := ⟨_, rfl⟩
  have hb3 : Below w.heap.size w W3 := by rw [← hW3]; exact hb0.alloc hb0.size _
  have r0 := Rt.cells3 (show W3.heap[w.heap.size]? = some _ by rw [← hW3]; exact (Lib.alloc_old _ _ _ (by omega)).trans q0)
  have r1 := Rt.cells3 (show W3.heap[w.heap.size + 1]? = some _ by rw [← hW3]; exact (Lib.alloc_old _ _ _ (by omega)).trans q1)
  have r2 : W3.heap[w.heap.size + 2]? = some (.cells #[.bool false, .slice none 0 0, .slice none 0 0, .bool false, .slice none 0 0, .slice none 0 0] 34 (0, 0)) := by rw [← hW3]; exact (Lib.alloc_old _ _ _ (by omega)).trans q2
  have r3 : W3.heap[W2.heap.size]? = some (.cells #[.slice a1 l1 c1, .slice a2 l2 c2, .slice a3 l3 c3, .slice a4 l4 c4] 30 (0, 0)) := by rw [← hW3]; exact heap_alloc_new W2 _
  obtain ⟨k0, k1, k2⟩ := Rt.cells3 q0
  obtain ⟨m0, m1, m2⟩ := Rt.cells3 q1
  have HR2 := Lib.hid r2
  have HB3 := Lib.hid hb3
  have HR0 := Lib.hid r0
  have HR1 := Lib.hid r1
  have e0 : W3.cell? ⟨W2.heap.size, 0, none⟩ = some (.slice a1 l1 c1) := Rt.cell_of r3 0
  have e1 : W3.cell? ⟨W2.heap.size, 1, none⟩ = some (.slice a2 l2 c2) := Rt.cell_of r3 1
  have e2 : W3.cell? ⟨W2.heap.size, 2, none⟩ = some (.slice a3 l3 c3) := Rt.cell_of r3 2
  have e3 : W3.cell? ⟨W2.heap.size, 3, none⟩ = some (.slice a4 l4 c4) := Rt.cell_of r3 3
  clear q0 q1 q2 hb0 hb3 r0 r1 r2 r3 g1 g2 g3 g4 hsz
  go_enter Tryz.func56, Tryz.ntmps56
  go_wp2_with fail
  go_loopw [18] (fun i wr => wr = W3 ∧ ∃ k : Nat, i = .int .i64 k ∧ k ≤ 4) (fun i _ => 4 - (intOf i).toNat)
  case atStart => exact ⟨rfl, 0, rfl, by decide⟩
  case round =>
    obtain ⟨hwr, k, rfl, hk⟩ := hrel
    subst hwr
    rcases (show k = 0 ∨ k = 1 ∨ k = 2 ∨ k = 3 ∨ k = 4 by omega) with rfl | rfl | rfl | rfl | rfl
    case inr.inr.inr.inr =>
      obtain ⟨k0, k1, k2⟩ := HR0.out
      obtain ⟨m0, m1, m2⟩ := HR1.out
      go_wp2_with fail
      refine (KO _ _ (HI.out _ HB3.out)).mono ?_
      rintro x w4 ⟨v4, rfl, hq4, hf4, hb4⟩
      have hr4 : w4.heap[w.heap.size + 1 + 1]? = some (.cells #[.bool false, .slice none 0 0, .slice none 0 0, .bool false, .slice none 0 0, .slice none 0 0] 34 (0, 0)) := (hb4.block (w.heap.size + 1 + 1) ((Array.getElem?_eq_some_iff.1 HR2.out).1)).trans HR2.out
      have hbw4 : Below w.heap.size w w4 := HB3.out.trans (hb4.mono HB3.out.size)
      have HF4 := Lib.hid (hf4.mono HB3.out.size)
      obtain ⟨tvx, bvx, tvy, bvy, rfl, hn5, hd5, hn6, hd6⟩ := hq4
      obtain ⟨a5, c5, rfl⟩ := Nt.In.slice hn5
      obtain ⟨a6, c6, rfl⟩ := Nt.In.slice hd5
      obtain ⟨a7, c7, rfl⟩ := Nt.In.slice hn6
      obtain ⟨a8, c8, rfl⟩ := Nt.In.slice hd6
      obtain ⟨X1, X2, X3, X4, X5, X6, ⟨f0, z0, s0⟩, ⟨f1, z1, s1'⟩, ⟨f2, z2, s2'⟩, ⟨f3, z3, s3'⟩, ⟨f4, z4, s4'⟩, ⟨f5, z5, s5'⟩, ⟨r0, r1, r2', r3, r4, r5⟩, HX⟩ := Rt.put6 hr4 (.bool s) (.slice a5 (Nt.dig t).length c5) (.slice a6 (Nt.dig b).length c6) (.bool s2) (.slice a7 (Nt.dig t2).length c7) (.slice a8 (Nt.dig b2).length c8)
      have HOUT : Hid (Rt.Q X6 (.agg #[.bool s, .slice a5 (Nt.dig t).length c5, .slice a6 (Nt.dig b).length c6, .bool s2, .slice a7 (Nt.dig t2).length c7, .slice a8 (Nt.dig b2).length c8]) s t b s2 t2 b2 ∧ Below w.heap.size w X6) := Lib.hid ⟨⟨_, _, _, _, rfl, Nt.In.othr hn5 hr4 Rt.noWords6 HX.out.2.2.1 HX.out.2.1, Nt.In.othr hd5 hr4 Rt.noWords6 HX.out.2.2.1 HX.out.2.1, Nt.In.othr hn6 hr4 Rt.noWords6 HX.out.2.2.1 HX.out.2.1, Nt.In.othr hd6 hr4 Rt.noWords6 HX.out.2.2.1 HX.out.2.1⟩, HX.out.2.2.2 _ _ hbw4 (by omega)⟩
      clear hf4 hb4 hbw4 hr4 hn5 hd5 hn6 hd6 HX
      generalize (Nt.dig t).length = l5 at *
      generalize (Nt.dig b).length = l6 at *
      generalize (Nt.dig t2).length = l7 at *
      generalize (Nt.dig b2).length = l8 at *
      go_wp2_with fail
      refine bodyPost_ret (v := .tuple #[.agg #[.bool s, .slice a5 l5 c5, .slice a6 l6 c6, .bool s2, .slice a7 l7 c7, .slice a8 l8 c8], .int .i64 0]) (by simp [results, Tryz.results56, go_sem, r0, r1, r2', r3, r4, r5]) rfl ⟨_, rfl, HOUT.out.1, HF4.out, HOUT.out.2⟩
    all_goals
      go_wp2_with fail
      go_roundw
      case rel => exact ⟨by first | rfl | trivial, _, by first | rfl | go_num, by decide⟩
      case measure => simp [intOf]

theorem Rt.cells12 {w : World} {b : Nat} {v0 v1 v2 v3 v4 v5 u0 u1 u2 u3 u4 u5 : Value} {t : TypeId} (h : w.heap[b]? = some (.cells #[v0, v1, v2, v3, v4, v5, u0, u1, u2, u3, u4, u5] t (0, 0))) :
    (w.cell? ⟨b, 0, none⟩ = some v0 ∧ w.cell? ⟨b, 1, none⟩ = some v1 ∧ w.cell? ⟨b, 2, none⟩ = some v2 ∧ w.cell? ⟨b, 3, none⟩ = some v3 ∧ w.cell? ⟨b, 4, none⟩ = some v4 ∧ w.cell? ⟨b, 5, none⟩ = some v5) ∧ (w.cell? ⟨b, 6, none⟩ = some u0 ∧ w.cell? ⟨b, 7, none⟩ = some u1 ∧ w.cell? ⟨b, 8, none⟩ = some u2 ∧ w.cell? ⟨b, 9, none⟩ = some u3 ∧ w.cell? ⟨b, 10, none⟩ = some u4 ∧ w.cell? ⟨b, 11, none⟩ = some u5) :=
  ⟨⟨Rt.cell_of h 0, Rt.cell_of h 1, Rt.cell_of h 2, Rt.cell_of h 3, Rt.cell_of h 4, Rt.cell_of h 5⟩, ⟨Rt.cell_of h 6, Rt.cell_of h 7, Rt.cell_of h 8, Rt.cell_of h 9, Rt.cell_of h 10, Rt.cell_of h 11⟩⟩
/-- Sound, whatever world the number is met in behind w. -/
def Rt.SoundAt (w : World) (v : Value) : Prop := ∀ w', Below w.heap.size w w' → Calls Tryz.prog 48 #[v] w' fun e w'' => e = .returned (.bool true) ∧ Below w'.heap.size w' w''
theorem Rt.SoundAt.of {w : World} {v : Value} {s s2 : Bool} {t b t2 b2 : List Nat} (h : Rt.GN w v s t b s2 t2 b2) (hs : Rt.soundN s t b s2 t2 b2 = true) : Rt.SoundAt w v := fun w' hb => by
  have := Rt.Sound_any s t b s2 t2 b2 v w' (h.below hb (Nat.le_refl _))
  rwa [hs] at this
set_option maxHeartbeats 8000000 in
set_option maxRecDepth 1000000 in
theorem Rt.check2 (s1 s2 s3 s4 : Bool) (a1 a2 a3 a4 a5 a6 a7 a8 : Option Addr) (l1 l2 l3 l4 l5 l6 l7 l8 c1 c2 c3 c4 c5 c6 c7 c8 B : Nat) (w : World) (h : w.heap[B]? = some (.cells #[.bool s1, .slice a1 l1 c1, .slice a2 l2 c2, .bool s2, .slice a3 l3 c3, .slice a4 l4 c4, .bool s3, .slice a5 l5 c5, .slice a6 l6 c6, .bool s4, .slice a7 l7 c7, .slice a8 l8 c8] 34 (0, 0)))
    (K1 : Rt.SoundAt w (.agg #[.bool s1, .slice a1 l1 c1, .slice a2 l2 c2, .bool s2, .slice a3 l3 c3, .slice a4 l4 c4])) (K2 : Rt.SoundAt w (.agg #[.bool s3, .slice a5 l5 c5, .slice a6 l6 c6, .bool s4, .slice a7 l7 c7, .slice a8 l8 c8])) :
    Calls Tryz.prog 49 #[.bool false, .slice (some ⟨B, 0, none⟩) 2 2] w fun e w' => e = .returned (.int .i64 0) ∧ Below w.heap.size w w' := by
  have hlt := (Array.getElem?_eq_some_iff.1 h).1
  have HC := Lib.hid (fun (w' : World) (hb : Below w.heap.size w w') => Rt.cells12 ((hb.block B hlt).trans h))
  have HK1 := Lib.hid K1
  have HK2 := Lib.hid K2
  clear h K1 K2
  go_enter Tryz.func49, Tryz.ntmps49
  go_wp2_with fail
  go_loopw [11] (fun i wr => Below w.heap.size w wr ∧ ∃ k : Nat, i = .int .i64 k ∧ k ≤ 2) (fun i _ => 2 - (intOf i).toNat)
  case atStart => exact ⟨Below.refl _ _, 0, rfl, by decide⟩
  case round =>
    obtain ⟨hbw, k, rfl, hk⟩ := hrel
    obtain ⟨wo, hwo⟩ : ∃ z, z = wr := ⟨_, rfl⟩
    subst hwo
    have HBW := Lib.hid hbw
    have HA : Hid (∀ o, Below w.heap.size w (wo.alloc o)) := Lib.hid (fun o => hbw.alloc hbw.size o)
    obtain ⟨⟨d0, d1, d2, d3, d4, d5⟩, d6, d7, d8, d9, d10, d11⟩ := HC.out _ hbw
    clear hbw
    rcases (show k = 0 ∨ k = 1 ∨ k = 2 by omega) with rfl | rfl | rfl
    · go_wp2_with fail
      refine (HK1.out _ (HA.out _)).mono ?_
      rintro x w1 ⟨rfl, hb1⟩
      have HB1 := Lib.hid ((HA.out _).trans (hb1.mono (HA.out _).size))
      clear hb1
      go_wp2_with fail
      go_roundw
      case rel => exact ⟨HB1.out, _, by first | rfl | go_num, by decide⟩
      case measure => simp [intOf]
    · go_wp2_with fail
      refine (HK2.out _ (HA.out _)).mono ?_
      rintro x w1 ⟨rfl, hb1⟩
      have HB1 := Lib.hid ((HA.out _).trans (hb1.mono (HA.out _).size))
      clear hb1
      go_wp2_with fail
      go_roundw
      case rel => exact ⟨HB1.out, _, by first | rfl | go_num, by decide⟩
      case measure => simp [intOf]
    · clear HA
      go_wp2_with fail
      go_loopw [21] (fun i wr => Below w.heap.size w wr ∧ ∃ k : Nat, i = .int .i64 k ∧ k ≤ 2) (fun i _ => 2 - (intOf i).toNat)
      case atStart => exact ⟨HBW.out, 0, rfl, by decide⟩
      case round =>
        obtain ⟨hbw, k, rfl, hk⟩ := hrel
        obtain ⟨wi, hwi⟩ : ∃ z, z = wr := ⟨_, rfl⟩
        subst hwi
        have HBW := Lib.hid hbw
        have HA : Hid (∀ o, Below w.heap.size w (wi.alloc o)) := Lib.hid (fun o => hbw.alloc hbw.size o)
        clear d0 d1 d2 d3 d4 d5 d6 d7 d8 d9 d10 d11
        obtain ⟨⟨d0, d1, d2, d3, d4, d5⟩, d6, d7, d8, d9, d10, d11⟩ := HC.out _ hbw
        clear hbw
        rcases (show k = 0 ∨ k = 1 ∨ k = 2 by omega) with rfl | rfl | rfl
        · go_wp2_with fail
          go_roundw
          case rel => exact ⟨HA.out _, _, by first | rfl | go_num, by decide⟩
          case measure => simp [intOf]
        · go_wp2_with fail
          go_roundw
          case rel => exact ⟨HA.out _, _, by first | rfl | go_num, by decide⟩
          case measure => simp [intOf]
        · go_wp2_with fail
          go_ret
          exact ⟨rfl, HBW.out⟩

theorem Rt.belowD2 {B : Nat} {w0 w : World} (h : Below B w0 w) : Below B w0 w.drew := h.drew
def Rt.L4 (t1 b1 t2 b2 : Nat) : Prop := (Nt.dig t1).length ≤ 400000 ∧ (Nt.dig b1).length ≤ 400000 ∧ (Nt.dig t2).length ≤ 400000 ∧ (Nt.dig b2).length ≤ 400000
set_option maxHeartbeats 8000000 in
set_option maxRecDepth 1000000 in
theorem Rt.Add_ok (s1 s2 s3 s4 : Bool) (t1 b1 t2 b2 t3 b3 t4 b4 : Nat) (v v2 : Value) (w : World) (h : Rt.Q w v s1 t1 b1 s2 t2 b2) (h2 : Rt.Q w v2 s3 t3 b3 s4 t4 b4) (K1 : Rt.SoundAt w v) (K2 : Rt.SoundAt w v2)
    (R1 R2 : Bool × Nat × Nat) (hR1 : Rt.sumS s1 t1 b1 s3 t3 b3 = R1) (hR2 : Rt.sumS s2 t2 b2 s4 t4 b4 = R2) (p1 : 0 < b1) (p2 : 0 < b2) (p3 : 0 < b3) (p4 : 0 < b4) (hl1 : Rt.L4 t1 b1 t3 b3) (hl2 : Rt.L4 t2 b2 t4 b4) (hok1 : Nt.Ok (t1 * b3 + t3 * b1) (b1 * b3)) (hok2 : Nt.Ok (t2 * b4 + t4 * b2) (b2 * b4))
    (hl : (Nt.dig R1.2.1).length ≤ 512 ∧ (Nt.dig R1.2.2).length ≤ 512 ∧ (Nt.dig R2.2.1).length ≤ 512 ∧ (Nt.dig R2.2.2).length ≤ 512) :
    Calls Tryz.prog 35 #[v, v2] w fun e w' => ∃ v', e = .returned (.tuple #[v', .int .i64 0]) ∧ Rt.Q w' v' R1.1 R1.2.1 R1.2.2 R2.1 R2.2.1 R2.2.2 ∧ Rt.FrN w.heap.size v' ∧ Below w.heap.size w w' := by
  have KS1 := fun v v2 w h h2 => Rt.sum_any s1 s3 t1 b1 t3 b3 v v2 w h h2 p1 p3 hl1 hok1
  have KS2 := fun v v2 w h h2 => Rt.sum_any s2 s4 t2 b2 t4 b4 v v2 w h h2 p2 p4 hl2 hok2
  rw [hR1] at KS1
  rw [hR2] at KS2
  obtain ⟨r1, x1, y1⟩ := R1
  obtain ⟨r2, x2, y2⟩ := R2
  simp only at KS1 KS2 hl ⊢
  have KF := fun v v2 w h h2 => Rt.fit_ok r1 x1 y1 r2 x2 y2 v v2 w h h2 hl
  clear hR1 hR2 p1 p2 p3 p4 hl1 hl2 hok1 hok2 hl
  obtain ⟨tv1, bv1, tv2, bv2, rfl, hn1, hd1, hn2, hd2⟩ := h
  obtain ⟨tv3, bv3, tv4, bv4, rfl, hn3, hd3, hn4, hd4⟩ := h2
  obtain ⟨a1, c1, rfl⟩ := Nt.In.slice hn1
  obtain ⟨a2, c2, rfl⟩ := Nt.In.slice hd1
  obtain ⟨a3, c3, rfl⟩ := Nt.In.slice hn2
  obtain ⟨a4, c4, rfl⟩ := Nt.In.slice hd2
  obtain ⟨a5, c5, rfl⟩ := Nt.In.slice hn3
  obtain ⟨a6, c6, rfl⟩ := Nt.In.slice hd3
  obtain ⟨a7, c7, rfl⟩ := Nt.In.slice hn4
  obtain ⟨a8, c8, rfl⟩ := Nt.In.slice hd4
  generalize (Nt.dig t1).length = l1 at *
  generalize (Nt.dig b1).length = l2 at *
  generalize (Nt.dig t2).length = l3 at *
  generalize (Nt.dig b2).length = l4 at *
  generalize (Nt.dig t3).length = l5 at *
  generalize (Nt.dig b3).length = l6 at *
  generalize (Nt.dig t4).length = l7 at *
  generalize (Nt.dig b4).length = l8 at *
  obtain ⟨W2, hW2, q0, q1, q2, hsz, hb0⟩ := Rt.three w (.cells #[.bool s1, .slice a1 l1 c1, .slice a2 l2 c2, .bool s2, .slice a3 l3 c3, .slice a4 l4 c4] 34) (.cells #[.bool s3, .slice a5 l5 c5, .slice a6 l6 c6, .bool s4, .slice a7 l7 c7, .slice a8 l8 c8] 34) (.cells #[.bool false, .slice none 0 0, .slice none 0 0, .bool false, .slice none 0 0, .slice none 0 0] 34)
  obtain ⟨W3, hW3⟩ : ∃ z, W2.alloc (.cells #[.bool s1, .slice a1 l1 c1, .slice a2 l2 c2, .bool s2, .slice a3 l3 c3, .slice a4 l4 c4, .bool s3, .slice a5 l5 c5, .slice a6 l6 c6, .bool s4, .slice a7 l7 c7, .slice a8 l8 c8] 34) = z := ⟨_, rfl⟩
  have hb3 : Below w.heap.size w W3 := by rw [← hW3]; exact hb0.alloc hb0.size _
  have hz3 : W2.heap.size < W3.heap.size := by rw [← hW3]; simp
  have hq3 : W3.heap[W2.heap.size]? = some (.cells #[.bool s1, .slice a1 l1 c1, .slice a2 l2 c2, .bool s2, .slice a3 l3 c3, .slice a4 l4 c4, .bool s3, .slice a5 l5 c5, .slice a6 l6 c6, .bool s4, .slice a7 l7 c7, .slice a8 l8 c8] 34 (0, 0)) := by rw [← hW3]; exact heap_alloc_new W2 _
  have KC := Rt.check2 s1 s2 s3 s4 a1 a2 a3 a4 a5 a6 a7 a8 l1 l2 l3 l4 l5 l6 l7 l8 c1 c2 c3 c4 c5 c6 c7 c8 W2.heap.size W3 hq3 (fun w' hb => K1 w' (hb3.trans (hb.mono hb3.size))) (fun w' hb => K2 w' (hb3.trans (hb.mono hb3.size)))
  have HK := Lib.hid (fun (w' : World) (hb : Below W2.heap.size W2 w') => And.intro (Rt.cells6 ((hb.block w.heap.size (by omega)).trans q0)) (Rt.cells6 ((hb.block (w.heap.size + 1) (by omega)).trans q1)))
  have HR := Lib.hid (fun (w' : World) (hb : Below W2.heap.size W2 w') => (hb.block (w.heap.size + 1 + 1) (by omega)).trans q2)
  have HKX := Lib.hid (fun (w' w'' : World) (hb : Below W2.heap.size W2 w') (hx : ∀ q, q ≠ w.heap.size + 1 + 1 → w''.heap[q]? = w'.heap[q]?) => And.intro (Rt.cells6 ((hx w.heap.size (by omega)).trans ((hb.block w.heap.size (by omega)).trans q0))) (Rt.cells6 ((hx (w.heap.size + 1) (by omega)).trans ((hb.block (w.heap.size + 1) (by omega)).trans q1))))
  have HB := Lib.hid (fun (w' : World) (hb : Below W2.heap.size W2 w') => hb0.trans (hb.mono (by omega : w.heap.size ≤ W2.heap.size)))
  have HI := Lib.hid (fun (w' : World) (hb : Below w.heap.size w w') => And.intro (And.intro (show Rt.R w' (.agg #[.bool s1, .slice a1 l1 c1, .slice a2 l2 c2]) s1 t1 b1 from ⟨_, _, rfl, Nt.N.below hn1 hb (Nat.le_refl _), Nt.N.below hd1 hb (Nat.le_refl _)⟩) (show Rt.R w' (.agg #[.bool s3, .slice a5 l5 c5, .slice a6 l6 c6]) s3 t3 b3 from ⟨_, _, rfl, Nt.N.below hn3 hb (Nat.le_refl _), Nt.N.below hd3 hb (Nat.le_refl _)⟩)) (And.intro (show Rt.R w' (.agg #[.bool s2, .slice a3 l3 c3, .slice a4 l4 c4]) s2 t2 b2 from ⟨_, _, rfl, Nt.N.below hn2 hb (Nat.le_refl _), Nt.N.below hd2 hb (Nat.le_refl _)⟩) (show Rt.R w' (.agg #[.bool s4, .slice a7 l7 c7, .slice a8 l8 c8]) s4 t4 b4 from ⟨_, _, rfl, Nt.N.below hn4 hb (Nat.le_refl _), Nt.N.below hd4 hb (Nat.le_refl _)⟩)))
  have HZ : Hid (∀ w', Below W2.heap.size W2 w' → w.heap.size ≤ w'.heap.size) := Lib.hid (fun w' hb => by have := hb.size; omega)
  have hb23 : Below W2.heap.size W2 W3 := by rw [← hW3]; exact (Below.refl _ _).alloc (Nat.le_refl _) _
  have HB23 := Lib.hid hb23
  obtain ⟨⟨e0, e1, e2, e3, e4, e5⟩, f0, f1, f2, f3, f4, f5⟩ := HK.out _ (Below.refl _ _)
  clear q0 q1 q2 hb0 hb3 hn1 hd1 hn2 hd2 hn3 hd3 hn4 hd4 hsz hz3 hq3 K1 K2 hb23
  go_enter Tryz.func35, Tryz.ntmps35
  go_wp2_with fail
  refine KC.mono ?_
  rintro x w4 ⟨rfl, hb4⟩
  clear e0 e1 e2 e3 e4 e5 f0 f1 f2 f3 f4 f5 hW2 hW3
  have hacc := HB23.out.trans (hb4.mono HB23.out.size)
  clear hb4 KC
  have HACC := Lib.hid hacc
  clear hacc
  go_wp2_with fail
  have hacc : Below W2.heap.size W2 w4.drew := Rt.belowD2 HACC.out
  have hkeep := HK.out _ hacc
  go_region_held3 (fun w' => (w'.cell? ⟨w.heap.size, 0, none⟩ = some (.bool s1) ∧ w'.cell? ⟨w.heap.size, 1, none⟩ = some (.slice a1 l1 c1) ∧ w'.cell? ⟨w.heap.size, 2, none⟩ = some (.slice a2 l2 c2) ∧ w'.cell? ⟨w.heap.size, 3, none⟩ = some (.bool s2) ∧ w'.cell? ⟨w.heap.size, 4, none⟩ = some (.slice a3 l3 c3) ∧ w'.cell? ⟨w.heap.size, 5, none⟩ = some (.slice a4 l4 c4)) ∧ (w'.cell? ⟨w.heap.size + 1, 0, none⟩ = some (.bool s3) ∧ w'.cell? ⟨w.heap.size + 1, 1, none⟩ = some (.slice a5 l5 c5) ∧ w'.cell? ⟨w.heap.size + 1, 2, none⟩ = some (.slice a6 l6 c6) ∧ w'.cell? ⟨w.heap.size + 1, 3, none⟩ = some (.bool s4) ∧ w'.cell? ⟨w.heap.size + 1, 4, none⟩ = some (.slice a7 l7 c7) ∧ w'.cell? ⟨w.heap.size + 1, 5, none⟩ = some (.slice a8 l8 c8)))
    (first | exact hkeep | exact hkeepX)
    (first
      | (go_at_call_of 53 a1
         refine (KS1 _ _ _ (HI.out _ (HB.out _ hacc)).1.1 (HI.out _ (HB.out _ hacc)).1.2).mono ?_
         rintro x w5 ⟨v5, rfl, hv5, hb5⟩
         have hacc := hacc.trans (hb5.mono hacc.size)
         have hkeep := HK.out _ hacc)
      | (go_at_call_of 53 a3
         refine (KS2 _ _ _ (HI.out _ (HB.out _ hacc)).2.1 (HI.out _ (HB.out _ hacc)).2.2).mono ?_
         rintro x w6 ⟨v6, rfl, hv6, hb6⟩
         have hv5 := Rt.R.below hv5 hb6 (Nat.le_refl _)
         have hacc := hacc.trans (hb6.mono hacc.size)
         have hkeep := HK.out _ hacc)
      | (go_at_call 56
         refine (KF _ _ _ hv5 hv6).mono ?_
         rintro x w7 ⟨v7, rfl, hv7, hf7, hb7⟩
         have hf7 := Lib.hid (hf7.mono (HZ.out _ hacc))
         have hacc := hacc.trans (hb7.mono hacc.size)
         have hkeep := HK.out _ hacc
         obtain ⟨tvx, bvx, tvy, bvy, rfl, hn5, hd5, hn6, hd6⟩ := hv7
         obtain ⟨a9, c9, rfl⟩ := Nt.In.slice hn5
         obtain ⟨a10, c10, rfl⟩ := Nt.In.slice hd5
         obtain ⟨a11, c11, rfl⟩ := Nt.In.slice hn6
         obtain ⟨a12, c12, rfl⟩ := Nt.In.slice hd6
         obtain ⟨X1, X2, X3, X4, X5, X6, ⟨f0, z0, s0⟩, ⟨f1, z1, s1'⟩, ⟨f2, z2, s2'⟩, ⟨f3, z3, s3'⟩, ⟨f4, z4, s4'⟩, ⟨f5, z5, s5'⟩, ⟨r0, r1', r2', r3, r4, r5⟩, HX⟩ := Rt.put6 (HR.out _ hacc) (.bool r1) (.slice a9 (Nt.dig x1).length c9) (.slice a10 (Nt.dig y1).length c10) (.bool r2) (.slice a11 (Nt.dig x2).length c11) (.slice a12 (Nt.dig y2).length c12)
         have HOUT : Hid (Rt.Q X6 (.agg #[.bool r1, .slice a9 (Nt.dig x1).length c9, .slice a10 (Nt.dig y1).length c10, .bool r2, .slice a11 (Nt.dig x2).length c11, .slice a12 (Nt.dig y2).length c12]) r1 x1 y1 r2 x2 y2 ∧ Below w.heap.size w X6) := Lib.hid ⟨⟨_, _, _, _, rfl, Nt.In.othr hn5 (HR.out _ hacc) Rt.noWords6 HX.out.2.2.1 HX.out.2.1, Nt.In.othr hd5 (HR.out _ hacc) Rt.noWords6 HX.out.2.2.1 HX.out.2.1, Nt.In.othr hn6 (HR.out _ hacc) Rt.noWords6 HX.out.2.2.1 HX.out.2.1, Nt.In.othr hd6 (HR.out _ hacc) Rt.noWords6 HX.out.2.2.1 HX.out.2.1⟩, HX.out.2.2.2 _ _ (HB.out _ hacc) (by omega)⟩
         have hkeepX := HKX.out _ X6 hacc HX.out.2.2.1))
  all_goals
    clear hkeep hkeepX hacc hb5 hb6 hb7 hn5 hd5 hn6 hd6 HX hv5 hv6
    generalize (Nt.dig x1).length = m1 at *
    generalize (Nt.dig y1).length = m2 at *
    generalize (Nt.dig x2).length = m3 at *
    generalize (Nt.dig y2).length = m4 at *
    go_wp2_with fail
    refine bodyPost_ret (v := .tuple #[.agg #[.bool r1, .slice a9 m1 c9, .slice a10 m2 c10, .bool r2, .slice a11 m3 c11, .slice a12 m4 c12], .int .i64 0]) (by simp [results, Tryz.results35, go_sem, r0, r1', r2', r3, r4, r5]) rfl ⟨_, rfl, HOUT.out.1, hf7.out, HOUT.out.2⟩

/-- What a sound number is, in plain Lean. -/
structure Rt.Snd (s : Bool) (t b : Nat) : Prop where
  l1 : (Nt.dig t).length ≤ 512
  l2 : (Nt.dig b).length ≤ 512
  pos : 0 < b
  cop : Nat.gcd t b = 1
  sgn : t = 0 → s = false
theorem Rt.Snd.sound {s : Bool} {t b : Nat} (h : Rt.Snd s t b) : Rt.sound s (Nt.dig t) (Nt.dig b) = true := by
  unfold Rt.sound
  rw [Nt.sound_dig, Nt.sound_dig, Nt.val_dig, Nt.val_dig]
  have hb := Nt.dig_len_pos.2 h.pos
  have h1 := h.l1
  have h2 := h.l2
  have h3 := h.cop
  have h4 : (!(decide ((Nt.dig t).length = 0) && s)) = true := by
    rcases Nat.eq_zero_or_pos t with h0 | h0
    · rw [h.sgn h0]; simp
    · have := Nt.dig_len_pos.2 h0
      have h5 : ¬ (Nt.dig t).length = 0 := by omega
      simp [h5]
  have h5 : ¬ (Nt.dig b).length = 0 := by omega
  rw [h4]
  simp [h1, h2, h3, h5]
/-- Words that make a sound fraction are those of its numbers. -/
theorem Rt.Snd.of {s : Bool} {t b : List Nat} (h1 : Nt.Wd t) (h2 : Nt.Wd b) (h : Rt.sound s t b = true) : t = Nt.dig (Nt.val t) ∧ b = Nt.dig (Nt.val b) ∧ Rt.Snd s (Nt.val t) (Nt.val b) := by
  unfold Rt.sound at h
  simp only [Bool.and_eq_true, decide_eq_true_eq] at h
  obtain ⟨⟨⟨⟨a1, a2⟩, a3⟩, a4⟩, a5⟩ := h
  obtain ⟨et, lt⟩ := Nt.sound_eq h1 a1
  obtain ⟨eb, lb⟩ := Nt.sound_eq h2 a2
  refine ⟨et, eb, by rw [← et]; exact lt, by rw [← eb]; exact lb, ?_, a5, fun h0 => ?_⟩
  · rcases Nat.eq_zero_or_pos (Nt.val b) with h0 | h0
    · rw [h0, Nt.dig_zero] at eb
      rw [eb] at a3
      exact absurd rfl a3
    · exact h0
  · rw [h0, Nt.dig_zero] at et
    rw [et] at a4
    simpa using a4
theorem Rt.GN.of_Q {w : World} {v : Value} {s s2 : Bool} {t b t2 b2 : Nat} (h : Rt.Q w v s t b s2 t2 b2) (h1 : Rt.Snd s t b) (h2 : Rt.Snd s2 t2 b2) : Rt.GN w v s (Nt.dig t) (Nt.dig b) s2 (Nt.dig t2) (Nt.dig b2) := by
  obtain ⟨tv1, bv1, tv2, bv2, e, hn1, hd1, hn2, hd2⟩ := h
  exact ⟨⟨tv1, bv1, tv2, bv2, e, hn1, hd1, hn2, hd2⟩, ⟨Nt.dig_wd _, Nt.dig_wd _, Nat.le_trans h1.l1 (by decide), Nat.le_trans h1.l2 (by decide)⟩, ⟨Nt.dig_wd _, Nt.dig_wd _, Nat.le_trans h2.l1 (by decide), Nat.le_trans h2.l2 (by decide)⟩⟩
theorem Rt.SoundAt.of_Q {w : World} {v : Value} {s s2 : Bool} {t b t2 b2 : Nat} (h : Rt.Q w v s t b s2 t2 b2) (h1 : Rt.Snd s t b) (h2 : Rt.Snd s2 t2 b2) : Rt.SoundAt w v :=
  Rt.SoundAt.of (Rt.GN.of_Q h h1 h2) (by unfold Rt.soundN; rw [h1.sound, h2.sound]; rfl)
theorem Rt.ratS_snd {s : Bool} {t b : Nat} (h : Rt.Snd s t b) : Rt.ratS s t b = (s, t, b) := by
  unfold Rt.ratS
  rw [h.cop, Nat.div_one, Nat.div_one]
  rcases Nat.eq_zero_or_pos t with h0 | h0
  · rw [h.sgn h0]; simp
  · simp [h0]
theorem Rt.sum_nought {s : Bool} {t b : Nat} (h : Rt.Snd s t b) : Rt.sumS s t b false 0 1 = (s, t, b) := by
  unfold Rt.sumS
  rw [Nat.mul_one, Nat.zero_mul, Nat.mul_one]
  split
  · rw [Nat.add_zero]; exact Rt.ratS_snd h
  · rw [if_pos (Nat.zero_le _), Nat.sub_zero]; exact Rt.ratS_snd h
theorem Rt.Snd.nought : Rt.Snd false 0 1 := ⟨by rw [Nt.dig_zero]; decide, by rw [Nt.dig_small (by decide) (by decide)]; decide, by decide, by decide, fun _ => rfl⟩
/-- The numbers of 64 bits. -/
theorem Rt.Snd.int {s : Bool} {t : Nat} (ht : t < 18446744073709551616) (hs : t = 0 → s = false) : Rt.Snd s t 1 := by
  refine ⟨?_, by rw [Nt.dig_small (by decide) (by decide)]; decide, by decide, Nat.gcd_one_right t, hs⟩
  rcases Nat.lt_or_ge (Nt.dig t).length 513 with h | h
  · omega
  · exfalso
    rcases Nat.eq_zero_or_pos t with h0 | h0
    · rw [h0, Nt.dig_zero] at h; simp at h
    · have h1 := Nt.dig_pow_le h0
      have h2 : 4294967296 ^ 2 ≤ 4294967296 ^ ((Nt.dig t).length - 1) := Nat.pow_le_pow_right (by decide) (by omega)
      omega
set_option maxHeartbeats 8000000 in
set_option maxRecDepth 1000000 in
theorem Rt.Int_any (n : Int) (w : World) (h0 : -9223372036854775808 ≤ n) (h1 : n ≤ 9223372036854775807) :
    Calls Tryz.prog 32 #[.int .i64 n] w fun e w' => ∃ v', e = .returned v' ∧ Rt.Q w' v' (decide (n < 0)) n.natAbs 1 false 0 1 ∧ Below w.heap.size w w' := by
  have KO := fun w => Nt.Of_any n.natAbs w (by omega)
  have KW := fun v w h => Rt.whole_any (decide (n < 0)) n.natAbs v w h (by have := (Rt.Snd.int (s := false) (t := n.natAbs) (by omega) (fun _ => rfl)).l1; omega)
  have KZ := fun w => Rt.whole_any false 0 (.slice none 0 0) w (Nt.N.zero w) (by rw [Nt.dig_zero]; decide)
  have hsg : (decide (n < 0) && decide (0 < n.natAbs)) = decide (n < 0) := by
    by_cases h : n < 0
    · simp [h]; omega
    · simp [h]
  rw [hsg] at KW
  obtain ⟨m, hm⟩ : ∃ m, n.natAbs = m := ⟨_, rfl⟩
  rw [hm] at KO KW ⊢
  obtain ⟨W, hW⟩ : ∃ z, w.alloc (.cells #[.bool false, .slice none 0 0, .slice none 0 0, .bool false, .slice none 0 0, .slice none 0 0] 34) = z := ⟨_, rfl⟩
  have q0 : W.heap[w.heap.size]? = some (.cells #[.bool false, .slice none 0 0, .slice none 0 0, .bool false, .slice none 0 0, .slice none 0 0] 34 (0, 0)) := by rw [← hW]; exact heap_alloc_new w _
  have hb0 : Below w.heap.size w W := by rw [← hW]; exact (Below.refl _ _).alloc (Nat.le_refl _) _
  have HB0 := Lib.hid hb0
  have HQ0 := Lib.hid q0
  clear hb0 q0 hsg
  by_cases hn : n < 0
  · have hu : IntKind.u64.wrap n = 18446744073709551616 - (m : Int) := by rw [IntKind.wrap_u64]; omega
    have hu2 : IntKind.u64.wrap (-(18446744073709551616 - (m : Int))) = (m : Int) := by rw [IntKind.wrap_u64]; omega
    have hd : decide (n < 0) = true := decide_eq_true hn
    rw [hd] at KW ⊢
    clear hm hd
    go_enter Tryz.func32, Tryz.ntmps32
    go_wp2_with fail
    refine (KO _).mono ?_
    rintro x w1 ⟨v1, rfl, hn1, hb1⟩
    have HN1 := Lib.hid hn1
    have HB1 := Lib.hid (HB0.out.trans (hb1.mono HB0.out.size))
    have HQ1 := Lib.hid ((hb1.block w.heap.size (Array.getElem?_eq_some_iff.1 HQ0.out).1).trans HQ0.out)
    clear hn1 hb1 hW
    go_wp2_with fail
    refine (KW _ _ HN1.out).mono ?_
    rintro x w2 ⟨v2, rfl, hr2, hb2⟩
    have HR2 := Lib.hid hr2
    have HB2 := Lib.hid (HB1.out.trans (hb2.mono HB1.out.size))
    have HQ2 := Lib.hid ((hb2.block w.heap.size (Array.getElem?_eq_some_iff.1 HQ1.out).1).trans HQ1.out)
    clear hr2 hb2
    go_wp2_with fail
    refine (KZ _).mono ?_
    rintro x w3 ⟨v3, rfl, hr3, hb3⟩
    obtain ⟨tvx, bvx, rfl, hn5, hd5⟩ := Rt.R.below HR2.out hb3 (Nat.le_refl _)
    obtain ⟨tvy, bvy, rfl, hn6, hd6⟩ := hr3
    have hb3w := HB2.out.trans (hb3.mono HB2.out.size)
    have hq3 := (hb3.block w.heap.size (Array.getElem?_eq_some_iff.1 HQ2.out).1).trans HQ2.out
    obtain ⟨a9, c9, rfl⟩ := Nt.In.slice hn5
    obtain ⟨a10, c10, rfl⟩ := Nt.In.slice hd5
    obtain ⟨a11, c11, rfl⟩ := Nt.In.slice hn6
    obtain ⟨a12, c12, rfl⟩ := Nt.In.slice hd6
    obtain ⟨X1, X2, X3, X4, X5, X6, ⟨f0, z0, s0⟩, ⟨f1, z1, s1'⟩, ⟨f2, z2, s2'⟩, ⟨f3, z3, s3'⟩, ⟨f4, z4, s4'⟩, ⟨f5, z5, s5'⟩, ⟨r0, r1', r2', r3, r4, r5⟩, HX⟩ := Rt.put6 hq3 (.bool true) (.slice a9 (Nt.dig m).length c9) (.slice a10 (Nt.dig 1).length c10) (.bool false) (.slice a11 (Nt.dig 0).length c11) (.slice a12 (Nt.dig 1).length c12)
    have HOUT : Hid (Rt.Q X6 (.agg #[.bool true, .slice a9 (Nt.dig m).length c9, .slice a10 (Nt.dig 1).length c10, .bool false, .slice a11 (Nt.dig 0).length c11, .slice a12 (Nt.dig 1).length c12]) true m 1 false 0 1 ∧ Below w.heap.size w X6) := Lib.hid ⟨⟨_, _, _, _, rfl, Nt.In.othr hn5 hq3 Rt.noWords6 HX.out.2.2.1 HX.out.2.1, Nt.In.othr hd5 hq3 Rt.noWords6 HX.out.2.2.1 HX.out.2.1, Nt.In.othr hn6 hq3 Rt.noWords6 HX.out.2.2.1 HX.out.2.1, Nt.In.othr hd6 hq3 Rt.noWords6 HX.out.2.2.1 HX.out.2.1⟩, HX.out.2.2.2 _ _ hb3w (Nat.le_refl _)⟩
    clear hn5 hd5 hn6 hd6 hb3w hq3 HX hb3
    generalize (Nt.dig m).length = m1 at *
    generalize (Nt.dig 1).length = m2 at *
    generalize (Nt.dig 0).length = m3 at *
    go_wp2_with fail
    refine bodyPost_ret (v := .agg #[.bool true, .slice a9 m1 c9, .slice a10 m2 c10, .bool false, .slice a11 m3 c11, .slice a12 m2 c12]) (by simp [results, Tryz.results32, go_sem, r0, r1', r2', r3, r4, r5]) rfl ⟨_, rfl, HOUT.out.1, HOUT.out.2⟩
  · have hu : IntKind.u64.wrap n = (m : Int) := by rw [IntKind.wrap_u64]; omega
    have hu3 : n = (m : Int) := by omega
    have hd : decide (n < 0) = false := decide_eq_false hn
    rw [hd] at KW ⊢
    clear hm hd
    subst hu3
    have hu4 : ¬ (m : Int) < 0 := by omega
    clear hu hn
    go_enter Tryz.func32, Tryz.ntmps32
    go_wp2_with fail
    refine (KO _).mono ?_
    rintro x w1 ⟨v1, rfl, hn1, hb1⟩
    have HN1 := Lib.hid hn1
    have HB1 := Lib.hid (HB0.out.trans (hb1.mono HB0.out.size))
    have HQ1 := Lib.hid ((hb1.block w.heap.size (Array.getElem?_eq_some_iff.1 HQ0.out).1).trans HQ0.out)
    clear hn1 hb1 hW
    go_wp2_with fail
    refine (KW _ _ HN1.out).mono ?_
    rintro x w2 ⟨v2, rfl, hr2, hb2⟩
    have HR2 := Lib.hid hr2
    have HB2 := Lib.hid (HB1.out.trans (hb2.mono HB1.out.size))
    have HQ2 := Lib.hid ((hb2.block w.heap.size (Array.getElem?_eq_some_iff.1 HQ1.out).1).trans HQ1.out)
    clear hr2 hb2
    go_wp2_with fail
    refine (KZ _).mono ?_
    rintro x w3 ⟨v3, rfl, hr3, hb3⟩
    obtain ⟨tvx, bvx, rfl, hn5, hd5⟩ := Rt.R.below HR2.out hb3 (Nat.le_refl _)
    obtain ⟨tvy, bvy, rfl, hn6, hd6⟩ := hr3
    have hb3w := HB2.out.trans (hb3.mono HB2.out.size)
    have hq3 := (hb3.block w.heap.size (Array.getElem?_eq_some_iff.1 HQ2.out).1).trans HQ2.out
    obtain ⟨a9, c9, rfl⟩ := Nt.In.slice hn5
    obtain ⟨a10, c10, rfl⟩ := Nt.In.slice hd5
    obtain ⟨a11, c11, rfl⟩ := Nt.In.slice hn6
    obtain ⟨a12, c12, rfl⟩ := Nt.In.slice hd6
    obtain ⟨X1, X2, X3, X4, X5, X6, ⟨f0, z0, s0⟩, ⟨f1, z1, s1'⟩, ⟨f2, z2, s2'⟩, ⟨f3, z3, s3'⟩, ⟨f4, z4, s4'⟩, ⟨f5, z5, s5'⟩, ⟨r0, r1', r2', r3, r4, r5⟩, HX⟩ := Rt.put6 hq3 (.bool false) (.slice a9 (Nt.dig m).length c9) (.slice a10 (Nt.dig 1).length c10) (.bool false) (.slice a11 (Nt.dig 0).length c11) (.slice a12 (Nt.dig 1).length c12)
    have HOUT : Hid (Rt.Q X6 (.agg #[.bool false, .slice a9 (Nt.dig m).length c9, .slice a10 (Nt.dig 1).length c10, .bool false, .slice a11 (Nt.dig 0).length c11, .slice a12 (Nt.dig 1).length c12]) false m 1 false 0 1 ∧ Below w.heap.size w X6) := Lib.hid ⟨⟨_, _, _, _, rfl, Nt.In.othr hn5 hq3 Rt.noWords6 HX.out.2.2.1 HX.out.2.1, Nt.In.othr hd5 hq3 Rt.noWords6 HX.out.2.2.1 HX.out.2.1, Nt.In.othr hn6 hq3 Rt.noWords6 HX.out.2.2.1 HX.out.2.1, Nt.In.othr hd6 hq3 Rt.noWords6 HX.out.2.2.1 HX.out.2.1⟩, HX.out.2.2.2 _ _ hb3w (Nat.le_refl _)⟩
    clear hn5 hd5 hn6 hd6 hb3w hq3 HX hb3
    generalize (Nt.dig m).length = m1 at *
    generalize (Nt.dig 1).length = m2 at *
    generalize (Nt.dig 0).length = m3 at *
    go_wp2_with fail
    refine bodyPost_ret (v := .agg #[.bool false, .slice a9 m1 c9, .slice a10 m2 c10, .bool false, .slice a11 m3 c11, .slice a12 m2 c12]) (by simp [results, Tryz.results32, go_sem, r0, r1', r2', r3, r4, r5]) rfl ⟨_, rfl, HOUT.out.1, HOUT.out.2⟩

/-- Block b is cells that can be written. -/
def Tr.Blk (w : World) (b : Nat) (cur : Array Value) : Prop := ∃ t, w.heap[b]? = some (.cells cur t (0, 0))
theorem Tr.Blk.lt {w : World} {b : Nat} {cur : Array Value} (h : Tr.Blk w b cur) : b < w.heap.size := by
  obtain ⟨t, h⟩ := h
  exact (Array.getElem?_eq_some_iff.1 h).1
theorem Tr.Blk.cell {w : World} {b : Nat} {cur : Array Value} (h : Tr.Blk w b cur) (k : Nat) : w.cell? ⟨b, k, none⟩ = cur[k]? := by
  obtain ⟨t, h⟩ := h
  exact Dt.cell_of h k
theorem Tr.Blk.frozen {w : World} {b : Nat} {cur : Array Value} (h : Tr.Blk w b cur) (k : Nat) : w.frozen? ⟨b, k, none⟩ = false := by
  obtain ⟨t, h⟩ := h
  exact Dt.frozen_of h k
theorem Tr.Blk.set {w : World} {b : Nat} {cur : Array Value} (h : Tr.Blk w b cur) (k : Nat) (u : Value) : Tr.Blk (w.setCell ⟨b, k, none⟩ u) b (cur.set! k u) := by
  obtain ⟨t, h⟩ := h
  exact ⟨t, Dt.setCells h k u⟩
theorem Tr.Blk.kept {w w' : World} {b : Nat} {cur : Array Value} (h : Tr.Blk w b cur) (e : w'.heap[b]? = w.heap[b]?) : Tr.Blk w' b cur := by
  obtain ⟨t, h⟩ := h
  exact ⟨t, e.trans h⟩
/-- One cell stored. -/
theorem Tr.Blk.put {w : World} {b : Nat} {cur : Array Value} (h : Tr.Blk w b cur) (k : Nat) (hk : k < cur.size) (u : Value) :
    ∃ (x : Value) (W : World), w.cell? ⟨b, k, none⟩ = some x ∧ w.frozen? ⟨b, k, none⟩ = false ∧ w.setCell ⟨b, k, none⟩ u = W ∧ Tr.Blk W b (cur.set! k u) ∧ W.heap.size = w.heap.size ∧ (∀ q, q ≠ b → W.heap[q]? = w.heap[q]?) ∧ W.os = w.os ∧ W.tape = w.tape ∧ W.output = w.output :=
  ⟨cur[k], _, by rw [h.cell k, Array.getElem?_eq_getElem hk], h.frozen k, rfl, h.set k u, by simp, fun q hq => Below.heap_setCell _ _ _ _ hq, rfl, rfl, rfl⟩
theorem Tr.set_get (cur : Array Value) (k j : Nat) (u : Value) (hk : k < cur.size) : (cur.set! k u)[j]? = if j = k then some u else cur[j]? := by
  rw [Array.set!_eq_setIfInBounds, Array.getElem?_setIfInBounds]
  by_cases h : k = j
  · subst h; rw [if_pos rfl, if_pos hk, if_pos rfl]
  · rw [if_neg h, if_neg (fun e => h e.symm)]
theorem Tr.set_size (cur : Array Value) (k : Nat) (u : Value) : (cur.set! k u).size = cur.size := by simp
/-- Six cells stored. -/
theorem Tr.Blk.put6 {w : World} {b : Nat} {cur : Array Value} (h : Tr.Blk w b cur) (off : Nat) (hoff : off + 6 ≤ cur.size) (u0 u1 u2 u3 u4 u5 : Value) :
    ∃ (x0 x1 x2 x3 x4 x5 : Value) (W1 W2 W3 W4 W5 W6 : World) (cur' : Array Value),
    (w.cell? ⟨b, off, none⟩ = some x0 ∧ w.frozen? ⟨b, off, none⟩ = false ∧ w.setCell ⟨b, off, none⟩ u0 = W1) ∧
    (W1.cell? ⟨b, off + 1, none⟩ = some x1 ∧ W1.frozen? ⟨b, off + 1, none⟩ = false ∧ W1.setCell ⟨b, off + 1, none⟩ u1 = W2) ∧
    (W2.cell? ⟨b, off + 2, none⟩ = some x2 ∧ W2.frozen? ⟨b, off + 2, none⟩ = false ∧ W2.setCell ⟨b, off + 2, none⟩ u2 = W3) ∧
    (W3.cell? ⟨b, off + 3, none⟩ = some x3 ∧ W3.frozen? ⟨b, off + 3, none⟩ = false ∧ W3.setCell ⟨b, off + 3, none⟩ u3 = W4) ∧
    (W4.cell? ⟨b, off + 4, none⟩ = some x4 ∧ W4.frozen? ⟨b, off + 4, none⟩ = false ∧ W4.setCell ⟨b, off + 4, none⟩ u4 = W5) ∧
    (W5.cell? ⟨b, off + 5, none⟩ = some x5 ∧ W5.frozen? ⟨b, off + 5, none⟩ = false ∧ W5.setCell ⟨b, off + 5, none⟩ u5 = W6) ∧
    Hid (Tr.Blk W6 b cur' ∧ cur'.size = cur.size ∧ W6.heap.size = w.heap.size ∧ (∀ q, q ≠ b → W6.heap[q]? = w.heap[q]?) ∧ (∀ j, j < 6 → cur'[off + j]? = (#[u0, u1, u2, u3, u4, u5] : Array Value)[j]?) ∧ (∀ o, (o < off ∨ off + 6 ≤ o) → cur'[o]? = cur[o]?) ∧ (W6.os = w.os ∧ W6.tape = w.tape ∧ W6.output = w.output)) := by
  obtain ⟨x0, W1, f0, z0, s0, g1, n0, o0, p0, q0, r0⟩ := h.put (off + 0) (by first | omega | (simp only [Tr.set_size]; omega)) u0
  obtain ⟨x1, W2, f1, z1, s1, g2, n1, o1, p1, q1, r1⟩ := g1.put (off + 1) (by first | omega | (simp only [Tr.set_size]; omega)) u1
  obtain ⟨x2, W3, f2, z2, s2, g3, n2, o2, p2, q2, r2⟩ := g2.put (off + 2) (by first | omega | (simp only [Tr.set_size]; omega)) u2
  obtain ⟨x3, W4, f3, z3, s3, g4, n3, o3, p3, q3, r3⟩ := g3.put (off + 3) (by first | omega | (simp only [Tr.set_size]; omega)) u3
  obtain ⟨x4, W5, f4, z4, s4, g5, n4, o4, p4, q4, r4⟩ := g4.put (off + 4) (by first | omega | (simp only [Tr.set_size]; omega)) u4
  obtain ⟨x5, W6, f5, z5, s5, g6, n5, o5, p5, q5, r5⟩ := g5.put (off + 5) (by first | omega | (simp only [Tr.set_size]; omega)) u5
  refine ⟨x0, x1, x2, x3, x4, x5, W1, W2, W3, W4, W5, W6, _, ⟨f0, z0, s0⟩, ⟨f1, z1, s1⟩, ⟨f2, z2, s2⟩, ⟨f3, z3, s3⟩, ⟨f4, z4, s4⟩, ⟨f5, z5, s5⟩, Lib.hid ⟨g6, by simp only [Tr.set_size], by omega, fun q hq => ?_, fun j hj => ?_, fun o ho => ?_, ?_⟩⟩
  · rw [o5 q hq, o4 q hq, o3 q hq, o2 q hq, o1 q hq, o0 q hq]
  · repeat rw [Tr.set_get _ _ _ _ (by first | omega | (simp only [Tr.set_size]; omega))]
    rcases (show j = 0 ∨ j = 1 ∨ j = 2 ∨ j = 3 ∨ j = 4 ∨ j = 5 by omega) with rfl | rfl | rfl | rfl | rfl | rfl <;> simp
  · repeat rw [Tr.set_get _ _ _ _ (by first | omega | (simp only [Tr.set_size]; omega))]
    repeat rw [if_neg (by omega)]
  · exact ⟨by rw [p5, p4, p3, p2, p1, p0], by rw [q5, q4, q3, q2, q1, q0], by rw [r5, r4, r3, r2, r1, r0]⟩
/-- Eleven cells stored. -/
theorem Tr.Blk.put11 {w : World} {b : Nat} {cur : Array Value} (h : Tr.Blk w b cur) (off : Nat) (hoff : off + 11 ≤ cur.size) (u0 u1 u2 u3 u4 u5 u6 u7 u8 u9 u10 : Value) :
    ∃ (x0 x1 x2 x3 x4 x5 x6 x7 x8 x9 x10 : Value) (W1 W2 W3 W4 W5 W6 W7 W8 W9 W10 W11 : World) (cur' : Array Value),
    (w.cell? ⟨b, off, none⟩ = some x0 ∧ w.frozen? ⟨b, off, none⟩ = false ∧ w.setCell ⟨b, off, none⟩ u0 = W1) ∧
    (W1.cell? ⟨b, off + 1, none⟩ = some x1 ∧ W1.frozen? ⟨b, off + 1, none⟩ = false ∧ W1.setCell ⟨b, off + 1, none⟩ u1 = W2) ∧
    (W2.cell? ⟨b, off + 2, none⟩ = some x2 ∧ W2.frozen? ⟨b, off + 2, none⟩ = false ∧ W2.setCell ⟨b, off + 2, none⟩ u2 = W3) ∧
    (W3.cell? ⟨b, off + 3, none⟩ = some x3 ∧ W3.frozen? ⟨b, off + 3, none⟩ = false ∧ W3.setCell ⟨b, off + 3, none⟩ u3 = W4) ∧
    (W4.cell? ⟨b, off + 4, none⟩ = some x4 ∧ W4.frozen? ⟨b, off + 4, none⟩ = false ∧ W4.setCell ⟨b, off + 4, none⟩ u4 = W5) ∧
    (W5.cell? ⟨b, off + 5, none⟩ = some x5 ∧ W5.frozen? ⟨b, off + 5, none⟩ = false ∧ W5.setCell ⟨b, off + 5, none⟩ u5 = W6) ∧
    (W6.cell? ⟨b, off + 6, none⟩ = some x6 ∧ W6.frozen? ⟨b, off + 6, none⟩ = false ∧ W6.setCell ⟨b, off + 6, none⟩ u6 = W7) ∧
    (W7.cell? ⟨b, off + 7, none⟩ = some x7 ∧ W7.frozen? ⟨b, off + 7, none⟩ = false ∧ W7.setCell ⟨b, off + 7, none⟩ u7 = W8) ∧
    (W8.cell? ⟨b, off + 8, none⟩ = some x8 ∧ W8.frozen? ⟨b, off + 8, none⟩ = false ∧ W8.setCell ⟨b, off + 8, none⟩ u8 = W9) ∧
    (W9.cell? ⟨b, off + 9, none⟩ = some x9 ∧ W9.frozen? ⟨b, off + 9, none⟩ = false ∧ W9.setCell ⟨b, off + 9, none⟩ u9 = W10) ∧
    (W10.cell? ⟨b, off + 10, none⟩ = some x10 ∧ W10.frozen? ⟨b, off + 10, none⟩ = false ∧ W10.setCell ⟨b, off + 10, none⟩ u10 = W11) ∧
    Hid (Tr.Blk W11 b cur' ∧ cur'.size = cur.size ∧ W11.heap.size = w.heap.size ∧ (∀ q, q ≠ b → W11.heap[q]? = w.heap[q]?) ∧ (∀ j, j < 11 → cur'[off + j]? = (#[u0, u1, u2, u3, u4, u5, u6, u7, u8, u9, u10] : Array Value)[j]?) ∧ (∀ o, (o < off ∨ off + 11 ≤ o) → cur'[o]? = cur[o]?) ∧ (W11.os = w.os ∧ W11.tape = w.tape ∧ W11.output = w.output)) := by
  obtain ⟨x0, W1, f0, z0, s0, g1, n0, o0, p0, q0, r0⟩ := h.put (off + 0) (by first | omega | (simp only [Tr.set_size]; omega)) u0
  obtain ⟨x1, W2, f1, z1, s1, g2, n1, o1, p1, q1, r1⟩ := g1.put (off + 1) (by first | omega | (simp only [Tr.set_size]; omega)) u1
  obtain ⟨x2, W3, f2, z2, s2, g3, n2, o2, p2, q2, r2⟩ := g2.put (off + 2) (by first | omega | (simp only [Tr.set_size]; omega)) u2
  obtain ⟨x3, W4, f3, z3, s3, g4, n3, o3, p3, q3, r3⟩ := g3.put (off + 3) (by first | omega | (simp only [Tr.set_size]; omega)) u3
  obtain ⟨x4, W5, f4, z4, s4, g5, n4, o4, p4, q4, r4⟩ := g4.put (off + 4) (by first | omega | (simp only [Tr.set_size]; omega)) u4
  obtain ⟨x5, W6, f5, z5, s5, g6, n5, o5, p5, q5, r5⟩ := g5.put (off + 5) (by first | omega | (simp only [Tr.set_size]; omega)) u5
  obtain ⟨x6, W7, f6, z6, s6, g7, n6, o6, p6, q6, r6⟩ := g6.put (off + 6) (by first | omega | (simp only [Tr.set_size]; omega)) u6
  obtain ⟨x7, W8, f7, z7, s7, g8, n7, o7, p7, q7, r7⟩ := g7.put (off + 7) (by first | omega | (simp only [Tr.set_size]; omega)) u7
  obtain ⟨x8, W9, f8, z8, s8, g9, n8, o8, p8, q8, r8⟩ := g8.put (off + 8) (by first | omega | (simp only [Tr.set_size]; omega)) u8
  obtain ⟨x9, W10, f9, z9, s9, g10, n9, o9, p9, q9, r9⟩ := g9.put (off + 9) (by first | omega | (simp only [Tr.set_size]; omega)) u9
  obtain ⟨x10, W11, f10, z10, s10, g11, n10, o10, p10, q10, r10⟩ := g10.put (off + 10) (by first | omega | (simp only [Tr.set_size]; omega)) u10
  refine ⟨x0, x1, x2, x3, x4, x5, x6, x7, x8, x9, x10, W1, W2, W3, W4, W5, W6, W7, W8, W9, W10, W11, _, ⟨f0, z0, s0⟩, ⟨f1, z1, s1⟩, ⟨f2, z2, s2⟩, ⟨f3, z3, s3⟩, ⟨f4, z4, s4⟩, ⟨f5, z5, s5⟩, ⟨f6, z6, s6⟩, ⟨f7, z7, s7⟩, ⟨f8, z8, s8⟩, ⟨f9, z9, s9⟩, ⟨f10, z10, s10⟩, Lib.hid ⟨g11, by simp only [Tr.set_size], by omega, fun q hq => ?_, fun j hj => ?_, fun o ho => ?_, ?_⟩⟩
  · rw [o10 q hq, o9 q hq, o8 q hq, o7 q hq, o6 q hq, o5 q hq, o4 q hq, o3 q hq, o2 q hq, o1 q hq, o0 q hq]
  · repeat rw [Tr.set_get _ _ _ _ (by first | omega | (simp only [Tr.set_size]; omega))]
    rcases (show j = 0 ∨ j = 1 ∨ j = 2 ∨ j = 3 ∨ j = 4 ∨ j = 5 ∨ j = 6 ∨ j = 7 ∨ j = 8 ∨ j = 9 ∨ j = 10 by omega) with rfl | rfl | rfl | rfl | rfl | rfl | rfl | rfl | rfl | rfl | rfl <;> simp
  · repeat rw [Tr.set_get _ _ _ _ (by first | omega | (simp only [Tr.set_size]; omega))]
    repeat rw [if_neg (by omega)]
  · exact ⟨by rw [p10, p9, p8, p7, p6, p5, p4, p3, p2, p1, p0], by rw [q10, q9, q8, q7, q6, q5, q4, q3, q2, q1, q0], by rw [r10, r9, r8, r7, r6, r5, r4, r3, r2, r1, r0]⟩

mutual
/-- Each node is sound by its kind. -/
def Tr.good : Tr → Prop
  | .mk h l => h.shape l.length = true ∧ Tr.goodL l
def Tr.goodL : List Tr → Prop
  | [] => True
  | t :: ts => Tr.good t ∧ Tr.goodL ts
end
theorem Tr.good_mk {h : Tr.Hd} {l : List Tr} : Tr.good (.mk h l) ↔ h.shape l.length = true ∧ Tr.goodL l := by rw [Tr.good]
theorem Tr.goodL_cons {t : Tr} {ts : List Tr} : Tr.goodL (t :: ts) ↔ Tr.good t ∧ Tr.goodL ts := by rw [Tr.goodL]
theorem Tr.goodL_nil : Tr.goodL [] := by rw [Tr.goodL]; trivial
theorem Tr.goodL_at : ∀ (l : List Tr), Tr.goodL l → ∀ (k : Nat) (t : Tr), l[k]? = some t → Tr.good t
  | [], _, k, t, h => by simp at h
  | x :: ts, hg, 0, t, h => by
    obtain rfl : x = t := by simpa using h
    exact (Tr.goodL_cons.1 hg).1
  | x :: ts, hg, k + 1, t, h => Tr.goodL_at ts (Tr.goodL_cons.1 hg).2 k t (by simpa using h)
mutual
theorem Tr.snd_good : ∀ (t : Tr) (d : Nat) (left : Int), (Tr.snd t d left).1 = true → Tr.good t
  | .mk h l, d, left, hs => by
    by_cases hb : left - 1 < 0 ∨ 200 < d ∨ h.shape l.length = false
    · rw [Tr.snd_bad hb] at hs; cases hs
    · have hsh : h.shape l.length = true := by
        cases e : h.shape l.length with
        | true => rfl
        | false => exact absurd (Or.inr (Or.inr e)) hb
      rw [Tr.good_mk]
      refine ⟨hsh, ?_⟩
      by_cases hk : h.k = 8
      · have hl := Tr.Hd.shape_pair hsh hk
        match l, hl with
        | [a, b], _ =>
          rw [Tr.snd_pair hb hk] at hs
          split at hs
          · rename_i h1
            exact Tr.goodL_cons.2 ⟨Tr.snd_good a _ _ h1, Tr.goodL_cons.2 ⟨Tr.snd_good b _ _ hs, Tr.goodL_nil⟩⟩
          · cases hs
      · rw [Tr.snd_list hb hk] at hs
        exact Tr.sndL_good l _ _ hs
theorem Tr.sndL_good : ∀ (l : List Tr) (d : Nat) (left : Int), (Tr.sndL l d left).1 = true → Tr.goodL l
  | [], d, left, _ => Tr.goodL_nil
  | t :: ts, d, left, hs => by
    rw [Tr.sndL_cons] at hs
    split at hs
    · rename_i h1
      exact Tr.goodL_cons.2 ⟨Tr.snd_good t _ _ h1, Tr.sndL_good ts _ _ hs⟩
    · cases hs
end
theorem Tr.sound_good {t : Tr} (h : Tr.sound t = true) : Tr.good t := Tr.snd_good t _ _ h
/-- A datum but for one node, which lies at oA in block bA: whatever stands there as 'cu' makes 't' of what stands at OB. -/
def Tr.Hole (B0 : Nat) (wr : World) (bA oA OB : Nat) (t cu : Tr) : Prop := ∀ (w'' : World) (C' : Array Value), wr.heap.size ≤ w''.heap.size → (∀ q, B0 ≤ q → q < wr.heap.size → q ≠ bA → w''.heap[q]? = wr.heap[q]?) → (∀ o, o < oA → w''.cell? ⟨bA, o, none⟩ = wr.cell? ⟨bA, o, none⟩) → Tr.In w'' (fun q => B0 ≤ q) cu (.agg C') → Tr.Mem w'' bA oA C' → ∃ Cout, Tr.Mem w'' OB 0 Cout ∧ Tr.In w'' (fun q => B0 ≤ q) t (.agg Cout)
theorem Tr.Hole.start (B0 : Nat) (w : World) (OB : Nat) (t : Tr) : Tr.Hole B0 w OB 0 OB t t := fun w'' C' _ _ _ hI hM => ⟨C', hM, hI⟩
theorem Tr.Hole.kept {B0 : Nat} {wr wr' : World} {bA oA OB : Nat} {t cu : Tr} (h : Tr.Hole B0 wr bA oA OB t cu) (hz : wr.heap.size ≤ wr'.heap.size) (hk : ∀ q, B0 ≤ q → q < wr.heap.size → q ≠ bA → wr'.heap[q]? = wr.heap[q]?) (hc : ∀ o, o < oA → wr'.cell? ⟨bA, o, none⟩ = wr.cell? ⟨bA, o, none⟩) : Tr.Hole B0 wr' bA oA OB t cu :=
  fun w'' C' h1 h2 h3 hI hM => h w'' C' (Nat.le_trans hz h1) (fun q a b c => (h2 q a (Nat.lt_of_lt_of_le b hz) c).trans (hk q a b c)) (fun o ho => (h3 o ho).trans (hc o ho)) hI hM
/-- Words that are none: their slice lies anywhere. -/
theorem Tr.none_in {w w' : World} {v : Value} {ws : List Nat} (h : Nt.In w v ws) (h0 : ws.length = 0) : Nt.In w' v ws := by
  rcases h with h | h | ⟨h1, _⟩
  · exact .inl h
  · exact .inr (.inl h)
  · omega
theorem Tr.On.zero (S : Nat → Prop) (v : Value) : Tr.On S v 0 := fun h => absurd h (by omega)
/-- The next hole: a pair whose first datum is copied and whose second is to be copied. -/
theorem Tr.Hole.next {B0 : Nat} {w0 wr : World} {bA oA OB Lb : Nat} {t : Tr} {hc : Tr.Hd} {a b : Tr} {u3 u4 u6 u7 v9 : Value} {Ca : Array Value}
    (h : Tr.Hole B0 w0 bA oA OB t (.mk hc [a, b])) (hz0 : w0.heap.size ≤ Lb) (hk0 : ∀ q, B0 ≤ q → q < w0.heap.size → q ≠ bA → wr.heap[q]? = w0.heap[q]?) (hc0 : ∀ o, o < oA → wr.cell? ⟨bA, o, none⟩ = w0.cell? ⟨bA, o, none⟩) (hlt : bA < wr.heap.size) (hLlt : Lb < wr.heap.size) (hne : bA ≠ Lb) (hB : B0 ≤ bA) (hBL : B0 ≤ Lb)
    (hH : Tr.Hd.In wr (fun q => B0 ≤ q ∧ q ≠ Lb) hc u3 u4 u6 u7 v9) (hA : Tr.In wr (fun q => B0 ≤ q ∧ q ≠ Lb) a (.agg Ca)) (hMA : Tr.Mem wr Lb 0 Ca)
    (hM : Tr.Mem wr bA oA (Tr.cells hc u3 u4 u6 u7 v9 (.slice (some ⟨Lb, 0, none⟩) 2 2))) : Tr.Hole B0 wr Lb 11 OB t b := by
  intro w'' C' h1 h2 h3 hI hMb
  have hk : Tr.Kept (fun q => B0 ≤ q ∧ q ≠ Lb) wr w'' := ⟨h1, fun q hq hl => h2 q hq.1 hl hq.2⟩
  have hM'' : Tr.Mem w'' bA oA (Tr.cells hc u3 u4 u6 u7 v9 (.slice (some ⟨Lb, 0, none⟩) 2 2)) := hM.kept hk ⟨hB, hne⟩ hlt
  have hMA'' : Tr.Mem w'' Lb 0 Ca := fun j hj => by
    obtain ⟨u, e1, e2⟩ := hMA j hj
    exact ⟨u, e1, (h3 (0 + j) (by omega)).trans e2⟩
  refine h w'' _ (by omega) (fun q q1 q2 q3 => (h2 q q1 (by omega) (by omega)).trans (hk0 q q1 q2 q3)) (fun o ho => (hk.cell ⟨hB, hne⟩ hlt).trans (hc0 o ho)) (?_ : Tr.In w'' (fun q => B0 ≤ q) (.mk hc [a, b]) (.agg (Tr.cells hc u3 u4 u6 u7 v9 (.slice (some ⟨Lb, 0, none⟩) 2 2)))) hM''
  rw [Tr.In_mk]
  refine ⟨u3, u4, u6, u7, v9, _, rfl, (hH.kept hk).mono (fun q hq => hq.1), .inr (.inr ⟨by simp, Lb, 0, 2, by simp, by simp, by decide, Nat.lt_of_lt_of_le hLlt h1, hBL, ?_⟩)⟩
  show Tr.All w'' (fun q => B0 ≤ q) [a, b] Lb 0
  rw [Tr.All_cons, Tr.All_cons]
  exact ⟨⟨Ca, Tr.In.mono (fun q hq => hq.1) a _ (Tr.In.kept hk a _ hA), hMA''⟩, ⟨C', hI, by simpa using hMb⟩, Tr.All_nil⟩
theorem Tr.Blk.mem {w : World} {b off : Nat} {cur C : Array Value} (h : Tr.Blk w b cur) (hm : ∀ j, j < 11 → cur[off + j]? = C[j]?) (hC : C.size = 11) : Tr.Mem w b off C := fun j hj =>
  ⟨C[j]'(by omega), Array.getElem?_eq_getElem _, (h.cell _).trans ((hm j hj).trans (Array.getElem?_eq_getElem _))⟩
theorem Tr.cases11 {P : Nat → Prop} (h0 : P 0) (h1 : P 1) (h2 : P 2) (h3 : P 3) (h4 : P 4) (h5 : P 5) (h6 : P 6) (h7 : P 7) (h8 : P 8) (h9 : P 9) (h10 : P 10) : ∀ j, j < 11 → P j := by
  intro j hj
  rcases (show j = 0 ∨ j = 1 ∨ j = 2 ∨ j = 3 ∨ j = 4 ∨ j = 5 ∨ j = 6 ∨ j = 7 ∨ j = 8 ∨ j = 9 ∨ j = 10 by omega) with rfl | rfl | rfl | rfl | rfl | rfl | rfl | rfl | rfl | rfl | rfl <;> assumption
theorem Tr.mem_set9 {cur : Array Value} {off : Nat} {h : Tr.Hd} {u3 u4 u6 u7 u9 u10 : Value} (hm : ∀ j, j < 11 → cur[off + j]? = (Tr.cells h u3 u4 u6 u7 u9 u10)[j]?) (hs : off + 11 ≤ cur.size) (v : Value) : ∀ j, j < 11 → (cur.set! (off + 9) v)[off + j]? = (Tr.cells h u3 u4 u6 u7 v u10)[j]? := by
  intro j hj
  rw [Tr.set_get _ _ _ _ (by omega)]
  by_cases e : j = 9
  · subst e; rw [if_pos rfl]; rfl
  · rw [if_neg (by omega), hm j hj]
    rcases (show j = 0 ∨ j = 1 ∨ j = 2 ∨ j = 3 ∨ j = 4 ∨ j = 5 ∨ j = 6 ∨ j = 7 ∨ j = 8 ∨ j = 10 by omega) with rfl | rfl | rfl | rfl | rfl | rfl | rfl | rfl | rfl | rfl <;> rfl
theorem Tr.mem_set10 {cur : Array Value} {off : Nat} {h : Tr.Hd} {u3 u4 u6 u7 u9 u10 : Value} (hm : ∀ j, j < 11 → cur[off + j]? = (Tr.cells h u3 u4 u6 u7 u9 u10)[j]?) (hs : off + 11 ≤ cur.size) (v : Value) : ∀ j, j < 11 → (cur.set! (off + 10) v)[off + j]? = (Tr.cells h u3 u4 u6 u7 u9 v)[j]? := by
  intro j hj
  rw [Tr.set_get _ _ _ _ (by omega)]
  by_cases e : j = 10
  · subst e; rw [if_pos rfl]; rfl
  · rw [if_neg (by omega), hm j hj]
    rcases (show j = 0 ∨ j = 1 ∨ j = 2 ∨ j = 3 ∨ j = 4 ∨ j = 5 ∨ j = 6 ∨ j = 7 ∨ j = 8 ∨ j = 9 by omega) with rfl | rfl | rfl | rfl | rfl | rfl | rfl | rfl | rfl | rfl <;> rfl
/-- The number's six cells, stored anew. -/
theorem Tr.mem_set6 {cur cur' : Array Value} {off : Nat} {h : Tr.Hd} {u3 u4 u6 u7 u9 u10 v3 v4 v6 v7 : Value} (hm : ∀ j, j < 11 → cur[off + j]? = (Tr.cells h u3 u4 u6 u7 u9 u10)[j]?) (h6 : ∀ j, j < 6 → cur'[off + 2 + j]? = (#[.bool h.s1, v3, v4, .bool h.s2, v6, v7] : Array Value)[j]?) (ho : ∀ o, (o < off + 2 ∨ off + 2 + 6 ≤ o) → cur'[o]? = cur[o]?) : ∀ j, j < 11 → cur'[off + j]? = (Tr.cells h v3 v4 v6 v7 u9 u10)[j]? := by
  refine Tr.cases11 ?_ ?_ ?_ ?_ ?_ ?_ ?_ ?_ ?_ ?_ ?_
  · exact (ho _ (by omega)).trans (hm 0 (by decide))
  · exact (ho _ (by omega)).trans (hm 1 (by decide))
  · exact h6 0 (by decide)
  · exact h6 1 (by decide)
  · exact h6 2 (by decide)
  · exact h6 3 (by decide)
  · exact h6 4 (by decide)
  · exact h6 5 (by decide)
  · exact (ho _ (by omega)).trans (hm 8 (by decide))
  · exact (ho _ (by omega)).trans (hm 9 (by decide))
  · exact (ho _ (by omega)).trans (hm 10 (by decide))
theorem Tr.Hole.setAt {B0 : Nat} {wr wr' : World} {bA oA OB : Nat} {t cu : Tr} {cur cur' : Array Value} (h : Tr.Hole B0 wr bA oA OB t cu) (hz : wr.heap.size ≤ wr'.heap.size) (hk : ∀ q, q ≠ bA → q < wr.heap.size → B0 ≤ q → wr'.heap[q]? = wr.heap[q]?) (h1 : Tr.Blk wr bA cur) (h2 : Tr.Blk wr' bA cur') (ho : ∀ o, o < oA → cur'[o]? = cur[o]?) : Tr.Hole B0 wr' bA oA OB t cu :=
  h.kept hz (fun q a b c => hk q c b a) (fun o hlt => by rw [h2.cell, h1.cell, ho o hlt])
theorem Tr.num_none {h : Tr.Hd} {n : Nat} (hs : h.shape n = true) (hk : h.k ≠ 3) : h.t1.length = 0 ∧ h.b1.length = 0 ∧ h.t2.length = 0 ∧ h.b2.length = 0 := by
  unfold Tr.Hd.shape at hs
  simp only [Bool.and_eq_true] at hs
  have h1 := hs.1.1.1.1
  unfold Tr.Hd.num at h1
  rw [if_neg hk] at h1
  unfold Rt.noRat at h1
  simp only [Bool.and_eq_true, decide_eq_true_eq] at h1
  exact ⟨h1.1.1.2, h1.1.2, h1.2.1.2, h1.2.2⟩
theorem Tr.num_sound {h : Tr.Hd} {n : Nat} (hs : h.shape n = true) (hk : h.k = 3) : Rt.sound h.s1 h.t1 h.b1 = true ∧ Rt.sound h.s2 h.t2 h.b2 = true := by
  unfold Tr.Hd.shape at hs
  simp only [Bool.and_eq_true] at hs
  have h1 := hs.1.1.1.1
  unfold Tr.Hd.num at h1
  rw [if_pos hk] at h1
  simpa using h1
theorem Rt.FrN.open {B B' : Nat} {s tv bv s2 tv2 bv2 : Value} (h : Rt.FrN B (.agg #[s, tv, bv, s2, tv2, bv2])) (hB : B' ≤ B) : Nt.Fr B' tv ∧ Nt.Fr B' bv ∧ Nt.Fr B' tv2 ∧ Nt.Fr B' bv2 := by
  obtain ⟨x0, x1, x2, x3, x4, x5, e, h1, h2, h3, h4⟩ := h
  simp only [Value.agg.injEq] at e
  have e1 : tv = x1 := by have := congrArg (fun a : Array Value => a[1]?) e; simpa using this
  have e2 : bv = x2 := by have := congrArg (fun a : Array Value => a[2]?) e; simpa using this
  have e4 : tv2 = x4 := by have := congrArg (fun a : Array Value => a[4]?) e; simpa using this
  have e5 : bv2 = x5 := by have := congrArg (fun a : Array Value => a[5]?) e; simpa using this
  subst e1 e2 e4 e5
  exact ⟨h1.mono hB, h2.mono hB, h3.mono hB, h4.mono hB⟩
def Tr.zeroV : Value := .agg #[.int .i64 0, .int .i64 0, .bool false, .slice none 0 0, .slice none 0 0, .bool false, .slice none 0 0, .slice none 0 0, .string ⟨#[]⟩, .slice none 0 0, .slice none 0 0]
theorem Tr.infoD : (Tryz.prog.info? 37).map (fun i => (i.zero, i.size, i.bytes)) = some (some Tr.zeroV, 11, 192) := by kernel_rfl
/-- A row of n data is made. -/
theorem Tr.make (n : Nat) (w : World) (hn : n ≤ 1000000) : ∃ cur : Array Value, cur.size = n * 11 ∧ (Instr.makeSlice 35 (.int .i64 (n : Int)) (.int .i64 (n : Int))).run Tryz.prog w = .ok (.slice (some ⟨w.heap.size, 0, none⟩) n n) (w.alloc (.cells cur 37)) := by
  obtain ⟨i0, hi, hz0, hz1, hz2⟩ := info_parts Tr.infoD
  have := run_makeSlice (P := Tryz.prog) w 35 37 i0 Tr.zeroV Tryz.underlying35 hi hz0 .i64 .i64 n n (by omega) (by omega) (by rw [hz1]; omega) (by rw [hz2]; omega) (by omega)
  refine ⟨_, ?_, by rw [this]; rfl⟩
  simp [madeCells, hz1]
theorem Tr.len_le_size : ∀ (l : List Tr), l.length ≤ Tr.sizeL l
  | [] => Nat.zero_le _
  | t :: ts => by
    have := Tr.len_le_size ts
    have := Tr.size_pos t
    rw [Tr.sizeL_cons, List.length_cons]; omega
mutual
theorem Tr.snd_left : ∀ (t : Tr) (d : Nat) (left : Int), (Tr.snd t d left).1 = true → (Tr.snd t d left).2 = left - Tr.size t
  | .mk h l, d, left, hs => by
    by_cases hb : left - 1 < 0 ∨ 200 < d ∨ h.shape l.length = false
    · rw [Tr.snd_bad hb] at hs; cases hs
    · have hsh : h.shape l.length = true := by
        cases e : h.shape l.length with
        | true => rfl
        | false => exact absurd (Or.inr (Or.inr e)) hb
      rw [Tr.size_mk]
      by_cases hk : h.k = 8
      · have hl := Tr.Hd.shape_pair hsh hk
        match l, hl with
        | [a, b], _ =>
          rw [Tr.snd_pair hb hk] at hs ⊢
          split at hs
          · rename_i h1
            rw [if_pos h1, Tr.snd_left b _ _ hs, Tr.snd_left a _ _ h1, Tr.sizeL_cons, Tr.sizeL_cons, Tr.sizeL_nil]
            omega
          · cases hs
      · rw [Tr.snd_list hb hk] at hs ⊢
        rw [Tr.sndL_left l _ _ hs]
        omega
theorem Tr.sndL_left : ∀ (l : List Tr) (d : Nat) (left : Int), (Tr.sndL l d left).1 = true → (Tr.sndL l d left).2 = left - Tr.sizeL l
  | [], d, left, _ => by rw [Tr.sndL_nil, Tr.sizeL_nil]; simp
  | t :: ts, d, left, hs => by
    rw [Tr.sndL_cons] at hs ⊢
    split at hs
    · rename_i h1
      rw [if_pos h1, Tr.sndL_left ts _ _ hs, Tr.snd_left t _ _ h1, Tr.sizeL_cons]
      omega
    · cases hs
end
/-- A sound datum has so many nodes at most. -/
theorem Tr.sound_size {t : Tr} (h : Tr.sound t = true) : Tr.size t ≤ 20000 := by
  have h1 := Tr.snd_left t 1 20000 h
  have h2 := (Tr.snd_le t 1 20000 (by decide)).2 h
  omega

theorem Tr.On.top {w : World} {S : Nat → Prop} {v : Value} {ws : List Nat} (i : Nt.In w v ws) (o : Tr.On S v ws.length) : Tr.On (fun q => S q ∧ q < w.heap.size) v ws.length := by
  rcases i with ⟨_, e⟩ | ⟨_, _, _, e⟩ | ⟨h0, b, off, cap, hv, _, hl, _⟩
  · rw [e]; exact fun h => absurd h (Nat.lt_irrefl 0)
  · rw [e]; exact fun h => absurd h (Nat.lt_irrefl 0)
  · intro _ b' off' l' c' e
    rw [hv] at e
    cases e
    exact ⟨o h0 _ _ _ _ hv, hl⟩
theorem Tr.On.topB {w : World} {S : Nat → Prop} {v : Value} {s : ByteArray} (i : By.In w v s) (o : Tr.On S v s.size) : Tr.On (fun q => S q ∧ q < w.heap.size) v s.size := by
  rcases i with ⟨_, e⟩ | ⟨_, _, _, e⟩ | ⟨h0, b, off, cap, hv, _, hl, _⟩
  · rw [e]; exact fun h => absurd h (Nat.lt_irrefl 0)
  · rw [e]; exact fun h => absurd h (Nat.lt_irrefl 0)
  · intro _ b' off' l' c' e
    rw [hv] at e
    cases e
    exact ⟨o h0 _ _ _ _ hv, hl⟩
/-- What a head lies in is below the heap's end. -/
theorem Tr.Hd.In.top {w : World} {S : Nat → Prop} {h : Tr.Hd} {v3 v4 v6 v7 v9 : Value} (i : Tr.Hd.In w S h v3 v4 v6 v7 v9) : Tr.Hd.In w (fun q => S q ∧ q < w.heap.size) h v3 v4 v6 v7 v9 :=
  ⟨i.ok, i.i3, i.i4, i.i6, i.i7, i.i9, Tr.On.top i.i3 i.o3, Tr.On.top i.i4 i.o4, Tr.On.top i.i6 i.o6, Tr.On.top i.i7 i.o7, Tr.On.topB i.i9 i.o9⟩

mutual
theorem Tr.In.top {w : World} {S : Nat → Prop} : ∀ (t : Tr) (v : Value), Tr.In w S t v → Tr.In w (fun q => S q ∧ q < w.heap.size) t v
  | .mk h l, v, hI => by
    rw [Tr.In_mk] at hI ⊢
    obtain ⟨v3, v4, v6, v7, v9, v10, e, hH, hL⟩ := hI
    refine ⟨v3, v4, v6, v7, v9, v10, e, hH.top, ?_⟩
    rcases hL with h0 | h0 | ⟨h0, b, off, cap, hv, h1, h2, h3, h4, h5⟩
    · exact .inl h0
    · exact .inr (.inl h0)
    · exact .inr (.inr ⟨h0, b, off, cap, hv, h1, h2, h3, ⟨h4, h3⟩, Tr.All.top l b off h5⟩)
theorem Tr.All.top {w : World} {S : Nat → Prop} : ∀ (l : List Tr) (b off : Nat), Tr.All w S l b off → Tr.All w (fun q => S q ∧ q < w.heap.size) l b off
  | [], _, _, _ => Tr.All_nil
  | t :: ts, b, off, h => by
    rw [Tr.All_cons] at h ⊢
    obtain ⟨⟨C, hI, hM⟩, hr⟩ := h
    exact ⟨⟨C, Tr.In.top t _ hI, hM⟩, Tr.All.top ts b (off + 11) hr⟩
end
end Go.Proofs.YtdjllmogejkimaaGreatDoor
