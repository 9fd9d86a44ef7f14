/-
  exact.check of one sound number, and of two real ones.
  The reference's Alike at equal numbers.
  exact.Text of a real number, in tens.
  The reference's fractions as texts: ratText, Same, RatSame, Minus, Radix.
  The reference's RatSound and Sound of any number.
  The reference's Sound of a number of two fractions; noRat; IsChar.
  Small hexadecimal digits, in plain Lean.
  The characters' plain functions: what package chars computes for one character, said as Lean functions on Int, with no program in sight. No conditions.
  Texts in capitals and folded, in plain Lean: Upcase and Fold, and their laws: folded twice is folded once, capitals fold as the text does, capitals of capitals are those. No conditions.
  What write writes of characters, of a string's text and of a symbol, in plain Lean.
  datum.Sound of a leaf (the empty list, a truth value, a text, a symbol) whose text is short and plain.
  datum.Sound and datum.Copy of a leaf.
  A store of eleven cells into a box.
  datum.shape of any node.
-/
import Derived.WalkKit
import Derived.Test.YtikmebkfdpbidaaGreatDoorProg
import Derived.WalkSpells
import Derived.WalkLawsBesides
import Derived.Handy
import Derived.BigCall
import Derived.Lib.Hide
import Derived.Outline
import Derived.Test.YtikmebkfdpbidaaGreatDoorShelf
import Derived.Deep.DeepCutAuto
import Derived.Test.YtikmebkfdpbidaaGreatDoorWe
import Derived.Test.YtikmebkfdpbidaaGreatDoorWc
import Derived.Test.YtikmebkfdpbidaaGreatDoorWd
import Derived.Test.YtikmebkfdpbidaaGreatDoorWa
namespace Go.Proofs.YtikmebkfdpbidaaGreatDoor
open Go.RowKit
set_option linter.unusedVariables false
set_option linter.unusedSimpArgs false

set_option maxHeartbeats 2000000 in
set_option maxRecDepth 1000000 in
theorem Tx.chk1 (s1 s2 : Bool) (a1 a2 a3 a4 : Option Addr) (l1 l2 l3 l4 c1 c2 c3 c4 B : Nat) (w : World) (h : w.heap[B]? = some (.cells #[.bool s1, .slice a1 l1 c1, .slice a2 l2 c2, .bool s2, .slice a3 l3 c3, .slice a4 l4 c4] 26 (0, 0)))
    (K1 : Rt.SoundAt w (.agg #[.bool s1, .slice a1 l1 c1, .slice a2 l2 c2, .bool s2, .slice a3 l3 c3, .slice a4 l4 c4])) :
    Calls Tryz.prog 119 #[.bool false, .slice (some ⟨B, 0, none⟩) 1 1] w fun e w' => e = .returned (.int .i64 0) ∧ Below w.heap.size w w' := by
  have hlt := (Array.getElem?_eq_some_iff.1 h).1
  have HC := Lib.hid (fun (w' : World) (hb : Below w.heap.size w w') => Rt.cells6 ((hb.block B hlt).trans h))
  have HK1 := Lib.hid K1
  clear h K1
  go_enter Tryz.func119, Tryz.ntmps119
  go_wp2_with fail
  go_loopw [11] (fun i wr => Below w.heap.size w wr ∧ ∃ k : Nat, i = .int .i64 k ∧ k ≤ 1) (fun i _ => 1 - (intOf i).toNat)
  case atStart => exact ⟨Below.refl _ _, 0, rfl, by decide⟩
  case round =>
    obtain ⟨hbw, k, rfl, hk⟩ := hrel
    obtain ⟨wo, hwo⟩ : ∃ z, z = wr := ⟨_, rfl⟩
    subst hwo
    have HBW := Lib.hid hbw
    have HA : Hid (∀ o, Below w.heap.size w (wo.alloc o)) := Lib.hid (fun o => hbw.alloc hbw.size o)
    obtain ⟨d0, d1, d2, d3, d4, d5⟩ := HC.out _ hbw
    clear hbw
    rcases (show k = 0 ∨ k = 1 by omega) with rfl | rfl
    · go_wp2_with fail
      refine (HK1.out _ (HA.out _)).mono ?_
      rintro x w1 ⟨rfl, hb1⟩
      have HB1 := Lib.hid ((HA.out _).trans (hb1.mono (HA.out _).size))
      clear hb1
      go_wp2_with fail
      go_roundw
      case rel => exact ⟨HB1.out, _, by first | rfl | go_num, by decide⟩
      case measure => simp [intOf]
    · clear HA
      go_wp2_with fail
      go_loopw [21] (fun i wr => Below w.heap.size w wr ∧ ∃ k : Nat, i = .int .i64 k ∧ k ≤ 1) (fun i _ => 1 - (intOf i).toNat)
      case atStart => exact ⟨HBW.out, 0, rfl, by decide⟩
      case round =>
        obtain ⟨hbw, k, rfl, hk⟩ := hrel
        obtain ⟨wi, hwi⟩ : ∃ z, z = wr := ⟨_, rfl⟩
        subst hwi
        have HBW := Lib.hid hbw
        have HA : Hid (∀ o, Below w.heap.size w (wi.alloc o)) := Lib.hid (fun o => hbw.alloc hbw.size o)
        clear d0 d1 d2 d3 d4 d5
        obtain ⟨d0, d1, d2, d3, d4, d5⟩ := HC.out _ hbw
        clear hbw
        rcases (show k = 0 ∨ k = 1 by omega) with rfl | rfl
        · go_wp2_with fail
          go_roundw
          case rel => exact ⟨HA.out _, _, by first | rfl | go_num, by decide⟩
          case measure => simp [intOf]
        · go_wp2_with fail
          go_ret
          exact ⟨rfl, HBW.out⟩
set_option maxHeartbeats 8000000 in
set_option maxRecDepth 1000000 in
theorem Tx.chk2 (s1 s2 s3 s4 : Bool) (a1 a2 a3 a4 a5 a6 a7 a8 : Option Addr) (l1 l2 l4 l5 l6 l8 c1 c2 c3 c4 c5 c6 c7 c8 B : Nat) (w : World) (h : w.heap[B]? = some (.cells #[.bool s1, .slice a1 l1 c1, .slice a2 l2 c2, .bool s2, .slice a3 0 c3, .slice a4 l4 c4, .bool s3, .slice a5 l5 c5, .slice a6 l6 c6, .bool s4, .slice a7 0 c7, .slice a8 l8 c8] 26 (0, 0)))
    (K1 : Rt.SoundAt w (.agg #[.bool s1, .slice a1 l1 c1, .slice a2 l2 c2, .bool s2, .slice a3 0 c3, .slice a4 l4 c4])) (K2 : Rt.SoundAt w (.agg #[.bool s3, .slice a5 l5 c5, .slice a6 l6 c6, .bool s4, .slice a7 0 c7, .slice a8 l8 c8])) :
    Calls Tryz.prog 119 #[.bool true, .slice (some ⟨B, 0, none⟩) 2 2] w fun e w' => e = .returned (.int .i64 0) ∧ Below w.heap.size w w' := by
  have hlt := (Array.getElem?_eq_some_iff.1 h).1
  have HC := Lib.hid (fun (w' : World) (hb : Below w.heap.size w w') => Rt.cells12 ((hb.block B hlt).trans h))
  have HK1 := Lib.hid K1
  have HK2 := Lib.hid K2
  clear h K1 K2
  go_enter Tryz.func119, Tryz.ntmps119
  go_wp2_with fail
  go_loopw [11] (fun i wr => Below w.heap.size w wr ∧ ∃ k : Nat, i = .int .i64 k ∧ k ≤ 2) (fun i _ => 2 - (intOf i).toNat)
  case atStart => exact ⟨Below.refl _ _, 0, rfl, by decide⟩
  case round =>
    obtain ⟨hbw, k, rfl, hk⟩ := hrel
    obtain ⟨wo, hwo⟩ : ∃ z, z = wr := ⟨_, rfl⟩
    subst hwo
    have HBW := Lib.hid hbw
    have HA : Hid (∀ o, Below w.heap.size w (wo.alloc o)) := Lib.hid (fun o => hbw.alloc hbw.size o)
    obtain ⟨⟨d0, d1, d2, d3, d4, d5⟩, d6, d7, d8, d9, d10, d11⟩ := HC.out _ hbw
    clear hbw
    rcases (show k = 0 ∨ k = 1 ∨ k = 2 by omega) with rfl | rfl | rfl
    · go_wp2_with fail
      refine (HK1.out _ (HA.out _)).mono ?_
      rintro x w1 ⟨rfl, hb1⟩
      have HB1 := Lib.hid ((HA.out _).trans (hb1.mono (HA.out _).size))
      clear hb1
      go_wp2_with fail
      go_roundw
      case rel => exact ⟨HB1.out, _, by first | rfl | go_num, by decide⟩
      case measure => simp [intOf]
    · go_wp2_with fail
      refine (HK2.out _ (HA.out _)).mono ?_
      rintro x w1 ⟨rfl, hb1⟩
      have HB1 := Lib.hid ((HA.out _).trans (hb1.mono (HA.out _).size))
      clear hb1
      go_wp2_with fail
      go_roundw
      case rel => exact ⟨HB1.out, _, by first | rfl | go_num, by decide⟩
      case measure => simp [intOf]
    · clear HA
      go_wp2_with fail
      go_loopw [21] (fun i wr => Below w.heap.size w wr ∧ ∃ k : Nat, i = .int .i64 k ∧ k ≤ 2) (fun i _ => 2 - (intOf i).toNat)
      case atStart => exact ⟨HBW.out, 0, rfl, by decide⟩
      case round =>
        obtain ⟨hbw, k, rfl, hk⟩ := hrel
        obtain ⟨wi, hwi⟩ : ∃ z, z = wr := ⟨_, rfl⟩
        subst hwi
        have HBW := Lib.hid hbw
        have HA : Hid (∀ o, Below w.heap.size w (wi.alloc o)) := Lib.hid (fun o => hbw.alloc hbw.size o)
        clear d0 d1 d2 d3 d4 d5 d6 d7 d8 d9 d10 d11
        obtain ⟨⟨d0, d1, d2, d3, d4, d5⟩, d6, d7, d8, d9, d10, d11⟩ := HC.out _ hbw
        clear hbw
        rcases (show k = 0 ∨ k = 1 ∨ k = 2 by omega) with rfl | rfl | rfl
        · go_wp2_with fail
          go_roundw
          case rel => exact ⟨HA.out _, _, by first | rfl | go_num, by decide⟩
          case measure => simp [intOf]
        · go_wp2_with fail
          go_roundw
          case rel => exact ⟨HA.out _, _, by first | rfl | go_num, by decide⟩
          case measure => simp [intOf]
        · go_wp2_with fail
          go_ret
          exact ⟨rfl, HBW.out⟩
end Go.Proofs.YtikmebkfdpbidaaGreatDoor
namespace Go.Proofs.YtikmebkfdpbidaaGreatDoor
open Go.RowKit
set_option linter.unusedVariables false
set_option linter.unusedSimpArgs false

theorem Sm.two (w : World) (o1 o2 : Obj) : ((w.alloc o1).alloc o2).heap[w.heap.size]? = some o1 ∧ ((w.alloc o1).alloc o2).heap[w.heap.size + 1]? = some o2 ∧ ((w.alloc o1).alloc o2).heap.size = w.heap.size + 2 ∧ Below w.heap.size w ((w.alloc o1).alloc o2) := by
  refine ⟨(Lib.alloc_old _ _ _ (by simp)).trans (heap_alloc_new w o1), ?_, by simp, ((Below.refl _ _).alloc (Nat.le_refl _) _).alloc (by simp) _⟩
  have := heap_alloc_new (w.alloc o1) o2
  rwa [show (w.alloc o1).heap.size = w.heap.size + 1 by simp] at this
set_option maxHeartbeats 1000000 in
set_option maxRecDepth 100000 in
theorem Sm.alike (s1 s2 : Bool) (t1 b1 t2 b2 : List Nat) (v3 v4 v6 v7 u3 u4 u6 u7 : Value) (w : World) (h1 : t1.length ≤ 4611686018427387904) (h2 : b1.length ≤ 4611686018427387904) (h3 : t2.length ≤ 4611686018427387904) (h4 : b2.length ≤ 4611686018427387904)
    (i3 : Nt.In w v3 t1) (i4 : Nt.In w v4 b1) (i6 : Nt.In w v6 t2) (i7 : Nt.In w v7 b2) (j3 : Nt.In w u3 t1) (j4 : Nt.In w u4 b1) (j6 : Nt.In w u6 t2) (j7 : Nt.In w u7 b2) :
    Calls Tryz.prog 67 #[.agg #[.bool s1, v3, v4, .bool s2, v6, v7], .agg #[.bool s1, u3, u4, .bool s2, u6, u7]] w fun e w' => e = .returned (.bool true) ∧ Below w.heap.size w w' := by
  obtain ⟨a3, c3, rfl⟩ := i3.slice
  obtain ⟨a4, c4, rfl⟩ := i4.slice
  obtain ⟨a6, c6, rfl⟩ := i6.slice
  obtain ⟨a7, c7, rfl⟩ := i7.slice
  obtain ⟨d3, f3, rfl⟩ := j3.slice
  obtain ⟨d4, f4, rfl⟩ := j4.slice
  obtain ⟨d6, f6, rfl⟩ := j6.slice
  obtain ⟨d7, f7, rfl⟩ := j7.slice
  have HK1 := Lib.hid (fun w' (hb : Below w.heap.size w w') => Sm.rat s1 t1 b1 _ _ _ _ w' h1 h2 (i3.below hb (Nat.le_refl _)) (i4.below hb (Nat.le_refl _)) (j3.below hb (Nat.le_refl _)) (j4.below hb (Nat.le_refl _)))
  have HK2 := Lib.hid (fun w' (hb : Below w.heap.size w w') => Sm.rat s2 t2 b2 _ _ _ _ w' h3 h4 (i6.below hb (Nat.le_refl _)) (i7.below hb (Nat.le_refl _)) (j6.below hb (Nat.le_refl _)) (j7.below hb (Nat.le_refl _)))
  obtain ⟨n0, n1, n2, n3⟩ := Sm.two w (.cells #[.bool s1, .slice a3 t1.length c3, .slice a4 b1.length c4, .bool s2, .slice a6 t2.length c6, .slice a7 b2.length c7] 26) (.cells #[.bool s1, .slice d3 t1.length f3, .slice d4 b1.length f4, .bool s2, .slice d6 t2.length f6, .slice d7 b2.length f7] 26)
  have HN := Lib.hid (And.intro n0 (And.intro n1 (And.intro n2 n3)))
  clear n0 n1 n2 n3 i3 i4 i6 i7 j3 j4 j6 j7
  go_enter Tryz.func67, Tryz.ntmps67
  go_wp2_with fail
  refine (HK1.out _ HN.out.2.2.2).mono ?_
  rintro x w1 ⟨rfl, hb1⟩
  obtain ⟨n0, n1, n2, n3⟩ := HN.out
  have q0 := (hb1.block w.heap.size (by omega)).trans n0
  have q1 := (hb1.block (w.heap.size + 1) (by omega)).trans n1
  have hbw1 := n3.trans (hb1.mono n3.size)
  have e3 : w1.cell? ⟨w.heap.size, 3, none⟩ = some (.bool s2) := by simp [World.cell?, q0]
  have e4 : w1.cell? ⟨w.heap.size, 4, none⟩ = some (.slice a6 t2.length c6) := by simp [World.cell?, q0]
  have e5 : w1.cell? ⟨w.heap.size, 5, none⟩ = some (.slice a7 b2.length c7) := by simp [World.cell?, q0]
  have g3 : w1.cell? ⟨w.heap.size + 1, 3, none⟩ = some (.bool s2) := by simp [World.cell?, q1]
  have g4 : w1.cell? ⟨w.heap.size + 1, 4, none⟩ = some (.slice d6 t2.length f6) := by simp [World.cell?, q1]
  have g5 : w1.cell? ⟨w.heap.size + 1, 5, none⟩ = some (.slice d7 b2.length f7) := by simp [World.cell?, q1]
  have HB1 := Lib.hid hbw1
  clear hb1 n0 n1 n2 n3 q0 q1 hbw1
  go_wp2_with fail
  refine (HK2.out _ HB1.out).mono ?_
  rintro x w2 ⟨rfl, hb2⟩
  have HB2 := Lib.hid (HB1.out.trans (hb2.mono HB1.out.size))
  clear hb2 e3 e4 e5 g3 g4 g5
  go_wp2_with fail
  go_ret
  exact ⟨rfl, HB2.out⟩
end Go.Proofs.YtikmebkfdpbidaaGreatDoor
namespace Go.Proofs.YtikmebkfdpbidaaGreatDoor
open Go.RowKit
set_option linter.unusedVariables false
set_option linter.unusedSimpArgs false

theorem Tx.N_slice {w : World} {v : Value} {n : Nat} (h : Nt.N w v n) : ∃ L a c, v = .slice a L c ∧ L = (Nt.dig n).length := by
  obtain ⟨a, c, hv⟩ := Nt.In.slice h
  exact ⟨_, a, c, hv, rfl⟩
theorem Tx.N_zero {w : World} {v : Value} (h : Nt.N w v 0) : ∃ a c, v = .slice a 0 c := by
  obtain ⟨a, c, hv⟩ := Nt.In.slice h
  rw [Nt.dig_zero] at hv
  exact ⟨a, c, hv⟩
set_option maxHeartbeats 2000000 in
set_option maxRecDepth 1000000 in
theorem Tx.Text_real (s : Bool) (t b : Nat) (s2 : Bool) (b2 : Nat) (v : Value) (w : World) (h : Rt.Q w v s t b s2 0 b2) (K : Rt.SoundAt w v) (hb : 0 < b) (hl : (Nt.dig t).length ≤ 512 ∧ (Nt.dig b).length ≤ 512) :
    Calls Tryz.prog 78 #[v, .int .i64 10] w fun e w' => e = .returned (.tuple #[.string (Tx.str (Tx.rat s t b)), .int .i64 0]) ∧ Below w.heap.size w w' := by
  obtain ⟨tv, bv, tv2, bv2, rfl, h1, h2, h3, h4⟩ := h
  obtain ⟨a3, c3, rfl⟩ := Tx.N_zero h3
  obtain ⟨L1, a1, c1, rfl, hL1⟩ := Tx.N_slice h1
  obtain ⟨L2, a2, c2, rfl, hL2⟩ := Tx.N_slice h2
  obtain ⟨L4, a4, c4, rfl, hL4⟩ := Tx.N_slice h4
  obtain ⟨n0, n1, n2, n3⟩ := Sm.two w (.cells #[.bool s, .slice a1 L1 c1, .slice a2 L2 c2, .bool s2, .slice a3 0 c3, .slice a4 L4 c4] 26) (.cells #[.bool s, .slice a1 L1 c1, .slice a2 L2 c2, .bool s2, .slice a3 0 c3, .slice a4 L4 c4] 26)
  have KC := Tx.chk1 _ _ _ _ _ _ _ _ _ _ _ _ _ _ _ _ n1 (fun w' hb => K w' (n3.trans (hb.mono n3.size)))
  have KR := Lib.hid (fun w' (hb2 : Below w.heap.size w w') => Tx.ratText_any s t b (.agg #[.bool s, .slice a1 L1 c1, .slice a2 L2 c2]) w' ⟨_, _, rfl, Nt.In.below h1 hb2 (Nat.le_refl _), Nt.In.below h2 hb2 (Nat.le_refl _)⟩ hb hl)
  have HN := Lib.hid (And.intro n0 (And.intro n2 n3))
  clear n0 n1 n2 n3 h1 h2 h3 h4 hL1 hL2 hL4 K
  go_enter Tryz.func78, Tryz.ntmps78
  go_wp2_with fail
  refine KC.mono ?_
  rintro x w1 ⟨rfl, hb1⟩
  have HB1 := Lib.hid (HN.out.2.2.trans (hb1.mono HN.out.2.2.size))
  obtain ⟨e0, e1, e2, e3, e4, e5⟩ := Rt.cells6 ((hb1.block w.heap.size (by have := HN.out.2.1; omega)).trans HN.out.1)
  clear hb1 KC
  go_wp2_with fail
  refine (KR.out _ HB1.out).mono ?_
  rintro x w2 ⟨rfl, hb2⟩
  have HB2 := Lib.hid (HB1.out.trans (hb2.mono HB1.out.size))
  clear hb2
  go_wp2_with fail
  go_ret2
  exact ⟨rfl, HB2.out⟩
end Go.Proofs.YtikmebkfdpbidaaGreatDoor
namespace Go.Proofs.YtikmebkfdpbidaaGreatDoor
open Go.RowKit
set_option linter.unusedVariables false
set_option linter.unusedSimpArgs false

theorem Wt.dig_ne {m n : Nat} (h : m ≠ n) : Nt.dig m ≠ Nt.dig n := fun e => h (by rw [← Nt.val_dig m, e, Nt.val_dig])
theorem Wt.SameN_any (m n : Nat) (v v2 : Value) (w : World) (h : Nt.N w v m) (h2 : Nt.N w v2 n) (hl : (Nt.dig m).length ≤ 512) :
    Calls Tryz.prog 147 #[v, v2] w fun e w' => e = .returned (.bool (decide (m = n))) ∧ Below w.heap.size w w' := by
  by_cases e : m = n
  · subst e
    rw [decide_eq_true rfl]
    exact Sm.nat (Nt.dig m) v v2 w (by omega) h h2
  · rw [decide_eq_false e]
    exact Rn.Same_ne (Nt.dig m) (Nt.dig n) v v2 w (by omega) h h2 (Wt.dig_ne e)
theorem Wt.one_new (w : World) : Nt.N (w.alloc (.cells #[.int .u32 1] 144)) (.slice (some ⟨w.heap.size, 0, none⟩) 1 1) 1 := by
  unfold Nt.N
  rw [Nt.dig_small (by decide) (by decide)]
  exact Nt.In.of_row (ws := [1]) (heap_alloc_new w _)
set_option maxHeartbeats 2000000 in
set_option maxRecDepth 1000000 in
theorem Wt.ratTextR_any (s : Bool) (t b : Nat) (v : Value) (w : World) (h : Rt.R w v s t b) (hl : (Nt.dig t).length ≤ 512 ∧ (Nt.dig b).length ≤ 512) :
    Calls Tryz.prog 106 #[v, .int .i64 10] w fun e w' => e = .returned (.string (Tx.str (Tx.rat s t b))) ∧ Below w.heap.size w w' := by
  obtain ⟨tv, bv, rfl, h1, h2⟩ := h
  obtain ⟨ta, tc, hv⟩ := Nt.In.slice h1
  obtain ⟨L, hL⟩ : ∃ z, z = (Nt.dig t).length := ⟨_, rfl⟩
  rw [← hL] at hv
  subst hv
  obtain ⟨ba, bc, hv2⟩ := Nt.In.slice h2
  obtain ⟨M, hM⟩ : ∃ z, z = (Nt.dig b).length := ⟨_, rfl⟩
  rw [← hM] at hv2
  subst hv2
  have HB0 : Hid (∀ o, Below w.heap.size w (w.alloc o)) := Lib.hid (fun o => (Below.refl _ _).alloc (Nat.le_refl _) o)
  have KT := Lib.hid (fun w' (hb : Below w.heap.size w w') => Wt.natR_any t _ w' (Nt.In.below h1 hb (Nat.le_refl _)) hl.1)
  have KB := Lib.hid (fun w' (hb : Below w.heap.size w w') => Wt.natR_any b _ w' (Nt.In.below h2 hb (Nat.le_refl _)) hl.2)
  have KS := Lib.hid (fun w' (hb : Below w.heap.size w w') => Wt.SameN_any b 1 (.slice ba M bc) (.slice (some ⟨w'.heap.size, 0, none⟩) 1 1) (w'.alloc (.cells #[.int .u32 1] 144)) (Nt.In.below h2 (hb.alloc hb.size _) (Nat.le_refl _)) (Wt.one_new w') hl.2)
  have hq : (w.alloc (.cells #[.bool s, .slice ta L tc, .slice ba M bc] 24)).heap[w.heap.size]? = some (.cells #[.bool s, .slice ta L tc, .slice ba M bc] 24 (0, 0)) := heap_alloc_new w _
  have HF : Hid (∀ w', Below (w.heap.size + 1) (w.alloc (.cells #[.bool s, .slice ta L tc, .slice ba M bc] 24)) w' → (w'.cell? ⟨w.heap.size, 0, none⟩ = some (.bool s) ∧ w'.cell? ⟨w.heap.size, 1, none⟩ = some (.slice ta L tc) ∧ w'.cell? ⟨w.heap.size, 2, none⟩ = some (.slice ba M bc)) ∧ Below w.heap.size w w') := Lib.hid (fun w' hb => by
    have a0 := (hb.block w.heap.size (Nat.lt_succ_self _)).trans hq
    exact ⟨Rt.cells3 a0, (HB0.out _).trans (hb.mono (Nat.le_succ _))⟩)
  have hz : (w.alloc (.cells #[.bool s, .slice ta L tc, .slice ba M bc] 24)).heap.size = w.heap.size + 1 := by simp
  have HZ := Lib.hid hz
  have n1 : (Tx.dec t).length ≤ 16385 := by unfold Tx.dec; rw [List.length_reverse]; exact Tx.lo_len_dig hl.1
  have n2 : (Tx.dec b).length ≤ 16385 := by unfold Tx.dec; rw [List.length_reverse]; exact Tx.lo_len_dig hl.2
  have f1 : (9223372036854775807 < 1 + (Tx.dec t).length) = False := eq_false (by omega)
  have f2 : (9223372036854775807 < 1 + (Tx.dec b).length) = False := eq_false (by omega)
  have f3 : (9223372036854775807 < (Tx.dec t).length + (1 + (Tx.dec b).length)) = False := eq_false (by omega)
  have f4 : (9223372036854775807 < 1 + (Tx.dec t).length + (1 + (Tx.dec b).length)) = False := eq_false (by omega)
  have HTT : Hid (∀ (S : Bool) (R : List UInt8), decide (b = 1) = S → (if S = true then [] else 47 :: Tx.dec b) = R → (if s = true then [45] else []) ++ (Tx.dec t ++ R) = Tx.rat s t b) := Lib.hid (fun S R e0 e => by
    unfold Tx.rat
    rw [← e, ← e0]
    by_cases hb1 : b = 1
    · simp [hb1]
    · simp [hb1])
  clear h1 h2 hL hM hq hz hl n1 n2
  obtain ⟨S, hS⟩ : ∃ S, decide (b = 1) = S := ⟨_, rfl⟩
  rw [hS] at KS
  have HS := Lib.hid hS
  clear hS
  go_enter Tryz.func106, Tryz.ntmps106
  go_wp2_with fail
  refine (KT.out _ (HB0.out _)).mono ?_
  rintro x w1 ⟨rfl, hb1⟩
  rw [HZ.out] at hb1
  have HB1 := Lib.hid hb1
  obtain ⟨⟨c0, c1, c2⟩, hbw1⟩ := HF.out _ hb1
  have HBW1 := Lib.hid hbw1
  clear hb1 hbw1
  cases s
  all_goals
    go_wp2_with fail
    refine (KS.out _ HBW1.out).mono ?_
    rintro x w2 ⟨rfl, hb2⟩
    have HB2 := Lib.hid (HB1.out.trans (((Below.refl _ w1).alloc (Nat.le_refl _) _).trans (hb2.mono (by simp)) |>.mono (by have := HB1.out.size; simp at this; omega)))
    obtain ⟨⟨d0, d1, d2⟩, hbw2⟩ := HF.out _ HB2.out
    have HBW2 := Lib.hid hbw2
    clear hb2 hbw2 c0 c1 c2
    cases S
    · go_wp2_with fail
      refine (KB.out _ HBW2.out).mono ?_
      rintro x w3 ⟨rfl, hb3⟩
      have HB3 := Lib.hid (HBW2.out.trans (hb3.mono HBW2.out.size))
      clear hb3
      go_wp2_with fail
      go_ret
      refine ⟨?_, HB3.out⟩
      rw [← HTT.out _ _ HS.out rfl]
      first | rfl | (simp [Tx.str, Tx.str_append]; done) | (simp [Tx.str]; apply ByteArray.ext; simp)
    · go_wp2_with fail
      go_ret
      refine ⟨?_, HBW2.out⟩
      rw [← HTT.out _ _ HS.out rfl]
      first | rfl | (simp [Tx.str, Tx.str_append]; done) | (simp [Tx.str]; apply ByteArray.ext; simp)
set_option maxHeartbeats 1000000 in
set_option maxRecDepth 1000000 in
theorem Wt.RadixR_ten (w : World) : Calls Tryz.prog 104 #[.int .i64 10] w fun e w' => e = .returned (.bool true) ∧ w = w' := by
  go_enter Tryz.func104, Tryz.ntmps104
  go_wp2_with fail
  go_ret
  exact ⟨rfl, rfl⟩
set_option maxHeartbeats 4000000 in
set_option maxRecDepth 1000000 in
theorem Wt.MinusR_any (s : Bool) (t b : Nat) (v : Value) (w : World) (h : Rt.R w v s t b) : Calls Tryz.prog 107 #[v] w fun e w' => ∃ v', e = .returned v' ∧ Rt.R w' v' (!s && decide (0 < t)) t b ∧ Below w.heap.size w w' := by
  obtain ⟨tv, bv, rfl, hn, hd⟩ := h
  obtain ⟨ad1, cap1, rfl⟩ := Nt.In.slice hn
  obtain ⟨ad2, cap2, rfl⟩ := Nt.In.slice hd
  have hs0 : ∀ o, (w.alloc o).heap.size = w.heap.size + 1 := by intro o; simp
  obtain ⟨W2, hW2⟩ : ∃ z, (w.alloc (.cells #[.bool s, .slice ad1 (Nt.dig t).length cap1, .slice ad2 (Nt.dig b).length cap2] 24)).alloc (.cells #[.bool false, .slice none 0 0, .slice none 0 0] 24) = z := ⟨_, rfl⟩
  have q0 : W2.heap[w.heap.size]? = some (.cells #[.bool s, .slice ad1 (Nt.dig t).length cap1, .slice ad2 (Nt.dig b).length cap2] 24 (0, 0)) := hW2 ▸ (Lib.alloc_old _ _ _ (by rw [hs0]; omega)).trans (heap_alloc_new w _)
  have q1 : W2.heap[w.heap.size + 1]? = some (.cells #[.bool false, .slice none 0 0, .slice none 0 0] 24 (0, 0)) := by
    have := heap_alloc_new (w.alloc (.cells #[.bool s, .slice ad1 (Nt.dig t).length cap1, .slice ad2 (Nt.dig b).length cap2] 24)) (.cells #[.bool false, .slice none 0 0, .slice none 0 0] 24)
    rwa [hs0, hW2] at this
  have hb0 : Below w.heap.size w W2 := hW2 ▸ ((Below.refl _ _).alloc (Nat.le_refl _) _).alloc (by rw [hs0]; omega) _
  have e0 := Rt.cell_of q0 0
  have e1 := Rt.cell_of q0 1
  have e2 := Rt.cell_of q0 2
  have hn2 := Nt.N.below hn hb0 (Nat.le_refl _)
  have hd2 := Nt.N.below hd hb0 (Nat.le_refl _)
  obtain ⟨X1, X2, X3, ⟨f0, z0, s0⟩, ⟨f1, z1, s1⟩, ⟨f2, z2, s2⟩, ⟨r0, r1, r2'⟩, HX⟩ := Rt.put3 q1 (.bool (!s && decide (0 < t))) (.slice ad1 (Nt.dig t).length cap1) (.slice ad2 (Nt.dig b).length cap2)
  have HOUT : Hid (Nt.N X3 (.slice ad1 (Nt.dig t).length cap1) t ∧ Nt.N X3 (.slice ad2 (Nt.dig b).length cap2) b ∧ Below w.heap.size w X3) := Lib.hid ⟨Nt.In.othr hn2 q1 Rt.noWords HX.out.2.2.1 HX.out.2.1, Nt.In.othr hd2 q1 Rt.noWords HX.out.2.2.1 HX.out.2.1, HX.out.2.2.2 _ _ hb0 (by omega)⟩
  have hpos : (0 < t) ↔ 0 < (Nt.dig t).length := Nt.dig_len_pos.symm
  have hdec : decide (0 < (Nt.dig t).length) = decide (0 < t) := by
    by_cases h : 0 < t
    · rw [decide_eq_true h]
      exact decide_eq_true (hpos.1 h)
    · rw [decide_eq_false h]
      exact decide_eq_false (fun h2 => h (hpos.2 h2))
  clear hn hd hn2 hd2 hb0 q0 q1 HX hpos hs0
  generalize (Nt.dig t).length = l at *
  generalize (Nt.dig b).length = l2 at *
  cases s with
  | false =>
    simp only [Bool.not_false, Bool.true_and] at *
    generalize decide (0 < t) = dd at *
    go_enter Tryz.func107, Tryz.ntmps107
    go_wp2_with fail
    refine bodyPost_ret (v := .agg #[.bool dd, .slice ad1 l cap1, .slice ad2 l2 cap2]) (by simp [results, Tryz.results107, go_sem, r0, r1, r2']) rfl ⟨_, rfl, ⟨_, _, rfl, HOUT.out.1, HOUT.out.2.1⟩, HOUT.out.2.2⟩
  | true =>
    simp only [Bool.not_true, Bool.false_and] at *
    clear hdec
    go_enter Tryz.func107, Tryz.ntmps107
    go_wp2_with fail
    refine bodyPost_ret (v := .agg #[.bool false, .slice ad1 l cap1, .slice ad2 l2 cap2]) (by simp [results, Tryz.results107, go_sem, r0, r1, r2']) rfl ⟨_, rfl, ⟨_, _, rfl, HOUT.out.1, HOUT.out.2.1⟩, HOUT.out.2.2⟩

set_option maxHeartbeats 2000000 in
set_option maxRecDepth 1000000 in
theorem Wt.RatSameR_any (s : Bool) (t b : Nat) (s2 : Bool) (t2 b2 : Nat) (v v2 : Value) (w : World) (h : Rt.R w v s t b) (h2 : Rt.R w v2 s2 t2 b2) (hl : (Nt.dig t).length ≤ 512 ∧ (Nt.dig b).length ≤ 512) :
    Calls Tryz.prog 96 #[v, v2] w fun e w' => e = .returned (.bool (decide (s = s2) && (decide (t = t2) && decide (b = b2)))) ∧ Below w.heap.size w w' := by
  obtain ⟨tv, bv, rfl, h1, h2'⟩ := h
  obtain ⟨tv2, bv2, rfl, h3, h4⟩ := h2
  obtain ⟨L1, a1, c1, rfl, hL1⟩ := Tx.N_slice h1
  obtain ⟨L2, a2, c2, rfl, hL2⟩ := Tx.N_slice h2'
  obtain ⟨L3, a3, c3, rfl, hL3⟩ := Tx.N_slice h3
  obtain ⟨L4, a4, c4, rfl, hL4⟩ := Tx.N_slice h4
  obtain ⟨n0, n1, n2, n3⟩ := Sm.two w (.cells #[.bool s, .slice a1 L1 c1, .slice a2 L2 c2] 24) (.cells #[.bool s2, .slice a3 L3 c3, .slice a4 L4 c4] 24)
  have HN := Lib.hid (And.intro n0 (And.intro n1 (And.intro n2 n3)))
  have KT := Lib.hid (fun w' (hb : Below w.heap.size w w') => Wt.SameN_any t t2 _ _ w' (Nt.In.below h1 hb (Nat.le_refl _)) (Nt.In.below h3 hb (Nat.le_refl _)) hl.1)
  have KB := Lib.hid (fun w' (hb : Below w.heap.size w w') => Wt.SameN_any b b2 _ _ w' (Nt.In.below h2' hb (Nat.le_refl _)) (Nt.In.below h4 hb (Nat.le_refl _)) hl.2)
  clear h1 h2' h3 h4 hL1 hL2 hL3 hL4 hl n0 n1 n2 n3
  generalize decide (t = t2) = S1 at *
  generalize decide (b = b2) = S2 at *
  have HC : Hid (∀ w', Below (w.heap.size + 2) ((w.alloc (.cells #[.bool s, .slice a1 L1 c1, .slice a2 L2 c2] 24)).alloc (.cells #[.bool s2, .slice a3 L3 c3, .slice a4 L4 c4] 24)) w' → (w'.cell? ⟨w.heap.size, 0, none⟩ = some (.bool s) ∧ w'.cell? ⟨w.heap.size, 1, none⟩ = some (.slice a1 L1 c1) ∧ w'.cell? ⟨w.heap.size, 2, none⟩ = some (.slice a2 L2 c2)) ∧ (w'.cell? ⟨w.heap.size + 1, 0, none⟩ = some (.bool s2) ∧ w'.cell? ⟨w.heap.size + 1, 1, none⟩ = some (.slice a3 L3 c3) ∧ w'.cell? ⟨w.heap.size + 1, 2, none⟩ = some (.slice a4 L4 c4)) ∧ Below w.heap.size w w') := Lib.hid (fun w' hb => by
    exact ⟨Rt.cells3 ((hb.block w.heap.size (by omega)).trans HN.out.1), Rt.cells3 ((hb.block (w.heap.size + 1) (by omega)).trans HN.out.2.1), HN.out.2.2.2.trans (hb.mono (by omega))⟩)
  have HSZ := Lib.hid HN.out.2.2.1
  obtain ⟨⟨d0, d1, d2⟩, ⟨d3, d4, d5⟩, hbw0⟩ := HC.out _ (Below.refl _ _)
  have HB0 := Lib.hid hbw0
  clear hbw0
  by_cases hss : s = s2
  · subst hss
    rw [decide_eq_true (rfl : s = s), Bool.true_and]
    go_enter Tryz.func96, Tryz.ntmps96
    go_wp2_with fail
    refine (KT.out _ HB0.out).mono ?_
    rintro x w1 ⟨rfl, hb1⟩
    rw [HSZ.out] at hb1
    have HB1 := Lib.hid hb1
    clear d0 d1 d2 d3 d4 d5 hb1
    obtain ⟨⟨d0, d1, d2⟩, ⟨d3, d4, d5⟩, hbw1⟩ := HC.out _ HB1.out
    have HBW1 := Lib.hid hbw1
    clear hbw1
    cases S1
    · go_wp2_with fail
      go_ret
      exact ⟨rfl, HBW1.out⟩
    · go_wp2_with fail
      refine (KB.out _ HBW1.out).mono ?_
      rintro x w2 ⟨rfl, hb2⟩
      have HB2 := Lib.hid (HBW1.out.trans (hb2.mono HBW1.out.size))
      clear hb2
      go_wp2_with fail
      go_ret
      exact ⟨rfl, HB2.out⟩
  · rw [decide_eq_false hss, Bool.false_and]
    have hne : (s == s2) = false := by cases s <;> cases s2 <;> first | rfl | exact absurd rfl hss
    clear hss
    go_enter Tryz.func96, Tryz.ntmps96
    go_wp2_with fail
    go_ret
    exact ⟨rfl, HB0.out⟩
end Go.Proofs.YtikmebkfdpbidaaGreatDoor
namespace Go.Proofs.YtikmebkfdpbidaaGreatDoor
open Go.RowKit
set_option linter.unusedVariables false
set_option linter.unusedSimpArgs false

set_option maxHeartbeats 1000000 in
set_option maxRecDepth 100000 in
theorem Rn.RatSound_any (s : Bool) (t b : List Nat) (v3 v4 : Value) (w : World) (h3 : Nt.In w v3 t) (h4 : Nt.In w v4 b) (ok : Rt.GOk t b) :
    Calls Tryz.prog 161 #[.agg #[.bool s, v3, v4]] w fun e w' => e = .returned (.bool (Rt.sound s t b)) ∧ Below w.heap.size w w' := by
  obtain ⟨a3, c3, rfl⟩ := h3.slice
  obtain ⟨a4, c4, rfl⟩ := h4.slice
  have hb0 : Below w.heap.size w (w.alloc (.cells #[.bool s, .slice a3 t.length c3, .slice a4 b.length c4] 24)) := (Below.refl _ _).alloc (Nat.le_refl _) _
  have hq0 : (w.alloc (.cells #[.bool s, .slice a3 t.length c3, .slice a4 b.length c4] 24)).heap[w.heap.size]? = some (.cells #[.bool s, .slice a3 t.length c3, .slice a4 b.length c4] 24 (0, 0)) := heap_alloc_new w _
  have hz0 : (w.alloc (.cells #[.bool s, .slice a3 t.length c3, .slice a4 b.length c4] 24)).heap.size = w.heap.size + 1 := by simp
  have KS1 := Rn.Sound_any t _ _ (h3.below hb0 (Nat.le_refl _)) ok.w1 ok.l1
  have HK2 := Lib.hid (fun w' (hb : Below w.heap.size w w') => Rn.Sound_any b _ w' (h4.below hb (Nat.le_refl _)) ok.w2 ok.l2)
  have HI := Lib.hid (And.intro h3 (And.intro h4 ok))
  have HF : Hid (∀ w', Below (w.heap.size + 1) (w.alloc (.cells #[.bool s, .slice a3 t.length c3, .slice a4 b.length c4] 24)) w' → w'.cell? ⟨w.heap.size, 0, none⟩ = some (.bool s) ∧ w'.cell? ⟨w.heap.size, 1, none⟩ = some (.slice a3 t.length c3) ∧ w'.cell? ⟨w.heap.size, 2, none⟩ = some (.slice a4 b.length c4) ∧ Below w.heap.size w w') := Lib.hid (fun w' hb => by
    have a0 := (hb.block w.heap.size (Nat.lt_succ_self _)).trans hq0
    refine ⟨?_, ?_, ?_, hb0.trans (hb.mono (Nat.le_succ _))⟩ <;> simp [World.cell?, a0])
  have hR : Rt.sound s t b = (Nt.sound t && Nt.sound b && decide (b.length ≠ 0) && !(decide (t.length = 0) && s) && decide (Nat.gcd (Nt.val t) (Nt.val b) = 1)) := rfl
  obtain ⟨R, hRR⟩ : ∃ z, z = Rt.sound s t b := ⟨_, rfl⟩
  rw [← hRR] at hR ⊢
  have HR := Lib.hid hR
  rw [hz0] at KS1
  clear h3 h4 ok hb0 hq0 hz0 hR hRR
  go_enter Tryz.func161, Tryz.ntmps161
  go_wp2_with fail
  refine KS1.mono ?_
  rintro x w1 ⟨rfl, hb1⟩
  obtain ⟨d0, d1, d2, hbw1⟩ := HF.out w1 hb1
  have HB1 := Lib.hid (And.intro hb1 hbw1)
  clear hb1 hbw1 KS1
  cases hs1 : Nt.sound t
  · have hans : R = false := by rw [HR.out, hs1]; rfl
    subst hans
    go_wp2_with fail
    go_ret
    exact ⟨rfl, HB1.out.2⟩
  · go_wp2_with fail
    refine (HK2.out w1 HB1.out.2).mono ?_
    rintro x w2 ⟨rfl, hb2⟩
    have hb2' := HB1.out.1.trans (hb2.mono (by have := HB1.out.1.size; simp at this; omega))
    clear d0 d1 d2
    obtain ⟨d0, d1, d2, hbw2⟩ := HF.out w2 hb2'
    have HB2 := Lib.hid (And.intro hb2' hbw2)
    clear hb2 hb2' hbw2
    cases hs2 : Nt.sound b
    · have hans : R = false := by rw [HR.out, hs1, hs2]; rfl
      subst hans
      go_wp2_with fail
      go_ret
      exact ⟨rfl, HB2.out.2⟩
    · by_cases hb0 : b.length = 0
      · have hans : R = false := by rw [HR.out, hs1, hs2, hb0]; rfl
        subst hans
        rw [hb0] at d2
        go_wp2_with fail
        go_ret
        exact ⟨rfl, HB2.out.2⟩
      · have hbI : ((b.length : Int) == 0) = false := beq_eq_false_iff_ne.2 (by omega)
        by_cases ht0 : t.length = 0 ∧ s = true
        · have hans : R = false := by rw [HR.out, hs1, hs2, ht0.1, ht0.2]; simp
          obtain ⟨ht1, rfl⟩ := ht0
          subst hans
          rw [ht1] at d1
          go_wp2_with fail
          go_ret
          exact ⟨rfl, HB2.out.2⟩
        · have hT2 : (decide (t.length = 0) && s) = false := by
            cases s
            · simp
            · have : ¬ t.length = 0 := fun h => ht0 ⟨h, rfl⟩
              simp [this]
          have hT3 : t.length = 0 → s = false := fun h => by
            cases s
            · rfl
            · exact absurd ⟨h, rfl⟩ ht0
          obtain ⟨et, ht5⟩ := Nt.sound_eq HI.out.2.2.w1 hs1
          obtain ⟨eb, hb5⟩ := Nt.sound_eq HI.out.2.2.w2 hs2
          have KD := Rn.Divisor_any (Nt.val t) (Nt.val b) (.slice a3 t.length c3) (.slice a4 b.length c4) w2 (by unfold Nt.N; rw [← et]; exact HI.out.1.below HB2.out.2 (Nat.le_refl _)) (by unfold Nt.N; rw [← eb]; exact HI.out.2.1.below HB2.out.2 (Nat.le_refl _)) (by rw [← et]; omega) (by rw [← eb]; omega)
          obtain ⟨g, hg⟩ : ∃ g, g = Nat.gcd (Nt.val t) (Nt.val b) := ⟨_, rfl⟩
          have hR2 : R = decide (g = 1) := by rw [HR.out, hs1, hs2, hT2, hg]; simp [hb0]
          rw [← hg] at KD
          have HGL : Hid ((Nt.dig g).length ≤ 512) := Lib.hid (by
            rw [hg]
            refine Nat.le_trans (Rn.dig_le (Nat.gcd_le_right _ ?_)) (by rw [← eb]; exact hb5)
            have h1 := Nt.dig_len_pos (n := Nt.val b)
            rw [← eb] at h1
            exact h1.1 (by omega))
          have HKS : Hid (∀ w' (v' : Value), Nt.N w' v' g → Calls Tryz.prog 147 #[v', .slice (some ⟨w'.heap.size, 0, none⟩) 1 1] (w'.alloc (.cells #[.int .u32 1] 144)) fun e w'' => e = .returned (.bool R) ∧ Below w'.heap.size w' w'') := Lib.hid (fun w' v' hN => by
            have hbA : Below w'.heap.size w' (w'.alloc (.cells #[.int .u32 1] 144)) := (Below.refl _ _).alloc (Nat.le_refl _) _
            have h1 : Nt.In (w'.alloc (.cells #[.int .u32 1] 144)) (.slice (some ⟨w'.heap.size, 0, none⟩) 1 1) [1] := Nt.In.of_row (ws := [1]) (heap_alloc_new w' _)
            by_cases h1g : g = 1
            · have e1 : Nt.dig g = [1] := by rw [h1g]; exact Nt.dig_small (by decide) (by decide)
              unfold Nt.N at hN
              rw [e1] at hN
              refine (Sm.nat [1] v' _ _ (by simp) (hN.below hbA (Nat.le_refl _)) h1).mono fun e w'' h => ⟨by rw [h.1, hR2, h1g]; rfl, hbA.trans (h.2.mono hbA.size)⟩
            · have e1 : Nt.dig g ≠ [1] := fun e => h1g (by
                have := Nt.val_dig g
                rw [e] at this
                simpa [Nt.val] using this.symm)
              refine (Rn.Same_ne (Nt.dig g) [1] v' _ _ (by have := HGL.out; omega) (Nt.In.below hN hbA (Nat.le_refl _)) h1 e1).mono fun e w'' h => ⟨by rw [h.1, hR2, decide_eq_false h1g], hbA.trans (h.2.mono hbA.size)⟩)
          have HB3 : Hid (∀ w', Below w2.heap.size w2 w' → Below w.heap.size w w') := Lib.hid (fun w' hb => HB2.out.2.trans (hb.mono HB2.out.2.size))
          clear hg hR2 et eb ht5 hb5 hT2 ht0 hs1 hs2
          by_cases ht9 : t.length = 0
          · have hs9 := hT3 ht9
            subst hs9
            rw [ht9] at d1 KD
            clear hT3 ht9
            go_wp2_with fail
            refine KD.mono ?_
            rintro x w3 ⟨v', rfl, hN, hb3⟩
            have KS := HKS.out w3 v' hN
            have HB4 := Lib.hid hb3
            obtain ⟨pa, pc, rfl⟩ := Nt.In.slice hN
            clear hN hb3 KD
            go_wp2_with fail
            refine KS.mono ?_
            rintro x w4 ⟨rfl, hb4⟩
            have HB5 := Lib.hid (HB3.out w4 (HB4.out.trans (hb4.mono HB4.out.size)))
            clear hb4 KS
            go_wp2_with fail
            go_ret
            exact ⟨rfl, HB5.out⟩
          · have htI : ((t.length : Int) == 0) = false := beq_eq_false_iff_ne.2 (by omega)
            clear hT3 ht9
            go_wp2_with fail
            refine KD.mono ?_
            rintro x w3 ⟨v', rfl, hN, hb3⟩
            have KS := HKS.out w3 v' hN
            have HB4 := Lib.hid hb3
            obtain ⟨pa, pc, rfl⟩ := Nt.In.slice hN
            clear hN hb3 KD
            go_wp2_with fail
            refine KS.mono ?_
            rintro x w4 ⟨rfl, hb4⟩
            have HB5 := Lib.hid (HB3.out w4 (HB4.out.trans (hb4.mono HB4.out.size)))
            clear hb4 KS
            go_wp2_with fail
            go_ret
            exact ⟨rfl, HB5.out⟩
end Go.Proofs.YtikmebkfdpbidaaGreatDoor
namespace Go.Proofs.YtikmebkfdpbidaaGreatDoor
open Go.RowKit
set_option linter.unusedVariables false
set_option linter.unusedSimpArgs false

set_option maxHeartbeats 1000000 in
set_option maxRecDepth 100000 in
theorem Rn.SoundN_any (s1 s2 : Bool) (t1 b1 t2 b2 : List Nat) (v3 v4 v6 v7 : Value) (w : World) (i3 : Nt.In w v3 t1) (i4 : Nt.In w v4 b1) (i6 : Nt.In w v6 t2) (i7 : Nt.In w v7 b2) (ok1 : Rt.GOk t1 b1) (ok2 : Rt.GOk t2 b2) :
    Calls Tryz.prog 103 #[.agg #[.bool s1, v3, v4, .bool s2, v6, v7]] w fun e w' => e = .returned (.bool (Rt.sound s1 t1 b1 && Rt.sound s2 t2 b2)) ∧ Below w.heap.size w w' := by
  obtain ⟨a3, c3, rfl⟩ := i3.slice
  obtain ⟨a4, c4, rfl⟩ := i4.slice
  obtain ⟨a6, c6, rfl⟩ := i6.slice
  obtain ⟨a7, c7, rfl⟩ := i7.slice
  have hb0 : Below w.heap.size w (w.alloc (.cells #[.bool s1, .slice a3 t1.length c3, .slice a4 b1.length c4, .bool s2, .slice a6 t2.length c6, .slice a7 b2.length c7] 26)) := (Below.refl _ _).alloc (Nat.le_refl _) _
  have hq0 : (w.alloc (.cells #[.bool s1, .slice a3 t1.length c3, .slice a4 b1.length c4, .bool s2, .slice a6 t2.length c6, .slice a7 b2.length c7] 26)).heap[w.heap.size]? = some (.cells #[.bool s1, .slice a3 t1.length c3, .slice a4 b1.length c4, .bool s2, .slice a6 t2.length c6, .slice a7 b2.length c7] 26 (0, 0)) := heap_alloc_new w _
  have hz0 : (w.alloc (.cells #[.bool s1, .slice a3 t1.length c3, .slice a4 b1.length c4, .bool s2, .slice a6 t2.length c6, .slice a7 b2.length c7] 26)).heap.size = w.heap.size + 1 := by simp
  have K1 := Rn.RatSound_any s1 t1 b1 _ _ _ (i3.below hb0 (Nat.le_refl _)) (i4.below hb0 (Nat.le_refl _)) ok1
  have HK2 := Lib.hid (fun w' (hb : Below w.heap.size w w') => Rn.RatSound_any s2 t2 b2 _ _ w' (i6.below hb (Nat.le_refl _)) (i7.below hb (Nat.le_refl _)) ok2)
  have HF : Hid (∀ w', Below (w.heap.size + 1) (w.alloc (.cells #[.bool s1, .slice a3 t1.length c3, .slice a4 b1.length c4, .bool s2, .slice a6 t2.length c6, .slice a7 b2.length c7] 26)) w' → w'.cell? ⟨w.heap.size, 3, none⟩ = some (.bool s2) ∧ w'.cell? ⟨w.heap.size, 4, none⟩ = some (.slice a6 t2.length c6) ∧ w'.cell? ⟨w.heap.size, 5, none⟩ = some (.slice a7 b2.length c7) ∧ Below w.heap.size w w') := Lib.hid (fun w' hb => by
    have a0 := (hb.block w.heap.size (Nat.lt_succ_self _)).trans hq0
    refine ⟨?_, ?_, ?_, hb0.trans (hb.mono (Nat.le_succ _))⟩ <;> simp [World.cell?, a0])
  rw [hz0] at K1
  clear i3 i4 i6 i7 ok1 ok2 hb0 hq0 hz0
  generalize Rt.sound s1 t1 b1 = R1 at *
  generalize Rt.sound s2 t2 b2 = R2 at *
  go_enter Tryz.func103, Tryz.ntmps103
  go_wp2_with fail
  refine K1.mono ?_
  rintro x w1 ⟨rfl, hb1⟩
  obtain ⟨d3, d4, d5, hbw1⟩ := HF.out w1 hb1
  have HB1 := Lib.hid hbw1
  clear hb1 hbw1 K1
  cases R1
  · go_wp2_with fail
    go_ret
    exact ⟨rfl, HB1.out⟩
  · go_wp2_with fail
    refine (HK2.out w1 HB1.out).mono ?_
    rintro x w2 ⟨rfl, hb2⟩
    have HB2 := Lib.hid (HB1.out.trans (hb2.mono HB1.out.size))
    clear hb2 d3 d4 d5
    go_wp2_with fail
    go_ret
    exact ⟨rfl, HB2.out⟩
set_option maxHeartbeats 1000000 in
set_option maxRecDepth 100000 in
theorem Rn.noRat_any (s : Bool) (t b : List Nat) (v3 v4 : Value) (w : World) (h3 : Nt.In w v3 t) (h4 : Nt.In w v4 b) (hl1 : t.length ≤ 4611686018427387904) (hl2 : b.length ≤ 4611686018427387904) :
    Calls Tryz.prog 116 #[.agg #[.bool s, v3, v4]] w fun e w' => e = .returned (.bool (Rt.noRat s t b)) ∧ Below w.heap.size w w' := by
  obtain ⟨a3, c3, rfl⟩ := h3.slice
  obtain ⟨a4, c4, rfl⟩ := h4.slice
  have hb0 : ∀ o, Below w.heap.size w (w.alloc o) := fun o => (Below.refl _ _).alloc (Nat.le_refl _) _
  have HB0 := Lib.hid hb0
  unfold Rt.noRat
  clear h3 h4 hb0
  cases s
  · by_cases h0 : t.length = 0 ∧ b.length = 0
    · rw [h0.1, h0.2]
      clear hl1 hl2 h0
      go_enter Tryz.func116, Tryz.ntmps116
      go_wp2_with fail
      go_ret
      exact ⟨rfl, HB0.out _⟩
    · have hR : (!false && decide (t.length = 0) && decide (b.length = 0)) = false := by
        by_cases h1 : t.length = 0
        · have h2 : ¬ b.length = 0 := fun h => h0 ⟨h1, h⟩
          simp [h1, h2]
        · simp [h1]
      rw [hR]
      have hpos : 0 < (t.length : Int) + (b.length : Int) := by omega
      have hS : (wrap64 ((t.length : Int) + (b.length : Int)) == 0) = false := by
        refine beq_eq_false_iff_ne.2 ?_
        unfold wrap64
        omega
      generalize t.length = lt at *
      generalize b.length = lb at *
      clear hR h0
      go_enter Tryz.func116, Tryz.ntmps116
      go_wp2_with fail
      go_ret
      exact ⟨rfl, HB0.out _⟩
  · go_enter Tryz.func116, Tryz.ntmps116
    go_wp2_with fail
    go_ret
    exact ⟨rfl, HB0.out _⟩
set_option maxHeartbeats 1000000 in
set_option maxRecDepth 100000 in
theorem Rn.IsChar_any (n : Int) (w : World) : Calls Tryz.prog 117 #[.int .i64 n] w fun e w' => e = .returned (.bool (Tr.isChar n)) ∧ Below w.heap.size w w' := by
  unfold Tr.isChar
  by_cases h1 : 0 ≤ n
  · by_cases h2 : n ≤ 1114111
    · by_cases h3 : n < 55296
      · have hR : (decide (0 ≤ n) && decide (n ≤ 55295) || decide (57344 ≤ n) && decide (n ≤ 1114111)) = true := by
          rw [decide_eq_true h1, decide_eq_true (show n ≤ 55295 by omega)]; rfl
        rw [hR]
        clear hR
        go_enter Tryz.func117, Tryz.ntmps117
        go_wp2_with fail
        go_ret
        exact ⟨rfl, Below.refl _ _⟩
      · by_cases h4 : n > 57343
        · have hR : (decide (0 ≤ n) && decide (n ≤ 55295) || decide (57344 ≤ n) && decide (n ≤ 1114111)) = true := by
            rw [decide_eq_true (show 57344 ≤ n by omega), decide_eq_true h2]; simp
          rw [hR]
          clear hR
          go_enter Tryz.func117, Tryz.ntmps117
          go_wp2_with fail
          go_ret
          exact ⟨rfl, Below.refl _ _⟩
        · have hR : (decide (0 ≤ n) && decide (n ≤ 55295) || decide (57344 ≤ n) && decide (n ≤ 1114111)) = false := by
            rw [decide_eq_false (show ¬ 57344 ≤ n by omega), decide_eq_false (show ¬ n ≤ 55295 by omega)]; simp
          rw [hR]
          clear hR
          go_enter Tryz.func117, Tryz.ntmps117
          go_wp2_with fail
          go_ret
          exact ⟨rfl, Below.refl _ _⟩
    · have hR : (decide (0 ≤ n) && decide (n ≤ 55295) || decide (57344 ≤ n) && decide (n ≤ 1114111)) = false := by
        rw [decide_eq_false h2, decide_eq_false (show ¬ n ≤ 55295 by omega)]; simp
      rw [hR]
      clear hR
      go_enter Tryz.func117, Tryz.ntmps117
      go_wp2_with fail
      go_ret
      exact ⟨rfl, Below.refl _ _⟩
  · have hR : (decide (0 ≤ n) && decide (n ≤ 55295) || decide (57344 ≤ n) && decide (n ≤ 1114111)) = false := by
      rw [decide_eq_false h1, decide_eq_false (show ¬ 57344 ≤ n by omega)]; simp
    rw [hR]
    clear hR
    go_enter Tryz.func117, Tryz.ntmps117
    go_wp2_with fail
    go_ret
    exact ⟨rfl, Below.refl _ _⟩
end Go.Proofs.YtikmebkfdpbidaaGreatDoor
namespace Go.Proofs.YtikmebkfdpbidaaGreatDoor
set_option linter.unusedVariables false

/-- The small hexadecimal digit of d, less than 16. -/
def Wt.hx (d : Nat) : UInt8 := if d < 10 then UInt8.ofNat (48 + d) else UInt8.ofNat (87 + d)
/-- A number's small hexadecimal digits, the lowest first, at least one. -/
def Wt.hexLo (n : Nat) : List UInt8 := if h : n < 16 then [Wt.hx n] else Wt.hx (n % 16) :: Wt.hexLo (n / 16)
termination_by n
decreasing_by omega
def Wt.hex (n : Nat) : List UInt8 := (Wt.hexLo n).reverse
theorem Wt.hexLo_small {n : Nat} (h : n < 16) : Wt.hexLo n = [Wt.hx n] := by rw [Wt.hexLo, dif_pos h]
theorem Wt.hexLo_big {n : Nat} (h : ¬ n < 16) : Wt.hexLo n = Wt.hx (n % 16) :: Wt.hexLo (n / 16) := by rw [Wt.hexLo, dif_neg h]
theorem Wt.hex_small {n : Nat} (h : n < 16) : Wt.hex n = [Wt.hx n] := by unfold Wt.hex; rw [Wt.hexLo_small h]; rfl
theorem Wt.hex_big {n : Nat} (h : ¬ n < 16) : Wt.hex n = Wt.hex (n / 16) ++ [Wt.hx (n % 16)] := by unfold Wt.hex; rw [Wt.hexLo_big h, List.reverse_cons]
theorem Wt.hexLo_len : ∀ (k n : Nat), n < 16 ^ (k + 1) → (Wt.hexLo n).length ≤ k + 1
  | 0, n, h => by rw [Wt.hexLo_small (by simpa using h)]; simp
  | k + 1, n, h => by
    by_cases h16 : n < 16
    · rw [Wt.hexLo_small h16]; simp
    · rw [Wt.hexLo_big h16, List.length_cons]
      have := Wt.hexLo_len k (n / 16) (by
        rw [Nat.pow_succ] at h
        omega)
      omega
theorem Wt.hex_len {n : Nat} (h : n ≤ 1114111) : (Wt.hex n).length ≤ 6 := by
  unfold Wt.hex
  rw [List.length_reverse]
  exact Wt.hexLo_len 5 n (by omega)
theorem Wt.hx_tab : ∀ d : Fin 16, ((Wt.hx d.val).toNat : Int) = if d.val < 10 then 48 + (d.val : Int) else 87 + (d.val : Int) := by decide
theorem Wt.hx_toNat {d : Nat} (h : d < 16) : ((Wt.hx d).toNat : Int) = if d < 10 then 48 + (d : Int) else 87 + (d : Int) := Wt.hx_tab ⟨d, h⟩
theorem Wt.hx_tab2 : ((Wt.hx 0).toNat : Int) = 48 ∧ ((Wt.hx 1).toNat : Int) = 49 ∧ ((Wt.hx 2).toNat : Int) = 50 ∧ ((Wt.hx 3).toNat : Int) = 51 ∧ ((Wt.hx 4).toNat : Int) = 52 ∧ ((Wt.hx 5).toNat : Int) = 53 ∧ ((Wt.hx 6).toNat : Int) = 54 ∧ ((Wt.hx 7).toNat : Int) = 55 ∧ ((Wt.hx 8).toNat : Int) = 56 ∧ ((Wt.hx 9).toNat : Int) = 57 ∧ ((Wt.hx 10).toNat : Int) = 97 ∧ ((Wt.hx 11).toNat : Int) = 98 ∧ ((Wt.hx 12).toNat : Int) = 99 ∧ ((Wt.hx 13).toNat : Int) = 100 ∧ ((Wt.hx 14).toNat : Int) = 101 ∧ ((Wt.hx 15).toNat : Int) = 102 := by decide
end Go.Proofs.YtikmebkfdpbidaaGreatDoor
namespace Go.Proofs.YtikmebkfdpbidaaGreatDoor.Ch

def p1 (r : Int) : Prop := (97 ≤ r ∧ r ≤ 122) ∨ (224 ≤ r ∧ r ≤ 254 ∧ r ≠ 247) ∨ (945 ≤ r ∧ r ≤ 969 ∧ r ≠ 962) ∨ (1072 ≤ r ∧ r ≤ 1103)
def p2 (r : Int) : Prop := (65 ≤ r ∧ r ≤ 90) ∨ (192 ≤ r ∧ r ≤ 222 ∧ r ≠ 215) ∨ (913 ≤ r ∧ r ≤ 937 ∧ r ≠ 930) ∨ (1040 ≤ r ∧ r ≤ 1071)
def p3 (r : Int) : Prop := 1104 ≤ r ∧ r ≤ 1119
def p4 (r : Int) : Prop := 1024 ≤ r ∧ r ≤ 1039
def p5 (r : Int) : Prop := (256 ≤ r ∧ r ≤ 311 ∧ r ≠ 304 ∧ r ≠ 305) ∨ (330 ≤ r ∧ r ≤ 375)
def p6 (r : Int) : Prop := (313 ≤ r ∧ r ≤ 328) ∨ (377 ≤ r ∧ r ≤ 382)
instance (r : Int) : Decidable (p1 r) := by unfold p1; infer_instance
instance (r : Int) : Decidable (p2 r) := by unfold p2; infer_instance
instance (r : Int) : Decidable (p3 r) := by unfold p3; infer_instance
instance (r : Int) : Decidable (p4 r) := by unfold p4; infer_instance
instance (r : Int) : Decidable (p5 r) := by unfold p5; infer_instance
instance (r : Int) : Decidable (p6 r) := by unfold p6; infer_instance

/-- The small letter, the capital of the pair that r is in, and whether it is in one. -/
def pairZ (r : Int) : Int × Int × Bool :=
  if p1 r then (r, r - 32, true) else if p2 r then (r + 32, r, true) else if p3 r then (r, r - 80, true) else if p4 r then (r + 80, r, true)
  else if p5 r then (r - r % 2 + 1, r - r % 2, true) else if p6 r then (r - 1 + r % 2 + 1, r - 1 + r % 2, true) else (r, r, false)

def upZ (r : Int) : Int := if r = 962 then 931 else if r = 383 then 83 else if r = 255 then 376 else (pairZ r).2.1
def downZ (r : Int) : Int := if r = 376 then 255 else (pairZ r).1
def oddLetter (r : Int) : Bool := r == 170 || r == 181 || r == 186 || r == 223 || r == 255 || r == 304 || r == 305 || r == 312 || r == 329 || r == 376 || r == 383 || r == 962
def letterB (r : Int) : Bool := if oddLetter r = true then true else (pairZ r).2.2
def digitZ (r : Int) : Int := if 48 ≤ r ∧ r ≤ 57 then r - 48 else if 1632 ≤ r ∧ r ≤ 1641 then r - 1632 else -1
def blankB (r : Int) : Bool := r == 9 || r == 10 || r == 11 || r == 12 || r == 13 || r == 32 || r == 133 || r == 160 || r == 8232 || r == 8233

theorem pairZ_1 {r : Int} (h : p1 r) : pairZ r = (r, r - 32, true) := by simp [pairZ, h]
theorem pairZ_2 {r : Int} (h1 : ¬ p1 r) (h : p2 r) : pairZ r = (r + 32, r, true) := by simp [pairZ, h1, h]
theorem pairZ_3 {r : Int} (h1 : ¬ p1 r) (h2 : ¬ p2 r) (h : p3 r) : pairZ r = (r, r - 80, true) := by simp [pairZ, h1, h2, h]
theorem pairZ_4 {r : Int} (h1 : ¬ p1 r) (h2 : ¬ p2 r) (h3 : ¬ p3 r) (h : p4 r) : pairZ r = (r + 80, r, true) := by simp [pairZ, h1, h2, h3, h]
theorem pairZ_5 {r : Int} (h1 : ¬ p1 r) (h2 : ¬ p2 r) (h3 : ¬ p3 r) (h4 : ¬ p4 r) (h : p5 r) : pairZ r = (r - r % 2 + 1, r - r % 2, true) := by simp [pairZ, h1, h2, h3, h4, h]
theorem pairZ_6 {r : Int} (h1 : ¬ p1 r) (h2 : ¬ p2 r) (h3 : ¬ p3 r) (h4 : ¬ p4 r) (h5 : ¬ p5 r) (h : p6 r) : pairZ r = (r - 1 + r % 2 + 1, r - 1 + r % 2, true) := by simp [pairZ, h1, h2, h3, h4, h5, h]
theorem pairZ_0 {r : Int} (h1 : ¬ p1 r) (h2 : ¬ p2 r) (h3 : ¬ p3 r) (h4 : ¬ p4 r) (h5 : ¬ p5 r) (h6 : ¬ p6 r) : pairZ r = (r, r, false) := by simp [pairZ, h1, h2, h3, h4, h5, h6]

/-- Beyond the table nothing is a pair. -/
theorem pairZ_out {r : Int} (h : r < 0 ∨ 1300 ≤ r) : pairZ r = (r, r, false) :=
  pairZ_0 (by unfold p1; omega) (by unfold p2; omega) (by unfold p3; omega) (by unfold p4; omega) (by unfold p5; omega) (by unfold p6; omega)

theorem pairZ_bound (r : Int) (g0 : -2147483648 ≤ r) (g1 : r ≤ 2147483647) : (-2147483648 ≤ (pairZ r).1 ∧ (pairZ r).1 ≤ 2147483647) ∧ (-2147483648 ≤ (pairZ r).2.1 ∧ (pairZ r).2.1 ≤ 2147483647) := by
  by_cases h1 : p1 r
  · rw [pairZ_1 h1]; unfold p1 at h1; simp only []; omega
  by_cases h2 : p2 r
  · rw [pairZ_2 h1 h2]; unfold p2 at h2; simp only []; omega
  by_cases h3 : p3 r
  · rw [pairZ_3 h1 h2 h3]; unfold p3 at h3; simp only []; omega
  by_cases h4 : p4 r
  · rw [pairZ_4 h1 h2 h3 h4]; unfold p4 at h4; simp only []; omega
  by_cases h5 : p5 r
  · rw [pairZ_5 h1 h2 h3 h4 h5]; unfold p5 at h5; simp only []; omega
  by_cases h6 : p6 r
  · rw [pairZ_6 h1 h2 h3 h4 h5 h6]; unfold p6 at h6; simp only []; omega
  rw [pairZ_0 h1 h2 h3 h4 h5 h6]; simp only []; omega

theorem or1 : ∀ n : Fin 400, bits .or .i32 (n.val : Int) 1 = (n.val : Int) - (n.val : Int) % 2 + 1 := by decide +kernel
theorem an1 : ∀ n : Fin 400, bits .andNot .i32 (n.val : Int) 1 = (n.val : Int) - (n.val : Int) % 2 := by decide +kernel
theorem and1 : ∀ n : Fin 400, bits .and .i32 (n.val : Int) 1 = (n.val : Int) % 2 := by decide +kernel
theorem or_1 (r : Int) (h0 : 0 ≤ r) (h1 : r < 400) : bits .or .i32 r 1 = r - r % 2 + 1 := by
  obtain ⟨n, rfl⟩ := Int.eq_ofNat_of_zero_le h0
  exact or1 ⟨n, by omega⟩
theorem andNot_1 (r : Int) (h0 : 0 ≤ r) (h1 : r < 400) : bits .andNot .i32 r 1 = r - r % 2 := by
  obtain ⟨n, rfl⟩ := Int.eq_ofNat_of_zero_le h0
  exact an1 ⟨n, by omega⟩
theorem and_1 (r : Int) (h0 : 0 ≤ r) (h1 : r < 400) : bits .and .i32 r 1 = r % 2 := by
  obtain ⟨n, rfl⟩ := Int.eq_ofNat_of_zero_le h0
  exact and1 ⟨n, by omega⟩
end Go.Proofs.YtikmebkfdpbidaaGreatDoor.Ch
namespace Go.Proofs.YtikmebkfdpbidaaGreatDoor.Ch
open Ru

def upF (r : Int) : List Int := if r = 223 then [83, 83] else [upZ r]
def foldF (r : Int) : List Int := if r = 223 then [115, 115] else [downZ (upZ r)]
def upL (l : List UInt8) : List UInt8 := mapT upF l
def foldL (l : List UInt8) : List UInt8 := mapT foldF l

theorem foldF_out (r : Int) (h : 1300 ≤ r) : foldF r = [r] := by
  have h2 := pairZ_out (r := r) (by omega)
  have h1 : upZ r = r := by
    unfold upZ
    rw [if_neg (by omega), if_neg (by omega), if_neg (by omega), h2]
  unfold foldF
  rw [if_neg (by omega), h1]
  unfold downZ
  rw [if_neg (by omega), h2]
theorem upF_out (r : Int) (h : 1300 ≤ r) : upF r = [r] := by
  have h2 := pairZ_out (r := r) (by omega)
  unfold upF
  rw [if_neg (by omega)]
  unfold upZ
  rw [if_neg (by omega), if_neg (by omega), if_neg (by omega), h2]

theorem fold_ok_tab : ∀ n : Fin 1300, ∀ x ∈ foldF (n.val : Int), okR x ∧ foldF x = [x] := by decide +kernel
theorem up_ok_tab : ∀ n : Fin 1300, ∀ x ∈ upF (n.val : Int), okR x ∧ upF x = [x] := by decide +kernel
theorem upfold_tab : ∀ n : Fin 1300, (upF (n.val : Int)).flatMap foldF = foldF (n.val : Int) := by decide +kernel

theorem fold_ok (r : Int) (h : okR r) : ∀ x ∈ foldF r, okR x ∧ foldF x = [x] := by
  by_cases hr : 1300 ≤ r
  · intro x hx
    rw [foldF_out r hr, List.mem_singleton] at hx
    subst hx
    exact ⟨h, foldF_out x hr⟩
  · obtain ⟨n, rfl⟩ := Int.eq_ofNat_of_zero_le (a := r) (by unfold okR at h; omega)
    exact fold_ok_tab ⟨n, by omega⟩
theorem up_ok (r : Int) (h : okR r) : ∀ x ∈ upF r, okR x ∧ upF x = [x] := by
  by_cases hr : 1300 ≤ r
  · intro x hx
    rw [upF_out r hr, List.mem_singleton] at hx
    subst hx
    exact ⟨h, upF_out x hr⟩
  · obtain ⟨n, rfl⟩ := Int.eq_ofNat_of_zero_le (a := r) (by unfold okR at h; omega)
    exact up_ok_tab ⟨n, by omega⟩
theorem upfold (r : Int) (h : okR r) : (upF r).flatMap foldF = foldF r := by
  by_cases hr : 1300 ≤ r
  · rw [upF_out r hr]
    simp [foldF_out r hr]
  · obtain ⟨n, rfl⟩ := Int.eq_ofNat_of_zero_le (a := r) (by unfold okR at h; omega)
    exact upfold_tab ⟨n, by omega⟩

theorem flat_ok {F : Int → List Int} (hF : ∀ r, okR r → ∀ x ∈ F r, okR x) (rs : List Int) (h : ∀ r ∈ rs, okR r) : ∀ x ∈ rs.flatMap F, okR x := by
  intro x hx
  obtain ⟨r, hr, hx⟩ := List.mem_flatMap.1 hx
  exact hF r (h r hr) x hx
theorem flat_id {F : Int → List Int} : ∀ rs : List Int, (∀ r ∈ rs, F r = [r]) → rs.flatMap F = rs
  | [], _ => rfl
  | r :: rs, h => by rw [List.flatMap_cons, h r (by simp), flat_id rs (fun x hx => h x (by simp [hx]))]; rfl
theorem flat_congr {F G : Int → List Int} : ∀ rs : List Int, (∀ r ∈ rs, F r = G r) → rs.flatMap F = rs.flatMap G
  | [], _ => rfl
  | r :: rs, h => by rw [List.flatMap_cons, List.flatMap_cons, h r (by simp), flat_congr rs (fun x hx => h x (by simp [hx]))]

theorem mapT_mapT (F G : Int → List Int) (hF : ∀ r, okR r → ∀ x ∈ F r, okR x) (l : List UInt8) : mapT G (mapT F l) = encs ((runes l).flatMap fun r => (F r).flatMap G) := by
  unfold mapT
  rw [runes_of_encs _ (flat_ok hF _ (runes_okR l)), List.flatMap_assoc]

theorem fold_fold (l : List UInt8) : foldL (foldL l) = foldL l := by
  unfold foldL
  rw [mapT_mapT foldF foldF (fun r h x hx => (fold_ok r h x hx).1)]
  unfold mapT
  rw [flat_congr _ (fun r hr => flat_id _ (fun x hx => (fold_ok r (runes_okR l r hr) x hx).2))]
theorem fold_up (l : List UInt8) : foldL (upL l) = foldL l := by
  unfold foldL upL
  rw [mapT_mapT upF foldF (fun r h x hx => (up_ok r h x hx).1)]
  unfold mapT
  rw [flat_congr _ (fun r hr => upfold r (runes_okR l r hr))]
theorem up_up (l : List UInt8) : upL (upL l) = upL l := by
  unfold upL
  rw [mapT_mapT upF upF (fun r h x hx => (up_ok r h x hx).1)]
  unfold mapT
  rw [flat_congr _ (fun r hr => flat_id _ (fun x hx => (up_ok r (runes_okR l r hr) x hx).2))]

theorem encs_len : ∀ rs : List Int, (encs rs).length ≤ 4 * rs.length
  | [] => by simp [encs]
  | r :: rs => by
    rw [encs_cons, List.length_append, List.length_cons]
    have := encs_len rs
    have := (encode_length r).2
    omega
theorem runes_len : ∀ (f : Nat) (l : List UInt8), l.length ≤ f → (runes l).length ≤ l.length
  | 0, l, h => by
    have : l = [] := List.length_eq_zero_iff.1 (by omega)
    subst this
    simp [runes_nil]
  | f + 1, l, h => by
    by_cases hl : l = []
    · subst hl; simp [runes_nil]
    · have h1 := width_pos l hl
      have h2 := width_le l hl
      rw [runes_step l hl, List.length_cons]
      have := runes_len f (l.drop (Go.Lib.decodeL l).2) (by simp; omega)
      simp at this
      omega
theorem flat_len {F : Int → List Int} (hF : ∀ r, (F r).length ≤ 2) : ∀ rs : List Int, (rs.flatMap F).length ≤ 2 * rs.length
  | [] => by simp
  | r :: rs => by
    rw [List.flatMap_cons, List.length_append, List.length_cons]
    have := flat_len hF rs
    have := hF r
    omega
theorem mapT_len {F : Int → List Int} (hF : ∀ r, (F r).length ≤ 2) (l : List UInt8) : (mapT F l).length ≤ 8 * l.length := by
  unfold mapT
  have := encs_len ((runes l).flatMap F)
  have := flat_len hF (runes l)
  have := runes_len l.length l (Nat.le_refl _)
  omega
theorem upF_len (r : Int) : (upF r).length ≤ 2 := by unfold upF; split <;> simp
theorem foldF_len (r : Int) : (foldF r).length ≤ 2 := by unfold foldF; split <;> simp
end Go.Proofs.YtikmebkfdpbidaaGreatDoor.Ch
namespace Go.Proofs.YtikmebkfdpbidaaGreatDoor
open Go.RowKit
set_option linter.unusedVariables false

/-- Is it a character that is written by its number? -/
def Wt.odd (r : Int) : Bool := decide (r < 32) || (decide (127 ≤ r) && decide (r ≤ 159))
/-- A character's name; none: it has none. -/
def Wt.name (n : Int) : List UInt8 :=
  if n = 0 then [110, 117, 108] else if n = 7 then [97, 108, 97, 114, 109] else if n = 8 then [98, 97, 99, 107, 115, 112, 97, 99, 101] else if n = 9 then [116, 97, 98]
  else if n = 10 then [110, 101, 119, 108, 105, 110, 101] else if n = 11 then [118, 116, 97, 98] else if n = 12 then [112, 97, 103, 101] else if n = 13 then [114, 101, 116, 117, 114, 110]
  else if n = 27 then [101, 115, 99] else if n = 32 then [115, 112, 97, 99, 101] else if n = 127 then [100, 101, 108, 101, 116, 101] else []
theorem Wt.name_len (n : Int) : (Wt.name n).length ≤ 9 := by
  unfold Wt.name
  repeat' split
  all_goals decide
/-- A character. -/
def Wt.chr (m : Bool) (n : Int) : List UInt8 :=
  if m = false then Lib.encodeRune n else if Wt.name n ≠ [] then [35, 92] ++ Wt.name n else if (Wt.odd n || Ch.blankB n) = true then [35, 92, 120] ++ Wt.hex n.toNat else [35, 92] ++ Lib.encodeRune n
/-- A character of a text, or of a symbol, by its number. -/
def Wt.esc (r : Int) : List UInt8 := [92, 120] ++ (Wt.hex r.toNat ++ [59])
/-- A character of a text. -/
def Wt.strU (r : Int) : List UInt8 :=
  if r = 7 then [92, 97] else if r = 8 then [92, 98] else if r = 9 then [92, 116] else if r = 10 then [92, 110] else if r = 11 then [92, 118] else if r = 12 then [92, 102] else if r = 13 then [92, 114]
  else if r = 34 then [92, 34] else if r = 92 then [92, 92] else if (Wt.odd r || decide (r = 8232) || decide (r = 65279)) = true then Wt.esc r else Lib.encodeRune r
def Wt.str (l : List UInt8) : List UInt8 := 34 :: ((Ru.runes l).flatMap Wt.strU ++ [34])
/-- May a symbol begin with it? -/
def Wt.firstB (r : Int) : Bool := Ch.letterB r || (decide (r = 33) || decide (r = 36) || decide (r = 37) || decide (r = 38) || decide (r = 42) || decide (r = 47) || decide (r = 58) || decide (r = 60) || decide (r = 61) || decide (r = 62) || decide (r = 63) || decide (r = 94) || decide (r = 95) || decide (r = 126)) || (decide (127 < r) && !Ch.blankB r)
/-- May it stand behind a symbol's first character? -/
def Wt.restB (r : Int) : Bool := Wt.firstB r || (decide (48 ≤ r) && decide (r ≤ 57)) || (decide (r = 43) || decide (r = 45) || decide (r = 46) || decide (r = 64))
/-- A character of a symbol. -/
def Wt.symU (first : Bool) (r : Int) : List UInt8 := if (if first = true then Wt.firstB r else Wt.restB r) = true then Lib.encodeRune r else Wt.esc r
def Wt.syms : Bool → List Int → List UInt8
  | _, [] => []
  | f, r :: rs => Wt.symU f r ++ Wt.syms false rs
/-- A symbol that has characters: with an arrow ahead, or without. -/
def Wt.symL : List UInt8 → List UInt8
  | 45 :: 62 :: t => [45, 62] ++ Wt.syms false (Ru.runes t)
  | l => Wt.syms true (Ru.runes l)
/-- A symbol. -/
def Wt.sym (l : List UInt8) : List UInt8 := if l = [43] ∨ l = [45] ∨ l = [46, 46, 46] then l else if l = [] then [124, 124] else Wt.symL l
theorem Wt.enc_len (r : Int) : (Lib.encodeRune r).length ≤ 4 := (Ru.encode_length r).2
theorem Wt.esc_len {r : Int} (h : Ru.okR r) : (Wt.esc r).length ≤ 9 := by
  unfold Wt.esc
  have := Wt.hex_len (n := r.toNat) (by unfold Ru.okR at h; omega)
  simp only [List.length_append, List.length_cons, List.length_nil]
  omega
theorem Wt.strU_len {r : Int} (h : Ru.okR r) : (Wt.strU r).length ≤ 9 := by
  have h1 := Wt.esc_len h
  have h2 := Wt.enc_len r
  unfold Wt.strU
  repeat' split
  all_goals (first | exact h1 | (simp only [List.length_cons, List.length_nil]; omega) | omega)
theorem Wt.symU_len {f : Bool} {r : Int} (h : Ru.okR r) : (Wt.symU f r).length ≤ 9 := by
  have h1 := Wt.esc_len h
  have h2 := Wt.enc_len r
  unfold Wt.symU
  repeat' split
  all_goals omega
theorem Wt.flat_len {F : Int → List UInt8} : ∀ (rs : List Int), (∀ r ∈ rs, (F r).length ≤ 9) → (rs.flatMap F).length ≤ 9 * rs.length
  | [], _ => by simp
  | r :: rs, h => by
    rw [List.flatMap_cons, List.length_append, List.length_cons]
    have := Wt.flat_len rs (fun x hx => h x (by simp [hx]))
    have := h r (by simp)
    omega
theorem Wt.runes_len (l : List UInt8) : (Ru.runes l).length ≤ l.length := Ch.runes_len l.length l (Nat.le_refl _)
theorem Wt.str_len (l : List UInt8) : (Wt.str l).length ≤ 9 * l.length + 2 := by
  unfold Wt.str
  have h1 := Wt.flat_len (F := Wt.strU) (Ru.runes l) (fun r hr => Wt.strU_len (Ru.runes_okR l r hr))
  have h2 := Wt.runes_len l
  simp only [List.length_append, List.length_cons, List.length_nil]
  omega
theorem Wt.syms_len : ∀ (f : Bool) (rs : List Int), (∀ r ∈ rs, Ru.okR r) → (Wt.syms f rs).length ≤ 9 * rs.length
  | _, [], _ => by simp [Wt.syms]
  | f, r :: rs, h => by
    rw [Wt.syms, List.length_append, List.length_cons]
    have := Wt.syms_len false rs (fun x hx => h x (by simp [hx]))
    have := Wt.symU_len (f := f) (h r (by simp))
    omega
theorem Wt.symL_len (l : List UInt8) : (Wt.symL l).length ≤ 9 * l.length + 2 := by
  unfold Wt.symL
  split
  · rename_i t
    have h1 := Wt.syms_len false (Ru.runes t) (Ru.runes_okR t)
    have h2 := Wt.runes_len t
    simp only [List.length_append, List.length_cons, List.length_nil]
    omega
  · have h1 := Wt.syms_len true (Ru.runes l) (Ru.runes_okR l)
    have h2 := Wt.runes_len l
    omega
theorem Wt.sym_len (l : List UInt8) : (Wt.sym l).length ≤ 9 * l.length + 2 := by
  have := Wt.symL_len l
  unfold Wt.sym
  split
  · omega
  · split
    · simp
    · omega
theorem Wt.chr_len (m : Bool) {n : Int} (h : Ru.okR n) : (Wt.chr m n).length ≤ 11 := by
  have h1 := Wt.enc_len n
  have h2 := Wt.name_len n
  have h3 := Wt.hex_len (n := n.toNat) (by unfold Ru.okR at h; omega)
  unfold Wt.chr
  repeat' split
  all_goals (first | omega | (simp only [List.length_append, List.length_cons, List.length_nil]; omega))
end Go.Proofs.YtikmebkfdpbidaaGreatDoor
namespace Go.Proofs.YtikmebkfdpbidaaGreatDoor
open Go.RowKit
set_option linter.unusedVariables false

theorem Dt.cell_of {w : World} {b : Nat} {C : Array Value} {t : TypeId} (h : w.heap[b]? = some (.cells C t (0, 0))) (k : Nat) : w.cell? ⟨b, k, none⟩ = C[k]? := by
  simp [World.cell?, h]
theorem Dt.setCells {w : World} {b : Nat} {C : Array Value} {t : TypeId} (h : w.heap[b]? = some (.cells C t (0, 0))) (k : Nat) (u : Value) : (w.setCell ⟨b, k, none⟩ u).heap[b]? = some (.cells (C.set! k u) t (0, 0)) := by
  obtain ⟨hlt, hk⟩ := Array.getElem?_eq_some_iff.1 h
  show (w.heap.modify b _)[b]? = _
  rw [Array.getElem?_eq_getElem (by rw [Array.size_modify]; exact hlt), Array.getElem_modify_self, hk]
  rfl
theorem Dt.frozen_of {w : World} {b : Nat} {C : Array Value} {t : TypeId} (h : w.heap[b]? = some (.cells C t (0, 0))) (k : Nat) : w.frozen? ⟨b, k, none⟩ = false := by
  simp [World.frozen?, h]
theorem Dt.cells11 {w : World} {b : Nat} {v0 v1 v2 v3 v4 v5 v6 v7 v8 v9 v10 : Value} {t : TypeId} (h : w.heap[b]? = some (.cells #[v0, v1, v2, v3, v4, v5, v6, v7, v8, v9, v10] t (0, 0))) :
    w.cell? ⟨b, 0, none⟩ = some v0 ∧ w.cell? ⟨b, 1, none⟩ = some v1 ∧ w.cell? ⟨b, 2, none⟩ = some v2 ∧ w.cell? ⟨b, 3, none⟩ = some v3 ∧ w.cell? ⟨b, 4, none⟩ = some v4 ∧ w.cell? ⟨b, 5, none⟩ = some v5 ∧ w.cell? ⟨b, 6, none⟩ = some v6 ∧ w.cell? ⟨b, 7, none⟩ = some v7 ∧ w.cell? ⟨b, 8, none⟩ = some v8 ∧ w.cell? ⟨b, 9, none⟩ = some v9 ∧ w.cell? ⟨b, 10, none⟩ = some v10 :=
  ⟨Dt.cell_of h 0, Dt.cell_of h 1, Dt.cell_of h 2, Dt.cell_of h 3, Dt.cell_of h 4, Dt.cell_of h 5, Dt.cell_of h 6, Dt.cell_of h 7, Dt.cell_of h 8, Dt.cell_of h 9, Dt.cell_of h 10⟩

theorem Dt.ext1 (a : UInt8) (t : List UInt8) : (⟨(a :: t).toArray⟩ : ByteArray).extract 1 (t.length + 1) = ⟨t.toArray⟩ := by
  apply ByteArray.ext
  rw [ByteArray.data_extract]
  simp
/-- The cells of a leaf: its kind, its text, its (empty) list. -/
def Dt.cells (k : Int) (s : ByteArray) (lst : Value) : Array Value := #[.int .i64 k, .int .i64 0, .bool false, .slice none 0 0, .slice none 0 0, .bool false, .slice none 0 0, .slice none 0 0, .string s, .slice none 0 0, lst]
def Dt.leaf (k : Int) (s : ByteArray) (lst : Value) : Value := .agg (Dt.cells k s lst)

set_option maxHeartbeats 4000000 in
set_option maxRecDepth 1000000 in
theorem Dt.valid_short (l : List UInt8) (hl : l.length ≤ 8) (ha : ∀ x ∈ l, x.toNat < 128) (w : World) :
    Calls Tryz.prog 181 #[.string ⟨l.toArray⟩] w fun e w' => e = .returned (.bool true) ∧ Below w.heap.size w w' := by
  go_enter Tryz.func181, Tryz.ntmps181
  go_wp2_with fail
  go_loopw [0] (fun i wr => ∃ m : List UInt8, i = .string ⟨m.toArray⟩ ∧ m.length ≤ 8 ∧ (∀ x ∈ m, x.toNat < 128) ∧ wr = w) (fun i _ => match i with | .string s => s.size | _ => 0)
  case atStart => exact ⟨l, rfl, hl, ha, rfl⟩
  case round =>
    obtain ⟨m, rfl, hm, hx, rfl⟩ := hrel
    cases m with
    | nil =>
      go_wp2_with fail
      go_ret
      exact ⟨rfl, Below.refl _ _⟩
    | cons a t =>
      have ha1 := hx a (List.mem_cons_self)
      have hlen : ((t.length : Int) + 1) > 0 := by omega
      have hlen2 : ¬ ((t.length : Int) > 8) := by simp at hm; omega
      have ha2 : ((⟨(a :: t).toArray⟩ : ByteArray)[0]'(show 0 < (a :: t).toArray.size by simp)).toNat < 128 := ha1
      go_wp2_with fail
      rw [Dt.ext1]
      refine ⟨⟨t, rfl, by simp at hm; omega, fun x h => hx x (List.mem_cons_of_mem _ h), trivial⟩, ?_⟩
      show t.toArray.size < (a :: t).toArray.size
      simp

set_option maxHeartbeats 4000000 in
set_option maxRecDepth 1000000 in
theorem Dt.noRat_none (w : World) : Calls Tryz.prog 180 #[.agg #[.bool false, .slice none 0 0, .slice none 0 0]] w fun e w' => e = .returned (.bool true) ∧ Below w.heap.size w w' := by
  go_enter Tryz.func180, Tryz.ntmps180
  go_wp2
  go_ret
  exact ⟨rfl, (Below.refl _ _).alloc (Nat.le_refl _) _⟩

set_option maxHeartbeats 4000000 in
set_option maxRecDepth 1000000 in
theorem Dt.shape_leaf (k : Int) (s : ByteArray) (lst : Value) (hk : k = 1 ∧ s = ⟨#[]⟩ ∨ k = 2 ∧ s = ⟨#[]⟩ ∨ k = 5 ∨ k = 6) (hl : ∃ ad cap, lst = .slice ad 0 cap)
    (hV : ∀ w : World, Calls Tryz.prog 181 #[.string s] w fun e w' => e = .returned (.bool true) ∧ Below w.heap.size w w') (w : World) :
    Calls Tryz.prog 136 #[Dt.leaf k s lst] w fun e w' => e = .returned (.bool true) ∧ Below w.heap.size w w' := by
  have HV := Lib.hid hV; clear hV
  obtain ⟨ad, cap, rfl⟩ := hl
  have HN := Lib.hid (fun w => Dt.noRat_none w)
  rcases hk with ⟨rfl, rfl⟩ | ⟨rfl, rfl⟩ | rfl | rfl
  all_goals
    unfold Dt.leaf Dt.cells
    go_enter Tryz.func136, Tryz.ntmps136
    go_wp2_with fail
    refine (HN.out _).mono ?_
    rintro x w1 ⟨rfl, hb1⟩
    have q1 := (hb1.block w.heap.size (by simp)).trans (heap_alloc_new w _)
    have HB1 := Lib.hid (((Below.refl w.heap.size w).alloc (Nat.le_refl _) _).trans (hb1.mono (by simp)))
    obtain ⟨c0, c1, c2, c3, c4, c5, c6, c7, c8, c9, c10⟩ := Dt.cells11 q1
    have Q1 := Lib.hid q1
    have hs1 := HB1.out.size
    have hsz1 : w.heap.size < w1.heap.size := (Array.getElem?_eq_some_iff.1 q1).1
    clear hb1 q1
    go_wp2_with fail
    refine (HN.out _).mono ?_
    rintro x w2 ⟨rfl, hb2⟩
    clear c0 c1 c2 c3 c4 c5 c6 c7 c8 c9 c10
    have q2 := (hb2.block w.heap.size hsz1).trans Q1.out
    have HB2 := Lib.hid (HB1.out.trans (hb2.mono hs1))
    obtain ⟨c0, c1, c2, c3, c4, c5, c6, c7, c8, c9, c10⟩ := Dt.cells11 q2
    have Q2 := Lib.hid q2
    have hs2 := HB2.out.size
    have hsz2 : w.heap.size < w2.heap.size := (Array.getElem?_eq_some_iff.1 q2).1
    clear hb2 q2
    go_wp2_with fail
    refine (HV.out _).mono ?_
    rintro x w3 ⟨rfl, hb3⟩
    clear c0 c1 c2 c3 c4 c5 c6 c7 c8 c9 c10
    have q3 := (hb3.block w.heap.size hsz2).trans Q2.out
    have HB3 := Lib.hid (HB2.out.trans (hb3.mono hs2))
    obtain ⟨c0, c1, c2, c3, c4, c5, c6, c7, c8, c9, c10⟩ := Dt.cells11 q3
    clear hb3 q3
    go_wp2
    go_ret
    exact ⟨rfl, HB3.out⟩
end Go.Proofs.YtikmebkfdpbidaaGreatDoor
namespace Go.Proofs.YtikmebkfdpbidaaGreatDoor
open Go.RowKit
set_option linter.unusedVariables false

theorem Dt.set_new (w : World) (p : Addr) (u : Value) (o : Obj) : ((w.setCell p u).alloc o).heap[w.heap.size]? = some o := by
  have := heap_alloc_new (w.setCell p u) o
  rwa [show (w.setCell p u).heap.size = w.heap.size by simp] at this
def Dt.valid (s : ByteArray) : Prop := ∀ w : World, Calls Tryz.prog 181 #[.string s] w fun e w' => e = .returned (.bool true) ∧ Below w.heap.size w w'
def Dt.kindOk (k : Int) (s : ByteArray) : Prop := k = 1 ∧ s = ⟨#[]⟩ ∨ k = 2 ∧ s = ⟨#[]⟩ ∨ k = 5 ∨ k = 6

set_option maxHeartbeats 4000000 in
set_option maxRecDepth 1000000 in
theorem Dt.sound_leaf (k : Int) (s : ByteArray) (lst : Value) (hk : Dt.kindOk k s) (hl : ∃ ad cap, lst = .slice ad 0 cap) (hV : Dt.valid s)
    (d : Int) (hd : d ≤ 200) (hd0 : 0 ≤ d) (n : Int) (hn : 1 ≤ n) (hn2 : n ≤ 20000) (p : Nat) (w : World) (hp : w.heap[p]? = some (.cells #[.int .i64 n] 3 (0, 0))) :
    Calls Tryz.prog 90 #[Dt.leaf k s lst, .int .i64 d, .pointer (some ⟨p, 0, none⟩)] w fun e w' => e = .returned (.bool true) ∧ w'.heap[p]? = some (.cells #[.int .i64 (n - 1)] 3 (0, 0)) ∧ Below p w w' := by
  have KS := Lib.hid (fun w => Dt.shape_leaf k s lst hk hl hV w)
  have hlt : p < w.heap.size := (Array.getElem?_eq_some_iff.1 hp).1
  have hk8 : (k == 8) = false := by
    rcases hk with ⟨rfl, _⟩ | ⟨rfl, _⟩ | rfl | rfl <;> rfl
  have hk8b : ¬ (k = 8) := by
    rcases hk with ⟨rfl, _⟩ | ⟨rfl, _⟩ | rfl | rfl <;> decide
  obtain ⟨ad, cap, rfl⟩ := hl
  have p0 := Dt.cell_of hp 0
  have z0 := Dt.frozen_of hp 0
  have q0 := Dt.setCells hp 0 (.int .i64 (n - 1))
  have p1 : (w.setCell ⟨p, 0, none⟩ (.int .i64 (n - 1))).cell? ⟨p, 0, none⟩ = some (.int .i64 (n - 1)) := Dt.cell_of q0 0
  have hsz0 : (w.setCell ⟨p, 0, none⟩ (.int .i64 (n - 1))).heap.size = w.heap.size := by simp
  have HSZ := Lib.hid hsz0
  have Q0 := Lib.hid q0
  have HB0 : Hid (Below p w (w.setCell ⟨p, 0, none⟩ (.int .i64 (n - 1)))) := Lib.hid (by exact (Below.refl p w).setCell (Nat.le_refl p) _)
  have hn3 : ¬ (n - 1 < 0) := by omega
  have hd3 : ¬ (d > 200) := by omega
  clear q0 hp hk hV hsz0
  unfold Dt.leaf Dt.cells at *
  go_enter Tryz.func90, Tryz.ntmps90
  go_wp2_with fail
  go_loopw [] (fun wr => wr = w.alloc (.cells #[.int .i64 k, .int .i64 0, .bool false, .slice none 0 0, .slice none 0 0, .bool false, .slice none 0 0, .slice none 0 0, .string s, .slice none 0 0, .slice ad 0 cap] 30)) (fun _ => 0)
  case atStart => exact rfl
  case round =>
    obtain rfl := hrel
    go_wp2_with fail
    refine (KS.out _).mono ?_
    rintro x w1 ⟨rfl, hb1⟩
    have q1 := (hb1.block w.heap.size (by simp)).trans (Dt.set_new _ _ _ _)
    have qp : w1.heap[p]? = some (.cells #[.int .i64 (n - 1)] 3 (0, 0)) := (hb1.block p (by simp; omega)).trans ((Lib.alloc_old _ _ _ (by rw [HSZ.out]; exact hlt)).trans Q0.out)
    have QP := Lib.hid qp
    have HB1 := Lib.hid ((HB0.out.alloc (by rw [HSZ.out]; omega) _).trans (hb1.mono (by simp; omega)))
    obtain ⟨c0, c1, c2, c3, c4, c5, c6, c7, c8, c9, c10⟩ := Dt.cells11 q1
    clear hb1 q1 qp p0 z0 p1
    go_wp2_with fail
    go_loopw [46] (fun i wr => i = .int .i64 0 ∧ wr = w1) (fun _ _ => 0)
    case atStart => exact ⟨rfl, rfl⟩
    case round =>
      obtain ⟨rfl, rfl⟩ := hrel
      go_wp2_with fail
      go_ret
      exact ⟨rfl, QP.out, HB1.out⟩

set_option maxHeartbeats 4000000 in
set_option maxRecDepth 1000000 in
theorem Dt.Sound_leaf (k : Int) (s : ByteArray) (lst : Value) (hk : Dt.kindOk k s) (hl : ∃ ad cap, lst = .slice ad 0 cap) (hV : Dt.valid s) (w : World) :
    Calls Tryz.prog 60 #[Dt.leaf k s lst] w fun e w' => e = .returned (.bool true) ∧ Below w.heap.size w w' := by
  have KS := fun (w : World) hp => Dt.sound_leaf k s lst hk hl hV 1 (by decide) (by decide) 20000 (by decide) (by decide) (w.heap.size - 1) w hp
  have hnew : ∀ o, ((w.alloc o).alloc (.cells #[.int .i64 20000] 3)).heap[w.heap.size + 1]? = some (.cells #[.int .i64 20000] 3 (0, 0)) := by
    intro o
    have := heap_alloc_new (w.alloc o) (.cells #[.int .i64 20000] 3)
    rwa [show (w.alloc o).heap.size = w.heap.size + 1 by simp] at this
  have hsz : ∀ o, ((w.alloc o).alloc (.cells #[.int .i64 20000] 3)).heap.size - 1 = w.heap.size + 1 := by intro o; simp
  have hb0 : ∀ o o2, Below w.heap.size w ((w.alloc o).alloc o2) := fun o o2 => ((Below.refl _ _).alloc (Nat.le_refl _) _).alloc (by simp) _
  obtain ⟨ad, cap, rfl⟩ := hl
  clear hk hV
  unfold Dt.leaf Dt.cells at *
  go_enter Tryz.func60, Tryz.ntmps60
  go_wp2_with fail
  have K := KS _ (by rw [hsz]; exact hnew (.cells #[.int .i64 k, .int .i64 0, .bool false, .slice none 0 0, .slice none 0 0, .bool false, .slice none 0 0, .slice none 0 0, .string s, .slice none 0 0, .slice ad 0 cap] 30))
  rw [hsz] at K
  refine K.mono ?_
  rintro x w1 ⟨rfl, _, hb1⟩
  have HB := Lib.hid ((hb0 _ _).trans (hb1.mono (by omega)))
  clear hb1 K KS hnew hsz hb0
  go_wp2
  go_ret
  exact ⟨rfl, HB.out⟩
end Go.Proofs.YtikmebkfdpbidaaGreatDoor
namespace Go.Proofs.YtikmebkfdpbidaaGreatDoor
open Go.RowKit
set_option linter.unusedVariables false
theorem Dt.below_set {w0 w : World} {B : Nat} (h : Below B w0 w) (b k : Nat) (u : Value) (hb : B ≤ b) : Below B w0 (w.setCell ⟨b, k, none⟩ u) := by
  exact h.setCell hb _
theorem Dt.store11 {w : World} {b : Nat} {v0 v1 v2 v3 v4 v5 v6 v7 v8 v9 v10 : Value} {t : TypeId} (h : w.heap[b]? = some (.cells #[v0, v1, v2, v3, v4, v5, v6, v7, v8, v9, v10] t (0, 0))) (u0 u1 u2 u3 u4 u5 u6 u7 u8 u9 u10 : Value) :
    w.cell? ⟨b, 0, none⟩ = some v0 ∧
    w.frozen? ⟨b, 0, none⟩ = false ∧
    (w.setCell ⟨b, 0, none⟩ u0).cell? ⟨b, 1, none⟩ = some v1 ∧
    (w.setCell ⟨b, 0, none⟩ u0).frozen? ⟨b, 1, none⟩ = false ∧
    ((w.setCell ⟨b, 0, none⟩ u0).setCell ⟨b, 1, none⟩ u1).cell? ⟨b, 2, none⟩ = some v2 ∧
    ((w.setCell ⟨b, 0, none⟩ u0).setCell ⟨b, 1, none⟩ u1).frozen? ⟨b, 2, none⟩ = false ∧
    (((w.setCell ⟨b, 0, none⟩ u0).setCell ⟨b, 1, none⟩ u1).setCell ⟨b, 2, none⟩ u2).cell? ⟨b, 3, none⟩ = some v3 ∧
    (((w.setCell ⟨b, 0, none⟩ u0).setCell ⟨b, 1, none⟩ u1).setCell ⟨b, 2, none⟩ u2).frozen? ⟨b, 3, none⟩ = false ∧
    ((((w.setCell ⟨b, 0, none⟩ u0).setCell ⟨b, 1, none⟩ u1).setCell ⟨b, 2, none⟩ u2).setCell ⟨b, 3, none⟩ u3).cell? ⟨b, 4, none⟩ = some v4 ∧
    ((((w.setCell ⟨b, 0, none⟩ u0).setCell ⟨b, 1, none⟩ u1).setCell ⟨b, 2, none⟩ u2).setCell ⟨b, 3, none⟩ u3).frozen? ⟨b, 4, none⟩ = false ∧
    (((((w.setCell ⟨b, 0, none⟩ u0).setCell ⟨b, 1, none⟩ u1).setCell ⟨b, 2, none⟩ u2).setCell ⟨b, 3, none⟩ u3).setCell ⟨b, 4, none⟩ u4).cell? ⟨b, 5, none⟩ = some v5 ∧
    (((((w.setCell ⟨b, 0, none⟩ u0).setCell ⟨b, 1, none⟩ u1).setCell ⟨b, 2, none⟩ u2).setCell ⟨b, 3, none⟩ u3).setCell ⟨b, 4, none⟩ u4).frozen? ⟨b, 5, none⟩ = false ∧
    ((((((w.setCell ⟨b, 0, none⟩ u0).setCell ⟨b, 1, none⟩ u1).setCell ⟨b, 2, none⟩ u2).setCell ⟨b, 3, none⟩ u3).setCell ⟨b, 4, none⟩ u4).setCell ⟨b, 5, none⟩ u5).cell? ⟨b, 6, none⟩ = some v6 ∧
    ((((((w.setCell ⟨b, 0, none⟩ u0).setCell ⟨b, 1, none⟩ u1).setCell ⟨b, 2, none⟩ u2).setCell ⟨b, 3, none⟩ u3).setCell ⟨b, 4, none⟩ u4).setCell ⟨b, 5, none⟩ u5).frozen? ⟨b, 6, none⟩ = false ∧
    (((((((w.setCell ⟨b, 0, none⟩ u0).setCell ⟨b, 1, none⟩ u1).setCell ⟨b, 2, none⟩ u2).setCell ⟨b, 3, none⟩ u3).setCell ⟨b, 4, none⟩ u4).setCell ⟨b, 5, none⟩ u5).setCell ⟨b, 6, none⟩ u6).cell? ⟨b, 7, none⟩ = some v7 ∧
    (((((((w.setCell ⟨b, 0, none⟩ u0).setCell ⟨b, 1, none⟩ u1).setCell ⟨b, 2, none⟩ u2).setCell ⟨b, 3, none⟩ u3).setCell ⟨b, 4, none⟩ u4).setCell ⟨b, 5, none⟩ u5).setCell ⟨b, 6, none⟩ u6).frozen? ⟨b, 7, none⟩ = false ∧
    ((((((((w.setCell ⟨b, 0, none⟩ u0).setCell ⟨b, 1, none⟩ u1).setCell ⟨b, 2, none⟩ u2).setCell ⟨b, 3, none⟩ u3).setCell ⟨b, 4, none⟩ u4).setCell ⟨b, 5, none⟩ u5).setCell ⟨b, 6, none⟩ u6).setCell ⟨b, 7, none⟩ u7).cell? ⟨b, 8, none⟩ = some v8 ∧
    ((((((((w.setCell ⟨b, 0, none⟩ u0).setCell ⟨b, 1, none⟩ u1).setCell ⟨b, 2, none⟩ u2).setCell ⟨b, 3, none⟩ u3).setCell ⟨b, 4, none⟩ u4).setCell ⟨b, 5, none⟩ u5).setCell ⟨b, 6, none⟩ u6).setCell ⟨b, 7, none⟩ u7).frozen? ⟨b, 8, none⟩ = false ∧
    (((((((((w.setCell ⟨b, 0, none⟩ u0).setCell ⟨b, 1, none⟩ u1).setCell ⟨b, 2, none⟩ u2).setCell ⟨b, 3, none⟩ u3).setCell ⟨b, 4, none⟩ u4).setCell ⟨b, 5, none⟩ u5).setCell ⟨b, 6, none⟩ u6).setCell ⟨b, 7, none⟩ u7).setCell ⟨b, 8, none⟩ u8).cell? ⟨b, 9, none⟩ = some v9 ∧
    (((((((((w.setCell ⟨b, 0, none⟩ u0).setCell ⟨b, 1, none⟩ u1).setCell ⟨b, 2, none⟩ u2).setCell ⟨b, 3, none⟩ u3).setCell ⟨b, 4, none⟩ u4).setCell ⟨b, 5, none⟩ u5).setCell ⟨b, 6, none⟩ u6).setCell ⟨b, 7, none⟩ u7).setCell ⟨b, 8, none⟩ u8).frozen? ⟨b, 9, none⟩ = false ∧
    ((((((((((w.setCell ⟨b, 0, none⟩ u0).setCell ⟨b, 1, none⟩ u1).setCell ⟨b, 2, none⟩ u2).setCell ⟨b, 3, none⟩ u3).setCell ⟨b, 4, none⟩ u4).setCell ⟨b, 5, none⟩ u5).setCell ⟨b, 6, none⟩ u6).setCell ⟨b, 7, none⟩ u7).setCell ⟨b, 8, none⟩ u8).setCell ⟨b, 9, none⟩ u9).cell? ⟨b, 10, none⟩ = some v10 ∧
    ((((((((((w.setCell ⟨b, 0, none⟩ u0).setCell ⟨b, 1, none⟩ u1).setCell ⟨b, 2, none⟩ u2).setCell ⟨b, 3, none⟩ u3).setCell ⟨b, 4, none⟩ u4).setCell ⟨b, 5, none⟩ u5).setCell ⟨b, 6, none⟩ u6).setCell ⟨b, 7, none⟩ u7).setCell ⟨b, 8, none⟩ u8).setCell ⟨b, 9, none⟩ u9).frozen? ⟨b, 10, none⟩ = false ∧
    (((((((((((w.setCell ⟨b, 0, none⟩ u0).setCell ⟨b, 1, none⟩ u1).setCell ⟨b, 2, none⟩ u2).setCell ⟨b, 3, none⟩ u3).setCell ⟨b, 4, none⟩ u4).setCell ⟨b, 5, none⟩ u5).setCell ⟨b, 6, none⟩ u6).setCell ⟨b, 7, none⟩ u7).setCell ⟨b, 8, none⟩ u8).setCell ⟨b, 9, none⟩ u9).setCell ⟨b, 10, none⟩ u10).heap[b]? = some (.cells #[u0, u1, u2, u3, u4, u5, u6, u7, u8, u9, u10] t (0, 0)) := by
  have h0 := h
  have h1 : (w.setCell ⟨b, 0, none⟩ u0).heap[b]? = some (.cells #[u0, v1, v2, v3, v4, v5, v6, v7, v8, v9, v10] t (0, 0)) := Dt.setCells h0 0 u0
  have h2 : ((w.setCell ⟨b, 0, none⟩ u0).setCell ⟨b, 1, none⟩ u1).heap[b]? = some (.cells #[u0, u1, v2, v3, v4, v5, v6, v7, v8, v9, v10] t (0, 0)) := Dt.setCells h1 1 u1
  have h3 : (((w.setCell ⟨b, 0, none⟩ u0).setCell ⟨b, 1, none⟩ u1).setCell ⟨b, 2, none⟩ u2).heap[b]? = some (.cells #[u0, u1, u2, v3, v4, v5, v6, v7, v8, v9, v10] t (0, 0)) := Dt.setCells h2 2 u2
  have h4 : ((((w.setCell ⟨b, 0, none⟩ u0).setCell ⟨b, 1, none⟩ u1).setCell ⟨b, 2, none⟩ u2).setCell ⟨b, 3, none⟩ u3).heap[b]? = some (.cells #[u0, u1, u2, u3, v4, v5, v6, v7, v8, v9, v10] t (0, 0)) := Dt.setCells h3 3 u3
  have h5 : (((((w.setCell ⟨b, 0, none⟩ u0).setCell ⟨b, 1, none⟩ u1).setCell ⟨b, 2, none⟩ u2).setCell ⟨b, 3, none⟩ u3).setCell ⟨b, 4, none⟩ u4).heap[b]? = some (.cells #[u0, u1, u2, u3, u4, v5, v6, v7, v8, v9, v10] t (0, 0)) := Dt.setCells h4 4 u4
  have h6 : ((((((w.setCell ⟨b, 0, none⟩ u0).setCell ⟨b, 1, none⟩ u1).setCell ⟨b, 2, none⟩ u2).setCell ⟨b, 3, none⟩ u3).setCell ⟨b, 4, none⟩ u4).setCell ⟨b, 5, none⟩ u5).heap[b]? = some (.cells #[u0, u1, u2, u3, u4, u5, v6, v7, v8, v9, v10] t (0, 0)) := Dt.setCells h5 5 u5
  have h7 : (((((((w.setCell ⟨b, 0, none⟩ u0).setCell ⟨b, 1, none⟩ u1).setCell ⟨b, 2, none⟩ u2).setCell ⟨b, 3, none⟩ u3).setCell ⟨b, 4, none⟩ u4).setCell ⟨b, 5, none⟩ u5).setCell ⟨b, 6, none⟩ u6).heap[b]? = some (.cells #[u0, u1, u2, u3, u4, u5, u6, v7, v8, v9, v10] t (0, 0)) := Dt.setCells h6 6 u6
  have h8 : ((((((((w.setCell ⟨b, 0, none⟩ u0).setCell ⟨b, 1, none⟩ u1).setCell ⟨b, 2, none⟩ u2).setCell ⟨b, 3, none⟩ u3).setCell ⟨b, 4, none⟩ u4).setCell ⟨b, 5, none⟩ u5).setCell ⟨b, 6, none⟩ u6).setCell ⟨b, 7, none⟩ u7).heap[b]? = some (.cells #[u0, u1, u2, u3, u4, u5, u6, u7, v8, v9, v10] t (0, 0)) := Dt.setCells h7 7 u7
  have h9 : (((((((((w.setCell ⟨b, 0, none⟩ u0).setCell ⟨b, 1, none⟩ u1).setCell ⟨b, 2, none⟩ u2).setCell ⟨b, 3, none⟩ u3).setCell ⟨b, 4, none⟩ u4).setCell ⟨b, 5, none⟩ u5).setCell ⟨b, 6, none⟩ u6).setCell ⟨b, 7, none⟩ u7).setCell ⟨b, 8, none⟩ u8).heap[b]? = some (.cells #[u0, u1, u2, u3, u4, u5, u6, u7, u8, v9, v10] t (0, 0)) := Dt.setCells h8 8 u8
  have h10 : ((((((((((w.setCell ⟨b, 0, none⟩ u0).setCell ⟨b, 1, none⟩ u1).setCell ⟨b, 2, none⟩ u2).setCell ⟨b, 3, none⟩ u3).setCell ⟨b, 4, none⟩ u4).setCell ⟨b, 5, none⟩ u5).setCell ⟨b, 6, none⟩ u6).setCell ⟨b, 7, none⟩ u7).setCell ⟨b, 8, none⟩ u8).setCell ⟨b, 9, none⟩ u9).heap[b]? = some (.cells #[u0, u1, u2, u3, u4, u5, u6, u7, u8, u9, v10] t (0, 0)) := Dt.setCells h9 9 u9
  have h11 : (((((((((((w.setCell ⟨b, 0, none⟩ u0).setCell ⟨b, 1, none⟩ u1).setCell ⟨b, 2, none⟩ u2).setCell ⟨b, 3, none⟩ u3).setCell ⟨b, 4, none⟩ u4).setCell ⟨b, 5, none⟩ u5).setCell ⟨b, 6, none⟩ u6).setCell ⟨b, 7, none⟩ u7).setCell ⟨b, 8, none⟩ u8).setCell ⟨b, 9, none⟩ u9).setCell ⟨b, 10, none⟩ u10).heap[b]? = some (.cells #[u0, u1, u2, u3, u4, u5, u6, u7, u8, u9, u10] t (0, 0)) := Dt.setCells h10 10 u10
  exact ⟨Dt.cell_of h0 0, Dt.frozen_of h0 0, Dt.cell_of h1 1, Dt.frozen_of h1 1, Dt.cell_of h2 2, Dt.frozen_of h2 2, Dt.cell_of h3 3, Dt.frozen_of h3 3, Dt.cell_of h4 4, Dt.frozen_of h4 4, Dt.cell_of h5 5, Dt.frozen_of h5 5, Dt.cell_of h6 6, Dt.frozen_of h6 6, Dt.cell_of h7 7, Dt.frozen_of h7 7, Dt.cell_of h8 8, Dt.frozen_of h8 8, Dt.cell_of h9 9, Dt.frozen_of h9 9, Dt.cell_of h10 10, Dt.frozen_of h10 10, h11⟩
theorem Dt.below_store11 {w0 w : World} {B b : Nat} (h : Below B w0 w) (hb : B ≤ b) (u0 u1 u2 u3 u4 u5 u6 u7 u8 u9 u10 : Value) : Below B w0 (((((((((((w.setCell ⟨b, 0, none⟩ u0).setCell ⟨b, 1, none⟩ u1).setCell ⟨b, 2, none⟩ u2).setCell ⟨b, 3, none⟩ u3).setCell ⟨b, 4, none⟩ u4).setCell ⟨b, 5, none⟩ u5).setCell ⟨b, 6, none⟩ u6).setCell ⟨b, 7, none⟩ u7).setCell ⟨b, 8, none⟩ u8).setCell ⟨b, 9, none⟩ u9).setCell ⟨b, 10, none⟩ u10) := by
  have h0 := h
  have h1 := Dt.below_set h0 b 0 u0 hb
  have h2 := Dt.below_set h1 b 1 u1 hb
  have h3 := Dt.below_set h2 b 2 u2 hb
  have h4 := Dt.below_set h3 b 3 u3 hb
  have h5 := Dt.below_set h4 b 4 u4 hb
  have h6 := Dt.below_set h5 b 5 u5 hb
  have h7 := Dt.below_set h6 b 6 u6 hb
  have h8 := Dt.below_set h7 b 7 u7 hb
  have h9 := Dt.below_set h8 b 8 u8 hb
  have h10 := Dt.below_set h9 b 9 u9 hb
  have h11 := Dt.below_set h10 b 10 u10 hb
  exact h11
theorem Dt.put11 {w : World} {b : Nat} {v0 v1 v2 v3 v4 v5 v6 v7 v8 v9 v10 : Value} {t : TypeId} (h : w.heap[b]? = some (.cells #[v0, v1, v2, v3, v4, v5, v6, v7, v8, v9, v10] t (0, 0))) (u0 u1 u2 u3 u4 u5 u6 u7 u8 u9 u10 : Value) :
    ∃ W1 W2 W3 W4 W5 W6 W7 W8 W9 W10 W11 : World,
    (w.cell? ⟨b, 0, none⟩ = some v0 ∧ w.frozen? ⟨b, 0, none⟩ = false ∧ w.setCell ⟨b, 0, none⟩ u0 = W1 ∧ W1.heap.size = w.heap.size) ∧
    (W1.cell? ⟨b, 1, none⟩ = some v1 ∧ W1.frozen? ⟨b, 1, none⟩ = false ∧ W1.setCell ⟨b, 1, none⟩ u1 = W2 ∧ W2.heap.size = w.heap.size) ∧
    (W2.cell? ⟨b, 2, none⟩ = some v2 ∧ W2.frozen? ⟨b, 2, none⟩ = false ∧ W2.setCell ⟨b, 2, none⟩ u2 = W3 ∧ W3.heap.size = w.heap.size) ∧
    (W3.cell? ⟨b, 3, none⟩ = some v3 ∧ W3.frozen? ⟨b, 3, none⟩ = false ∧ W3.setCell ⟨b, 3, none⟩ u3 = W4 ∧ W4.heap.size = w.heap.size) ∧
    (W4.cell? ⟨b, 4, none⟩ = some v4 ∧ W4.frozen? ⟨b, 4, none⟩ = false ∧ W4.setCell ⟨b, 4, none⟩ u4 = W5 ∧ W5.heap.size = w.heap.size) ∧
    (W5.cell? ⟨b, 5, none⟩ = some v5 ∧ W5.frozen? ⟨b, 5, none⟩ = false ∧ W5.setCell ⟨b, 5, none⟩ u5 = W6 ∧ W6.heap.size = w.heap.size) ∧
    (W6.cell? ⟨b, 6, none⟩ = some v6 ∧ W6.frozen? ⟨b, 6, none⟩ = false ∧ W6.setCell ⟨b, 6, none⟩ u6 = W7 ∧ W7.heap.size = w.heap.size) ∧
    (W7.cell? ⟨b, 7, none⟩ = some v7 ∧ W7.frozen? ⟨b, 7, none⟩ = false ∧ W7.setCell ⟨b, 7, none⟩ u7 = W8 ∧ W8.heap.size = w.heap.size) ∧
    (W8.cell? ⟨b, 8, none⟩ = some v8 ∧ W8.frozen? ⟨b, 8, none⟩ = false ∧ W8.setCell ⟨b, 8, none⟩ u8 = W9 ∧ W9.heap.size = w.heap.size) ∧
    (W9.cell? ⟨b, 9, none⟩ = some v9 ∧ W9.frozen? ⟨b, 9, none⟩ = false ∧ W9.setCell ⟨b, 9, none⟩ u9 = W10 ∧ W10.heap.size = w.heap.size) ∧
    (W10.cell? ⟨b, 10, none⟩ = some v10 ∧ W10.frozen? ⟨b, 10, none⟩ = false ∧ W10.setCell ⟨b, 10, none⟩ u10 = W11 ∧ W11.heap.size = w.heap.size) ∧
    W11.heap[b]? = some (.cells #[u0, u1, u2, u3, u4, u5, u6, u7, u8, u9, u10] t (0, 0)) ∧
    W11.heap.size = w.heap.size ∧
    (∀ q, q ≠ b → W11.heap[q]? = w.heap[q]?) ∧
    (∀ (B : Nat) (w0 : World), Below B w0 w → B ≤ b → Below B w0 W11) := by
  obtain ⟨f0, z0, f1, z1, f2, z2, f3, z3, f4, z4, f5, z5, f6, z6, f7, z7, f8, z8, f9, z9, f10, z10, g⟩ := Dt.store11 h u0 u1 u2 u3 u4 u5 u6 u7 u8 u9 u10
  refine ⟨_, _, _, _, _, _, _, _, _, _, _, ⟨f0, z0, rfl, by simp⟩, ⟨f1, z1, rfl, by simp⟩, ⟨f2, z2, rfl, by simp⟩, ⟨f3, z3, rfl, by simp⟩, ⟨f4, z4, rfl, by simp⟩, ⟨f5, z5, rfl, by simp⟩, ⟨f6, z6, rfl, by simp⟩, ⟨f7, z7, rfl, by simp⟩, ⟨f8, z8, rfl, by simp⟩, ⟨f9, z9, rfl, by simp⟩, ⟨f10, z10, rfl, by simp⟩, g, by simp, ?_, fun B w0 h0 hb => Dt.below_store11 h0 hb u0 u1 u2 u3 u4 u5 u6 u7 u8 u9 u10⟩
  intro q hq
  rw [Below.heap_setCell _ ⟨b, 10, none⟩ _ q hq]
  rw [Below.heap_setCell _ ⟨b, 9, none⟩ _ q hq]
  rw [Below.heap_setCell _ ⟨b, 8, none⟩ _ q hq]
  rw [Below.heap_setCell _ ⟨b, 7, none⟩ _ q hq]
  rw [Below.heap_setCell _ ⟨b, 6, none⟩ _ q hq]
  rw [Below.heap_setCell _ ⟨b, 5, none⟩ _ q hq]
  rw [Below.heap_setCell _ ⟨b, 4, none⟩ _ q hq]
  rw [Below.heap_setCell _ ⟨b, 3, none⟩ _ q hq]
  rw [Below.heap_setCell _ ⟨b, 2, none⟩ _ q hq]
  rw [Below.heap_setCell _ ⟨b, 1, none⟩ _ q hq]
  rw [Below.heap_setCell _ ⟨b, 0, none⟩ _ q hq]
end Go.Proofs.YtikmebkfdpbidaaGreatDoor
namespace Go.Proofs.YtikmebkfdpbidaaGreatDoor
open Go.RowKit
set_option linter.unusedVariables false
set_option linter.unusedSimpArgs false

set_option maxHeartbeats 4000000 in
set_option maxRecDepth 1000000 in
theorem Tr.noRat_any (s : Bool) (a1 a2 : Option Addr) (l1 c1 l2 c2 : Nat) (w : World) : Calls Tryz.prog 180 #[.agg #[.bool s, .slice a1 l1 c1, .slice a2 l2 c2]] w fun e w' => e = .returned (.bool (!s && decide (l1 = 0) && decide (l2 = 0))) ∧ Below w.heap.size w w' := by
  have hal : ∀ o, Below w.heap.size w (w.alloc o) := fun o => (Below.refl _ _).alloc (Nat.le_refl _) _
  have HAL := Lib.hid hal
  clear hal
  cases s with
  | true =>
    go_enter Tryz.func180, Tryz.ntmps180
    go_wp2_with fail
    go_ret
    exact ⟨by simp, HAL.out _⟩
  | false =>
    by_cases h1 : l1 = 0
    · subst h1
      by_cases h2 : l2 = 0
      · subst h2
        go_enter Tryz.func180, Tryz.ntmps180
        go_wp2_with fail
        go_ret
        exact ⟨by simp, HAL.out _⟩
      · have h2I : ((l2 : Int) == 0) = false := by simp; exact h2
        have H2 := Lib.hid h2
        clear h2
        go_enter Tryz.func180, Tryz.ntmps180
        go_wp2_with fail
        go_ret
        exact ⟨by simp [H2.out], HAL.out _⟩
    · have h1I : ((l1 : Int) == 0) = false := by simp; exact h1
      have H1 := Lib.hid h1
      clear h1
      go_enter Tryz.func180, Tryz.ntmps180
      go_wp2_with fail
      go_ret
      exact ⟨by simp [H1.out], HAL.out _⟩
set_option maxHeartbeats 4000000 in
set_option maxRecDepth 1000000 in
theorem Tr.IsChar_any (n : Int) (w : World) : Calls Tryz.prog 182 #[.int .i64 n] w fun e w' => e = .returned (.bool (Tr.isChar n)) ∧ w = w' := by
  by_cases h1 : (0 ≤ n ∧ n ≤ 55295)
  · have h2 : Tr.isChar n = true := by simp [Tr.isChar, h1.1, h1.2]
    rw [h2]
    obtain ⟨h3, h4⟩ := h1
    clear h2
    go_enter Tryz.func182, Tryz.ntmps182
    go_wp2_with fail
    go_ret
    exact ⟨rfl, rfl⟩
  · by_cases h5 : (57344 ≤ n ∧ n ≤ 1114111)
    · have h2 : Tr.isChar n = true := by simp [Tr.isChar, h5.1, h5.2]
      rw [h2]
      obtain ⟨h3, h4⟩ := h5
      have h6 : ¬ n ≤ 55295 := by omega
      have h7 : (0 : Int) ≤ n := by omega
      clear h2 h1
      go_enter Tryz.func182, Tryz.ntmps182
      go_wp2_with fail
      go_ret
      exact ⟨rfl, rfl⟩
    · have h2 : Tr.isChar n = false := by simp [Tr.isChar]; omega
      rw [h2]
      clear h2
      by_cases h0 : 0 ≤ n
      · have h3 : ¬ n ≤ 55295 := by omega
        by_cases h4 : 57344 ≤ n
        · have h6 : ¬ n ≤ 1114111 := by omega
          clear h1 h5
          go_enter Tryz.func182, Tryz.ntmps182
          go_wp2_with fail
          go_ret
          exact ⟨rfl, rfl⟩
        · clear h1 h5
          go_enter Tryz.func182, Tryz.ntmps182
          go_wp2_with fail
          go_ret
          exact ⟨rfl, rfl⟩
      · have h4 : ¬ 57344 ≤ n := by omega
        clear h1 h5
        go_enter Tryz.func182, Tryz.ntmps182
        go_wp2_with fail
        go_ret
        exact ⟨rfl, rfl⟩
end Go.Proofs.YtikmebkfdpbidaaGreatDoor
