/-
  The reference's Divisor: the greatest common divisor.
-/
import Derived.Test.YtikmebkfdpbidaaGreatDoorWb
namespace Go.Proofs.YtikmebkfdpbidaaGreatDoor
open Go.RowKit
set_option linter.unusedVariables false
set_option linter.unusedSimpArgs false

set_option maxHeartbeats 2000000 in
set_option maxRecDepth 1000000 in
theorem Rn.Divisor_any (m n : Nat) (v v2 : Value) (w : World) (h : Nt.N w v m) (h2 : Nt.N w v2 n) (hl : (Nt.dig m).length ≤ 400000) (hl2 : (Nt.dig n).length ≤ 400000) :
    Calls Tryz.prog 203 #[v, v2] w fun e w' => ∃ v', e = .returned v' ∧ Nt.N w' v' (Nat.gcd m n) ∧ Below w.heap.size w w' := by
  obtain ⟨ad, cap, rfl⟩ := Nt.In.slice h
  obtain ⟨ad2, cap2, rfl⟩ := Nt.In.slice h2
  rcases Nat.eq_zero_or_pos m with hm0 | hm0
  · have hlen : (Nt.dig m).length = 0 := by rw [hm0, Nt.dig_zero]; rfl
    rw [hlen]
    have KN := Rn.Norm_any (Nt.dig n) _ w h2 (Nt.dig_wd _) (by omega)
    rw [Nt.val_dig] at KN
    have HG : Hid (Nat.gcd m n = n) := Lib.hid (by rw [hm0, Nat.gcd_zero_left])
    clear h h2 hlen hm0
    go_enter Tryz.func203, Tryz.ntmps203
    go_wp2_with fail
    refine KN.mono ?_
    rintro z w8 ⟨v8, rfl, hn8, hb8⟩
    have HN8 := Lib.hid (And.intro hn8 hb8)
    clear hn8 hb8
    go_wp2_with fail
    go_ret
    exact ⟨_, rfl, by rw [HG.out]; exact HN8.out.1, HN8.out.2⟩
  have hmI : (((Nt.dig m).length : Int) == 0) = false := by
    have := Nt.dig_len_pos.2 hm0
    exact beq_eq_false_iff_ne.2 (by omega)
  rcases Nat.eq_zero_or_pos n with hn0 | hn0
  · have hlen : (Nt.dig n).length = 0 := by rw [hn0, Nt.dig_zero]; rfl
    rw [hlen]
    have KN := Rn.Norm_any (Nt.dig m) _ w h (Nt.dig_wd _) (by omega)
    rw [Nt.val_dig] at KN
    have HG : Hid (Nat.gcd m n = m) := Lib.hid (by rw [hn0, Nat.gcd_zero_right])
    clear h h2 hlen hm0 hn0
    go_enter Tryz.func203, Tryz.ntmps203
    go_wp2_with fail
    refine KN.mono ?_
    rintro z w8 ⟨v8, rfl, hn8, hb8⟩
    have HN8 := Lib.hid (And.intro hn8 hb8)
    clear hn8 hb8
    go_wp2_with fail
    go_ret
    exact ⟨_, rfl, by rw [HG.out]; exact HN8.out.1, HN8.out.2⟩
  have hnI : (((Nt.dig n).length : Int) == 0) = false := by
    have := Nt.dig_len_pos.2 hn0
    exact beq_eq_false_iff_ne.2 (by omega)
  have HBM : Hid (∀ w', Below w.heap.size w w' → ∀ k, k ≤ 4611686018427387904 → Calls Tryz.prog 229 #[.slice ad (Nt.dig m).length cap, .int .i64 (k : Nat)] w' fun e w'' => e = .returned (.int .u32 (m / 2 ^ k % 2 : Nat)) ∧ Below w'.heap.size w' w'') := Lib.hid (fun w' hb k hk => by
    have := Rn.Bit_any (Nt.dig m) _ k w' (Nt.In.below h hb (Nat.le_refl _)) (Nt.dig_wd _) hk
    rw [Rn.bit_val (Nt.dig_wd _), Nt.val_dig] at this
    exact this)
  have HBN : Hid (∀ w', Below w.heap.size w w' → ∀ k, k ≤ 4611686018427387904 → Calls Tryz.prog 229 #[.slice ad2 (Nt.dig n).length cap2, .int .i64 (k : Nat)] w' fun e w'' => e = .returned (.int .u32 (n / 2 ^ k % 2 : Nat)) ∧ Below w'.heap.size w' w'') := Lib.hid (fun w' hb k hk => by
    have := Rn.Bit_any (Nt.dig n) _ k w' (Nt.In.below h2 hb (Nat.le_refl _)) (Nt.dig_wd _) hk
    rw [Rn.bit_val (Nt.dig_wd _), Nt.val_dig] at this
    exact this)
  have HOM := Lib.hid (fun w' (hb : Below w.heap.size w w') => Rn.odd_any (Nt.dig m) _ w' (Nt.In.below h hb (Nat.le_refl _)) (Nt.dig_wd _) (by omega) (by rw [Nt.val_dig]; exact hm0))
  have HON := Lib.hid (fun w' (hb : Below w.heap.size w w') => Rn.odd_any (Nt.dig n) _ w' (Nt.In.below h2 hb (Nat.le_refl _)) (Nt.dig_wd _) (by omega) (by rw [Nt.val_dig]; exact hn0))
  rw [Nt.val_dig] at HOM HON
  have HVM : Hid (m < 2 ^ (32 * (Nt.dig m).length)) := Lib.hid (by have := Nt.val_lt (Nt.dig m) (Nt.dig_wd _); rw [Nt.val_dig, Rn.b32] at this; exact this)
  have HM0 := Lib.hid hm0
  have HML := Lib.hid (And.intro hl hl2)
  clear h h2 hm0 hn0
  go_enter Tryz.func203, Tryz.ntmps203
  go_wp2_with fail
  go_loopg [5] (32 * (Nt.dig m).length) (fun g i wr => ∃ k : Nat, i = .int .i64 k ∧ k + g = 32 * (Nt.dig m).length ∧ 2 ^ k ∣ m ∧ 2 ^ k ∣ n ∧ Below w.heap.size w wr)
  case atStart => exact ⟨0, by first | rfl | go_num | (simp; try omega), by omega, by simp, by simp, Below.refl _ _⟩
  case round =>
    obtain ⟨k, rfl, hk, hd1, hd2, hb⟩ := hrel
    obtain ⟨wo, hwo⟩ : ∃ z, z = wr := ⟨_, rfl⟩
    subst hwo
    have hklt : k < 32 * (Nt.dig m).length := by
      rcases Nat.lt_or_ge k (32 * (Nt.dig m).length) with h1 | h1
      · exact h1
      · have h2 := Nat.le_of_dvd HM0.out hd1
        have h3 : 2 ^ (32 * (Nt.dig m).length) ≤ 2 ^ k := Nat.pow_le_pow_right (by decide) h1
        have := HVM.out
        omega
    have HDV := Lib.hid (And.intro hd1 hd2)
    have HBW := Lib.hid hb
    have HKL : Hid (k ≤ 16000000 ∧ k < 32 * (Nt.dig m).length) := Lib.hid (by omega)
    have KM := HBM.out wo HBW.out k (by omega)
    clear hd1 hd2 hb
    by_cases hx : m / 2 ^ k % 2 = 0
    · rw [hx] at KM
      have HX1 := Lib.hid hx
      clear hx
      go_wp2_with fail
      refine KM.mono ?_
      rintro z w1 ⟨rfl, hb1⟩
      have HB1 := Lib.hid (HBW.out.trans (hb1.mono HBW.out.size))
      have KNN := HBN.out w1 HB1.out k (by omega)
      clear hb1 KM
      by_cases hx2 : n / 2 ^ k % 2 = 0
      · rw [hx2] at KNN
        have HX2 := Lib.hid hx2
        clear hx2
        go_wp2_with fail
        refine KNN.mono ?_
        rintro z w2 ⟨rfl, hb2⟩
        have HB2 := Lib.hid (HB1.out.trans (hb2.mono HB1.out.size))
        clear hb2 KNN
        go_wp2_with fail
        go_roundg (gk - 1)
        case measure => omega
        case rel => exact ⟨k + 1, by first | rfl | go_num | (simp; try omega), by omega, Rn.two_step HDV.out.1 HX1.out, Rn.two_step HDV.out.2 HX2.out, HB2.out⟩
      · have HEX : Hid (¬ (m / 2 ^ k % 2 = 0 ∧ n / 2 ^ k % 2 = 0)) := Lib.hid (fun h => hx2 h.2)
        have hx1 : n / 2 ^ k % 2 = 1 := by
          have h3 : ∀ z : Nat, ¬ z % 2 = 0 → z % 2 = 1 := by omega
          exact h3 _ hx2
        rw [hx1] at KNN
        clear hx2 hx1
        go_wp2_with fail
        refine KNN.mono ?_
        rintro z w2 ⟨rfl, hb2⟩
        have HB2 := Lib.hid (HB1.out.trans (hb2.mono HB1.out.size))
        clear hb2 KNN hk hklt
        go_wp2_with fail
        refine (HOM.out w2 HB2.out).mono ?_
        rintro z w3 ⟨v3, t1, o1, rfl, hn3, ho1, hm1, hb3⟩
        have HB3 := Lib.hid (HB2.out.trans (hb3.mono HB2.out.size))
        obtain ⟨a3, c3, rfl⟩ := Nt.In.slice hn3
        have HN3 := Lib.hid (And.intro hn3 (And.intro ho1 hm1))
        clear hn3 ho1 hm1 hb3
        go_wp2_with fail
        refine (HON.out w3 HB3.out).mono ?_
        rintro z w4 ⟨v4, t2, o2, rfl, hn4, ho2, hm2, hb4⟩
        have HB4 := Lib.hid (HB3.out.trans (hb4.mono HB3.out.size))
        obtain ⟨a4, c4, rfl⟩ := Nt.In.slice hn4
        have HN4 := Lib.hid (And.intro hn4 (And.intro ho2 hm2))
        have HN3' := Lib.hid (Nt.In.below HN3.out.1 hb4 (Nat.le_refl _))
        have HG : Hid (Nat.gcd m n = 2 ^ k * Nat.gcd o1 o2) := Lib.hid (Rn.gcd_twos HN3.out.2.2 hm2 HN3.out.2.1 ho2 HDV.out.1 HDV.out.2 HEX.out)
        have HLO : Hid ((Nt.dig o1).length ≤ 400000 ∧ (Nt.dig o2).length ≤ 400000) := Lib.hid ⟨Nat.le_trans (Rn.dig_le (by rw [HN3.out.2.2]; exact Nat.le_mul_of_pos_left _ (Nat.two_pow_pos _))) HML.out.1, Nat.le_trans (Rn.dig_le (by rw [hm2]; exact Nat.le_mul_of_pos_left _ (Nat.two_pow_pos _))) HML.out.2⟩
        clear hn4 ho2 hm2 hb4
        go_wp2_with fail
        go_loopg [0, 1] (o1 + o2) (fun g va vb wr => ∃ x y : Nat, x + y = g ∧ Nt.N wr va x ∧ Nt.N wr vb y ∧ x % 2 = 1 ∧ y % 2 = 1 ∧ Nat.gcd x y = Nat.gcd o1 o2 ∧ (Nt.dig x).length ≤ 400000 ∧ (Nt.dig y).length ≤ 400000 ∧ Below w.heap.size w wr)
        case atStart => exact ⟨o1, o2, rfl, HN3'.out, HN4.out.1, HN3.out.2.1, HN4.out.2.1, rfl, HLO.out.1, HLO.out.2, HB4.out⟩
        case round =>
          obtain ⟨x, y, hg, hnx, hny, hox, hoy, hgc, hlx, hly, hbp⟩ := hrel
          obtain ⟨wp, hwp⟩ : ∃ z, z = wr := ⟨_, rfl⟩
          subst hwp
          have HXY := Lib.hid (And.intro hnx (And.intro hny (And.intro hox (And.intro hoy (And.intro hgc (And.intro hlx hly))))))
          have HBP := Lib.hid hbp
          have HXP : Hid (0 < x ∧ 0 < y) := Lib.hid (by omega)
          obtain ⟨px, cx, rfl⟩ := Nt.In.slice hnx
          obtain ⟨py, cy, rfl⟩ := Nt.In.slice hny
          have HORD := Lib.hid (fun w' (hb : Below wp.heap.size wp w') => Rn.Order_any x y _ _ w' (Nt.In.below hnx hb (Nat.le_refl _)) (Nt.In.below hny hb (Nat.le_refl _)) (by omega) (by omega))
          have HSX := Lib.hid (fun w' (hb : Below wp.heap.size wp w') => Rn.Size_any (Nt.dig x) _ w' (Nt.In.below hnx hb (Nat.le_refl _)) (Nt.dig_wd _) (by omega))
          have HSY := Lib.hid (fun w' (hb : Below wp.heap.size wp w') => Rn.Size_any (Nt.dig y) _ w' (Nt.In.below hny hb (Nat.le_refl _)) (Nt.dig_wd _) (by omega))
          rw [Nt.val_dig] at HSX HSY
          clear hnx hny hox hoy hgc hbp
          rcases Nat.lt_trichotomy x y with hxy | hxy | hxy
          · have HLT := Lib.hid hxy
            have HLS := Lib.hid (fun w' (hb : Below wp.heap.size wp w') => Rn.Less_any (Nt.dig y) (Nt.dig x) _ _ w' (Nt.In.below HXY.out.2.1 hb (Nat.le_refl _)) (Nt.In.below HXY.out.1 hb (Nat.le_refl _)) (Nt.dig_wd _) (Nt.dig_wd _) (by omega) (Rn.dig_le (by omega)) (by rw [Nt.val_dig, Nt.val_dig]; omega))
            rw [Nt.val_dig, Nt.val_dig] at HLS
            have HLEN : Hid ((Nt.dig (y - x)).length ≤ 1000000) := Lib.hid (Nat.le_trans (Rn.dig_le (show y - x ≤ y by omega)) (by omega))
            rw [Nt.cmp_lt hxy] at HORD
            clear hxy hlx hly
            go_wp2_with fail
            refine (HORD.out wp (Below.refl _ _)).mono ?_
            rintro z w5 ⟨rfl, hb5⟩
            have HB5 := Lib.hid (HBP.out.trans (hb5.mono HBP.out.size))
            have HP5 := Lib.hid hb5
            clear hb5
            go_wp2_with fail
            refine (HSX.out w5 HP5.out).mono ?_
            rintro z w6 ⟨s1, rfl, hs1a, hs1b, hb6⟩
            have HS1 := Lib.hid (Rn.size_one HXP.out.1 hs1a hs1b)
            have HB6 := Lib.hid (HB5.out.trans (hb6.mono HB5.out.size))
            have HP6 := Lib.hid (HP5.out.trans (hb6.mono HP5.out.size))
            clear hs1a hs1b hb6
            by_cases hs : s1 = 1
            · subst hs
              have HONE : Hid (Nat.gcd x y = 1) := Lib.hid (by rw [HS1.out.1 rfl]; exact Nat.gcd_one_left _)
              have hA : Below w.heap.size w (w6.alloc (.cells (Nt.row [1]) 144)) := HB6.out.alloc HB6.out.size _
              have KU := Rn.Up_any [1] k _ (w6.alloc (.cells (Nt.row [1]) 144)) (Nt.In.of_row (heap_alloc_new w6 _)) (fun z hz => by simp at hz; omega) (by simp) HKL.out.1
              have e1 : Nt.row [1] = #[.int .u32 1] := rfl
              rw [e1] at KU hA
              have HAX := Lib.hid hA
              clear e1 hA
              go_wp2_with fail
              refine KU.mono ?_
              rintro z wu ⟨vu, rfl, hnu, hbu⟩
              have HNU := Lib.hid hnu
              have HBU := Lib.hid (HAX.out.trans (hbu.mono HAX.out.size))
              clear KU hnu hbu
              go_wp2_with fail
              go_ret
              refine ⟨_, rfl, ?_, HBU.out⟩
              have e2 : Nt.val [1] = 1 := by simp [Nt.val]
              have := HNU.out
              rw [e2] at this
              rw [HG.out, ← HXY.out.2.2.2.2.1, HONE.out]
              exact this
            · have hsI : ((s1 : Int) == 1) = false := by simp; omega
              go_wp2_with fail
              refine (HSY.out w6 HP6.out).mono ?_
              rintro z w7 ⟨s2, rfl, hs2a, hs2b, hb7⟩
              have HS2 := Lib.hid (Rn.size_one HXP.out.2 hs2a hs2b)
              have HB7 := Lib.hid (HB6.out.trans (hb7.mono HB6.out.size))
              have HP7 := Lib.hid (HP6.out.trans (hb7.mono HP6.out.size))
              clear hs2a hs2b hb7
              by_cases hs2 : s2 = 1
              · subst hs2
                have HONE : Hid (Nat.gcd x y = 1) := Lib.hid (by rw [HS2.out.1 rfl]; exact Nat.gcd_one_right _)
                have hA : Below w.heap.size w (w7.alloc (.cells (Nt.row [1]) 144)) := HB7.out.alloc HB7.out.size _
                have KU := Rn.Up_any [1] k _ (w7.alloc (.cells (Nt.row [1]) 144)) (Nt.In.of_row (heap_alloc_new w7 _)) (fun z hz => by simp at hz; omega) (by simp) HKL.out.1
                have e1 : Nt.row [1] = #[.int .u32 1] := rfl
                rw [e1] at KU hA
                have HAX := Lib.hid hA
                clear e1 hA
                go_wp2_with fail
                refine KU.mono ?_
                rintro z wu ⟨vu, rfl, hnu, hbu⟩
                have HNU := Lib.hid hnu
                have HBU := Lib.hid (HAX.out.trans (hbu.mono HAX.out.size))
                clear KU hnu hbu
                go_wp2_with fail
                go_ret
                refine ⟨_, rfl, ?_, HBU.out⟩
                have e2 : Nt.val [1] = 1 := by simp [Nt.val]
                have := HNU.out
                rw [e2] at this
                rw [HG.out, ← HXY.out.2.2.2.2.1, HONE.out]
                exact this
              · have hs2I : ((s2 : Int) == 1) = false := by simp; omega
                go_wp2_with fail
                refine (HORD.out w7 HP7.out).mono ?_
                rintro z w8 ⟨rfl, hb8⟩
                have HB8 := Lib.hid (HB7.out.trans (hb8.mono HB7.out.size))
                have HP8 := Lib.hid (HP7.out.trans (hb8.mono HP7.out.size))
                clear hb8
                have KL := HLS.out w8 HP8.out
                go_wp2_with fail
                refine KL.mono ?_
                rintro z w9 ⟨v9, rfl, hn9, hb9⟩
                have HB9 := Lib.hid (HB8.out.trans (hb9.mono HB8.out.size))
                have HP9 := Lib.hid (HP8.out.trans (hb9.mono HP8.out.size))
                have KO := Rn.odd_any (Nt.dig (y - x)) v9 w9 hn9 (Nt.dig_wd _) HLEN.out (by rw [Nt.val_dig]; have := HLT.out; omega)
                rw [Nt.val_dig] at KO
                obtain ⟨p9, c9, rfl⟩ := Nt.In.slice hn9
                clear hn9 hb9 KL
                go_wp2_with fail
                refine KO.mono ?_
                rintro z wq ⟨vq, t3, o3, rfl, hnq, ho3, hd3, hbq⟩
                have HBQ := Lib.hid (HB9.out.trans (hbq.mono HB9.out.size))
                have HPQ := Lib.hid (HP9.out.trans (hbq.mono HP9.out.size))
                have HNQ := Lib.hid (And.intro hnq (And.intro ho3 hd3))
                obtain ⟨pq, cq, rfl⟩ := Nt.In.slice hnq
                clear hnq hbq KO ho3 hd3
                go_wp2_with fail
                have HO3 : Hid (o3 ≤ y - x) := Lib.hid (by
                  rw [HNQ.out.2.2]
                  exact Nat.le_mul_of_pos_left _ (Nat.two_pow_pos _))
                have hlt9 := HLT.out
                have hle9 := HO3.out
                have hps := HXP.out
                go_roundg (o3 + x)
                case measure => omega
                case rel =>
                  obtain ⟨q1, q2, q3, q4, q5, q6, q7⟩ := HXY.out
                  refine ⟨o3, x, rfl, HNQ.out.1, Nt.In.below q1 HPQ.out (Nat.le_refl _), HNQ.out.2.1, q3, ?_, Nat.le_trans (Rn.dig_le (show o3 ≤ y by omega)) q7, q6, HBQ.out⟩
                  rw [← q5]
                  rw [Rn.gcd_less q3 (by omega) HNQ.out.2.2, Nat.gcd_comm]
          · subst hxy
            rw [Nt.cmp_eq] at HORD
            have KUX := Lib.hid (fun w' (hb : Below wp.heap.size wp w') => Rn.Up_any (Nt.dig x) k _ w' (Nt.In.below HXY.out.1 hb (Nat.le_refl _)) (Nt.dig_wd _) (by omega) HKL.out.1)
            rw [Nt.val_dig] at KUX
            clear hlx hly
            go_wp2_with fail
            refine (HORD.out wp (Below.refl _ _)).mono ?_
            rintro z w5 ⟨rfl, hb5⟩
            have HB5 := Lib.hid (HBP.out.trans (hb5.mono HBP.out.size))
            have HP5 := Lib.hid hb5
            clear hb5
            go_wp2_with fail
            refine (KUX.out w5 HP5.out).mono ?_
            rintro z w6 ⟨v6, rfl, hn6, hb6⟩
            have HN6 := Lib.hid hn6
            have HB6 := Lib.hid (HB5.out.trans (hb6.mono HB5.out.size))
            clear hn6 hb6
            go_wp2_with fail
            go_ret
            refine ⟨_, rfl, ?_, HB6.out⟩
            rw [HG.out, ← HXY.out.2.2.2.2.1, Nat.gcd_self]
            exact HN6.out
          · have HLT := Lib.hid hxy
            have HLS := Lib.hid (fun w' (hb : Below wp.heap.size wp w') => Rn.Less_any (Nt.dig x) (Nt.dig y) _ _ w' (Nt.In.below HXY.out.1 hb (Nat.le_refl _)) (Nt.In.below HXY.out.2.1 hb (Nat.le_refl _)) (Nt.dig_wd _) (Nt.dig_wd _) (by omega) (Rn.dig_le (by omega)) (by rw [Nt.val_dig, Nt.val_dig]; omega))
            rw [Nt.val_dig, Nt.val_dig] at HLS
            have HLEN : Hid ((Nt.dig (x - y)).length ≤ 1000000) := Lib.hid (Nat.le_trans (Rn.dig_le (show x - y ≤ x by omega)) (by omega))
            rw [Nt.cmp_gt hxy] at HORD
            clear hxy hlx hly
            go_wp2_with fail
            refine (HORD.out wp (Below.refl _ _)).mono ?_
            rintro z w5 ⟨rfl, hb5⟩
            have HB5 := Lib.hid (HBP.out.trans (hb5.mono HBP.out.size))
            have HP5 := Lib.hid hb5
            clear hb5
            go_wp2_with fail
            refine (HSX.out w5 HP5.out).mono ?_
            rintro z w6 ⟨s1, rfl, hs1a, hs1b, hb6⟩
            have HS1 := Lib.hid (Rn.size_one HXP.out.1 hs1a hs1b)
            have HB6 := Lib.hid (HB5.out.trans (hb6.mono HB5.out.size))
            have HP6 := Lib.hid (HP5.out.trans (hb6.mono HP5.out.size))
            clear hs1a hs1b hb6
            by_cases hs : s1 = 1
            · subst hs
              have HONE : Hid (Nat.gcd x y = 1) := Lib.hid (by rw [HS1.out.1 rfl]; exact Nat.gcd_one_left _)
              have hA : Below w.heap.size w (w6.alloc (.cells (Nt.row [1]) 144)) := HB6.out.alloc HB6.out.size _
              have KU := Rn.Up_any [1] k _ (w6.alloc (.cells (Nt.row [1]) 144)) (Nt.In.of_row (heap_alloc_new w6 _)) (fun z hz => by simp at hz; omega) (by simp) HKL.out.1
              have e1 : Nt.row [1] = #[.int .u32 1] := rfl
              rw [e1] at KU hA
              have HAX := Lib.hid hA
              clear e1 hA
              go_wp2_with fail
              refine KU.mono ?_
              rintro z wu ⟨vu, rfl, hnu, hbu⟩
              have HNU := Lib.hid hnu
              have HBU := Lib.hid (HAX.out.trans (hbu.mono HAX.out.size))
              clear KU hnu hbu
              go_wp2_with fail
              go_ret
              refine ⟨_, rfl, ?_, HBU.out⟩
              have e2 : Nt.val [1] = 1 := by simp [Nt.val]
              have := HNU.out
              rw [e2] at this
              rw [HG.out, ← HXY.out.2.2.2.2.1, HONE.out]
              exact this
            · have hsI : ((s1 : Int) == 1) = false := by simp; omega
              go_wp2_with fail
              refine (HSY.out w6 HP6.out).mono ?_
              rintro z w7 ⟨s2, rfl, hs2a, hs2b, hb7⟩
              have HS2 := Lib.hid (Rn.size_one HXP.out.2 hs2a hs2b)
              have HB7 := Lib.hid (HB6.out.trans (hb7.mono HB6.out.size))
              have HP7 := Lib.hid (HP6.out.trans (hb7.mono HP6.out.size))
              clear hs2a hs2b hb7
              by_cases hs2 : s2 = 1
              · subst hs2
                have HONE : Hid (Nat.gcd x y = 1) := Lib.hid (by rw [HS2.out.1 rfl]; exact Nat.gcd_one_right _)
                have hA : Below w.heap.size w (w7.alloc (.cells (Nt.row [1]) 144)) := HB7.out.alloc HB7.out.size _
                have KU := Rn.Up_any [1] k _ (w7.alloc (.cells (Nt.row [1]) 144)) (Nt.In.of_row (heap_alloc_new w7 _)) (fun z hz => by simp at hz; omega) (by simp) HKL.out.1
                have e1 : Nt.row [1] = #[.int .u32 1] := rfl
                rw [e1] at KU hA
                have HAX := Lib.hid hA
                clear e1 hA
                go_wp2_with fail
                refine KU.mono ?_
                rintro z wu ⟨vu, rfl, hnu, hbu⟩
                have HNU := Lib.hid hnu
                have HBU := Lib.hid (HAX.out.trans (hbu.mono HAX.out.size))
                clear KU hnu hbu
                go_wp2_with fail
                go_ret
                refine ⟨_, rfl, ?_, HBU.out⟩
                have e2 : Nt.val [1] = 1 := by simp [Nt.val]
                have := HNU.out
                rw [e2] at this
                rw [HG.out, ← HXY.out.2.2.2.2.1, HONE.out]
                exact this
              · have hs2I : ((s2 : Int) == 1) = false := by simp; omega
                go_wp2_with fail
                refine (HORD.out w7 HP7.out).mono ?_
                rintro z w8 ⟨rfl, hb8⟩
                have HB8 := Lib.hid (HB7.out.trans (hb8.mono HB7.out.size))
                have HP8 := Lib.hid (HP7.out.trans (hb8.mono HP7.out.size))
                clear hb8
                have KL := HLS.out w8 HP8.out
                go_wp2_with fail
                refine KL.mono ?_
                rintro z w9 ⟨v9, rfl, hn9, hb9⟩
                have HB9 := Lib.hid (HB8.out.trans (hb9.mono HB8.out.size))
                have HP9 := Lib.hid (HP8.out.trans (hb9.mono HP8.out.size))
                have KO := Rn.odd_any (Nt.dig (x - y)) v9 w9 hn9 (Nt.dig_wd _) HLEN.out (by rw [Nt.val_dig]; have := HLT.out; omega)
                rw [Nt.val_dig] at KO
                obtain ⟨p9, c9, rfl⟩ := Nt.In.slice hn9
                clear hn9 hb9 KL
                go_wp2_with fail
                refine KO.mono ?_
                rintro z wq ⟨vq, t3, o3, rfl, hnq, ho3, hd3, hbq⟩
                have HBQ := Lib.hid (HB9.out.trans (hbq.mono HB9.out.size))
                have HPQ := Lib.hid (HP9.out.trans (hbq.mono HP9.out.size))
                have HNQ := Lib.hid (And.intro hnq (And.intro ho3 hd3))
                obtain ⟨pq, cq, rfl⟩ := Nt.In.slice hnq
                clear hnq hbq KO ho3 hd3
                go_wp2_with fail
                have HO3 : Hid (o3 ≤ x - y) := Lib.hid (by
                  rw [HNQ.out.2.2]
                  exact Nat.le_mul_of_pos_left _ (Nat.two_pow_pos _))
                have hlt9 := HLT.out
                have hle9 := HO3.out
                have hps := HXP.out
                go_roundg (o3 + y)
                case measure => omega
                case rel =>
                  obtain ⟨q1, q2, q3, q4, q5, q6, q7⟩ := HXY.out
                  refine ⟨o3, y, rfl, HNQ.out.1, Nt.In.below q2 HPQ.out (Nat.le_refl _), HNQ.out.2.1, q4, ?_, Nat.le_trans (Rn.dig_le (show o3 ≤ x by omega)) q6, q7, HBQ.out⟩
                  rw [← q5]
                  exact Rn.gcd_less q4 (by omega) HNQ.out.2.2
    · have HEX : Hid (¬ (m / 2 ^ k % 2 = 0 ∧ n / 2 ^ k % 2 = 0)) := Lib.hid (fun h => hx h.1)
      have hx1 : m / 2 ^ k % 2 = 1 := by
        have h3 : ∀ z : Nat, ¬ z % 2 = 0 → z % 2 = 1 := by omega
        exact h3 _ hx
      rw [hx1] at KM
      clear hx hx1
      go_wp2_with fail
      refine KM.mono ?_
      rintro z w1 ⟨rfl, hb1⟩
      have HB1 := Lib.hid (HBW.out.trans (hb1.mono HBW.out.size))
      clear hb1 KM hk hklt
      go_wp2_with fail
      refine (HOM.out w1 HB1.out).mono ?_
      rintro z w3 ⟨v3, t1, o1, rfl, hn3, ho1, hm1, hb3⟩
      have HB3 := Lib.hid (HB1.out.trans (hb3.mono HB1.out.size))
      obtain ⟨a3, c3, rfl⟩ := Nt.In.slice hn3
      have HN3 := Lib.hid (And.intro hn3 (And.intro ho1 hm1))
      clear hn3 ho1 hm1 hb3
      go_wp2_with fail
      refine (HON.out w3 HB3.out).mono ?_
      rintro z w4 ⟨v4, t2, o2, rfl, hn4, ho2, hm2, hb4⟩
      have HB4 := Lib.hid (HB3.out.trans (hb4.mono HB3.out.size))
      obtain ⟨a4, c4, rfl⟩ := Nt.In.slice hn4
      have HN4 := Lib.hid (And.intro hn4 (And.intro ho2 hm2))
      have HN3' := Lib.hid (Nt.In.below HN3.out.1 hb4 (Nat.le_refl _))
      have HG : Hid (Nat.gcd m n = 2 ^ k * Nat.gcd o1 o2) := Lib.hid (Rn.gcd_twos HN3.out.2.2 hm2 HN3.out.2.1 ho2 HDV.out.1 HDV.out.2 HEX.out)
      have HLO : Hid ((Nt.dig o1).length ≤ 400000 ∧ (Nt.dig o2).length ≤ 400000) := Lib.hid ⟨Nat.le_trans (Rn.dig_le (by rw [HN3.out.2.2]; exact Nat.le_mul_of_pos_left _ (Nat.two_pow_pos _))) HML.out.1, Nat.le_trans (Rn.dig_le (by rw [hm2]; exact Nat.le_mul_of_pos_left _ (Nat.two_pow_pos _))) HML.out.2⟩
      clear hn4 ho2 hm2 hb4
      go_wp2_with fail
      go_loopg [0, 1] (o1 + o2) (fun g va vb wr => ∃ x y : Nat, x + y = g ∧ Nt.N wr va x ∧ Nt.N wr vb y ∧ x % 2 = 1 ∧ y % 2 = 1 ∧ Nat.gcd x y = Nat.gcd o1 o2 ∧ (Nt.dig x).length ≤ 400000 ∧ (Nt.dig y).length ≤ 400000 ∧ Below w.heap.size w wr)
      case atStart => exact ⟨o1, o2, rfl, HN3'.out, HN4.out.1, HN3.out.2.1, HN4.out.2.1, rfl, HLO.out.1, HLO.out.2, HB4.out⟩
      case round =>
        obtain ⟨x, y, hg, hnx, hny, hox, hoy, hgc, hlx, hly, hbp⟩ := hrel
        obtain ⟨wp, hwp⟩ : ∃ z, z = wr := ⟨_, rfl⟩
        subst hwp
        have HXY := Lib.hid (And.intro hnx (And.intro hny (And.intro hox (And.intro hoy (And.intro hgc (And.intro hlx hly))))))
        have HBP := Lib.hid hbp
        have HXP : Hid (0 < x ∧ 0 < y) := Lib.hid (by omega)
        obtain ⟨px, cx, rfl⟩ := Nt.In.slice hnx
        obtain ⟨py, cy, rfl⟩ := Nt.In.slice hny
        have HORD := Lib.hid (fun w' (hb : Below wp.heap.size wp w') => Rn.Order_any x y _ _ w' (Nt.In.below hnx hb (Nat.le_refl _)) (Nt.In.below hny hb (Nat.le_refl _)) (by omega) (by omega))
        have HSX := Lib.hid (fun w' (hb : Below wp.heap.size wp w') => Rn.Size_any (Nt.dig x) _ w' (Nt.In.below hnx hb (Nat.le_refl _)) (Nt.dig_wd _) (by omega))
        have HSY := Lib.hid (fun w' (hb : Below wp.heap.size wp w') => Rn.Size_any (Nt.dig y) _ w' (Nt.In.below hny hb (Nat.le_refl _)) (Nt.dig_wd _) (by omega))
        rw [Nt.val_dig] at HSX HSY
        clear hnx hny hox hoy hgc hbp
        rcases Nat.lt_trichotomy x y with hxy | hxy | hxy
        · have HLT := Lib.hid hxy
          have HLS := Lib.hid (fun w' (hb : Below wp.heap.size wp w') => Rn.Less_any (Nt.dig y) (Nt.dig x) _ _ w' (Nt.In.below HXY.out.2.1 hb (Nat.le_refl _)) (Nt.In.below HXY.out.1 hb (Nat.le_refl _)) (Nt.dig_wd _) (Nt.dig_wd _) (by omega) (Rn.dig_le (by omega)) (by rw [Nt.val_dig, Nt.val_dig]; omega))
          rw [Nt.val_dig, Nt.val_dig] at HLS
          have HLEN : Hid ((Nt.dig (y - x)).length ≤ 1000000) := Lib.hid (Nat.le_trans (Rn.dig_le (show y - x ≤ y by omega)) (by omega))
          rw [Nt.cmp_lt hxy] at HORD
          clear hxy hlx hly
          go_wp2_with fail
          refine (HORD.out wp (Below.refl _ _)).mono ?_
          rintro z w5 ⟨rfl, hb5⟩
          have HB5 := Lib.hid (HBP.out.trans (hb5.mono HBP.out.size))
          have HP5 := Lib.hid hb5
          clear hb5
          go_wp2_with fail
          refine (HSX.out w5 HP5.out).mono ?_
          rintro z w6 ⟨s1, rfl, hs1a, hs1b, hb6⟩
          have HS1 := Lib.hid (Rn.size_one HXP.out.1 hs1a hs1b)
          have HB6 := Lib.hid (HB5.out.trans (hb6.mono HB5.out.size))
          have HP6 := Lib.hid (HP5.out.trans (hb6.mono HP5.out.size))
          clear hs1a hs1b hb6
          by_cases hs : s1 = 1
          · subst hs
            have HONE : Hid (Nat.gcd x y = 1) := Lib.hid (by rw [HS1.out.1 rfl]; exact Nat.gcd_one_left _)
            have hA : Below w.heap.size w (w6.alloc (.cells (Nt.row [1]) 144)) := HB6.out.alloc HB6.out.size _
            have KU := Rn.Up_any [1] k _ (w6.alloc (.cells (Nt.row [1]) 144)) (Nt.In.of_row (heap_alloc_new w6 _)) (fun z hz => by simp at hz; omega) (by simp) HKL.out.1
            have e1 : Nt.row [1] = #[.int .u32 1] := rfl
            rw [e1] at KU hA
            have HAX := Lib.hid hA
            clear e1 hA
            go_wp2_with fail
            refine KU.mono ?_
            rintro z wu ⟨vu, rfl, hnu, hbu⟩
            have HNU := Lib.hid hnu
            have HBU := Lib.hid (HAX.out.trans (hbu.mono HAX.out.size))
            clear KU hnu hbu
            go_wp2_with fail
            go_ret
            refine ⟨_, rfl, ?_, HBU.out⟩
            have e2 : Nt.val [1] = 1 := by simp [Nt.val]
            have := HNU.out
            rw [e2] at this
            rw [HG.out, ← HXY.out.2.2.2.2.1, HONE.out]
            exact this
          · have hsI : ((s1 : Int) == 1) = false := by simp; omega
            go_wp2_with fail
            refine (HSY.out w6 HP6.out).mono ?_
            rintro z w7 ⟨s2, rfl, hs2a, hs2b, hb7⟩
            have HS2 := Lib.hid (Rn.size_one HXP.out.2 hs2a hs2b)
            have HB7 := Lib.hid (HB6.out.trans (hb7.mono HB6.out.size))
            have HP7 := Lib.hid (HP6.out.trans (hb7.mono HP6.out.size))
            clear hs2a hs2b hb7
            by_cases hs2 : s2 = 1
            · subst hs2
              have HONE : Hid (Nat.gcd x y = 1) := Lib.hid (by rw [HS2.out.1 rfl]; exact Nat.gcd_one_right _)
              have hA : Below w.heap.size w (w7.alloc (.cells (Nt.row [1]) 144)) := HB7.out.alloc HB7.out.size _
              have KU := Rn.Up_any [1] k _ (w7.alloc (.cells (Nt.row [1]) 144)) (Nt.In.of_row (heap_alloc_new w7 _)) (fun z hz => by simp at hz; omega) (by simp) HKL.out.1
              have e1 : Nt.row [1] = #[.int .u32 1] := rfl
              rw [e1] at KU hA
              have HAX := Lib.hid hA
              clear e1 hA
              go_wp2_with fail
              refine KU.mono ?_
              rintro z wu ⟨vu, rfl, hnu, hbu⟩
              have HNU := Lib.hid hnu
              have HBU := Lib.hid (HAX.out.trans (hbu.mono HAX.out.size))
              clear KU hnu hbu
              go_wp2_with fail
              go_ret
              refine ⟨_, rfl, ?_, HBU.out⟩
              have e2 : Nt.val [1] = 1 := by simp [Nt.val]
              have := HNU.out
              rw [e2] at this
              rw [HG.out, ← HXY.out.2.2.2.2.1, HONE.out]
              exact this
            · have hs2I : ((s2 : Int) == 1) = false := by simp; omega
              go_wp2_with fail
              refine (HORD.out w7 HP7.out).mono ?_
              rintro z w8 ⟨rfl, hb8⟩
              have HB8 := Lib.hid (HB7.out.trans (hb8.mono HB7.out.size))
              have HP8 := Lib.hid (HP7.out.trans (hb8.mono HP7.out.size))
              clear hb8
              have KL := HLS.out w8 HP8.out
              go_wp2_with fail
              refine KL.mono ?_
              rintro z w9 ⟨v9, rfl, hn9, hb9⟩
              have HB9 := Lib.hid (HB8.out.trans (hb9.mono HB8.out.size))
              have HP9 := Lib.hid (HP8.out.trans (hb9.mono HP8.out.size))
              have KO := Rn.odd_any (Nt.dig (y - x)) v9 w9 hn9 (Nt.dig_wd _) HLEN.out (by rw [Nt.val_dig]; have := HLT.out; omega)
              rw [Nt.val_dig] at KO
              obtain ⟨p9, c9, rfl⟩ := Nt.In.slice hn9
              clear hn9 hb9 KL
              go_wp2_with fail
              refine KO.mono ?_
              rintro z wq ⟨vq, t3, o3, rfl, hnq, ho3, hd3, hbq⟩
              have HBQ := Lib.hid (HB9.out.trans (hbq.mono HB9.out.size))
              have HPQ := Lib.hid (HP9.out.trans (hbq.mono HP9.out.size))
              have HNQ := Lib.hid (And.intro hnq (And.intro ho3 hd3))
              obtain ⟨pq, cq, rfl⟩ := Nt.In.slice hnq
              clear hnq hbq KO ho3 hd3
              go_wp2_with fail
              have HO3 : Hid (o3 ≤ y - x) := Lib.hid (by
                rw [HNQ.out.2.2]
                exact Nat.le_mul_of_pos_left _ (Nat.two_pow_pos _))
              have hlt9 := HLT.out
              have hle9 := HO3.out
              have hps := HXP.out
              go_roundg (o3 + x)
              case measure => omega
              case rel =>
                obtain ⟨q1, q2, q3, q4, q5, q6, q7⟩ := HXY.out
                refine ⟨o3, x, rfl, HNQ.out.1, Nt.In.below q1 HPQ.out (Nat.le_refl _), HNQ.out.2.1, q3, ?_, Nat.le_trans (Rn.dig_le (show o3 ≤ y by omega)) q7, q6, HBQ.out⟩
                rw [← q5]
                rw [Rn.gcd_less q3 (by omega) HNQ.out.2.2, Nat.gcd_comm]
        · subst hxy
          rw [Nt.cmp_eq] at HORD
          have KUX := Lib.hid (fun w' (hb : Below wp.heap.size wp w') => Rn.Up_any (Nt.dig x) k _ w' (Nt.In.below HXY.out.1 hb (Nat.le_refl _)) (Nt.dig_wd _) (by omega) HKL.out.1)
          rw [Nt.val_dig] at KUX
          clear hlx hly
          go_wp2_with fail
          refine (HORD.out wp (Below.refl _ _)).mono ?_
          rintro z w5 ⟨rfl, hb5⟩
          have HB5 := Lib.hid (HBP.out.trans (hb5.mono HBP.out.size))
          have HP5 := Lib.hid hb5
          clear hb5
          go_wp2_with fail
          refine (KUX.out w5 HP5.out).mono ?_
          rintro z w6 ⟨v6, rfl, hn6, hb6⟩
          have HN6 := Lib.hid hn6
          have HB6 := Lib.hid (HB5.out.trans (hb6.mono HB5.out.size))
          clear hn6 hb6
          go_wp2_with fail
          go_ret
          refine ⟨_, rfl, ?_, HB6.out⟩
          rw [HG.out, ← HXY.out.2.2.2.2.1, Nat.gcd_self]
          exact HN6.out
        · have HLT := Lib.hid hxy
          have HLS := Lib.hid (fun w' (hb : Below wp.heap.size wp w') => Rn.Less_any (Nt.dig x) (Nt.dig y) _ _ w' (Nt.In.below HXY.out.1 hb (Nat.le_refl _)) (Nt.In.below HXY.out.2.1 hb (Nat.le_refl _)) (Nt.dig_wd _) (Nt.dig_wd _) (by omega) (Rn.dig_le (by omega)) (by rw [Nt.val_dig, Nt.val_dig]; omega))
          rw [Nt.val_dig, Nt.val_dig] at HLS
          have HLEN : Hid ((Nt.dig (x - y)).length ≤ 1000000) := Lib.hid (Nat.le_trans (Rn.dig_le (show x - y ≤ x by omega)) (by omega))
          rw [Nt.cmp_gt hxy] at HORD
          clear hxy hlx hly
          go_wp2_with fail
          refine (HORD.out wp (Below.refl _ _)).mono ?_
          rintro z w5 ⟨rfl, hb5⟩
          have HB5 := Lib.hid (HBP.out.trans (hb5.mono HBP.out.size))
          have HP5 := Lib.hid hb5
          clear hb5
          go_wp2_with fail
          refine (HSX.out w5 HP5.out).mono ?_
          rintro z w6 ⟨s1, rfl, hs1a, hs1b, hb6⟩
          have HS1 := Lib.hid (Rn.size_one HXP.out.1 hs1a hs1b)
          have HB6 := Lib.hid (HB5.out.trans (hb6.mono HB5.out.size))
          have HP6 := Lib.hid (HP5.out.trans (hb6.mono HP5.out.size))
          clear hs1a hs1b hb6
          by_cases hs : s1 = 1
          · subst hs
            have HONE : Hid (Nat.gcd x y = 1) := Lib.hid (by rw [HS1.out.1 rfl]; exact Nat.gcd_one_left _)
            have hA : Below w.heap.size w (w6.alloc (.cells (Nt.row [1]) 144)) := HB6.out.alloc HB6.out.size _
            have KU := Rn.Up_any [1] k _ (w6.alloc (.cells (Nt.row [1]) 144)) (Nt.In.of_row (heap_alloc_new w6 _)) (fun z hz => by simp at hz; omega) (by simp) HKL.out.1
            have e1 : Nt.row [1] = #[.int .u32 1] := rfl
            rw [e1] at KU hA
            have HAX := Lib.hid hA
            clear e1 hA
            go_wp2_with fail
            refine KU.mono ?_
            rintro z wu ⟨vu, rfl, hnu, hbu⟩
            have HNU := Lib.hid hnu
            have HBU := Lib.hid (HAX.out.trans (hbu.mono HAX.out.size))
            clear KU hnu hbu
            go_wp2_with fail
            go_ret
            refine ⟨_, rfl, ?_, HBU.out⟩
            have e2 : Nt.val [1] = 1 := by simp [Nt.val]
            have := HNU.out
            rw [e2] at this
            rw [HG.out, ← HXY.out.2.2.2.2.1, HONE.out]
            exact this
          · have hsI : ((s1 : Int) == 1) = false := by simp; omega
            go_wp2_with fail
            refine (HSY.out w6 HP6.out).mono ?_
            rintro z w7 ⟨s2, rfl, hs2a, hs2b, hb7⟩
            have HS2 := Lib.hid (Rn.size_one HXP.out.2 hs2a hs2b)
            have HB7 := Lib.hid (HB6.out.trans (hb7.mono HB6.out.size))
            have HP7 := Lib.hid (HP6.out.trans (hb7.mono HP6.out.size))
            clear hs2a hs2b hb7
            by_cases hs2 : s2 = 1
            · subst hs2
              have HONE : Hid (Nat.gcd x y = 1) := Lib.hid (by rw [HS2.out.1 rfl]; exact Nat.gcd_one_right _)
              have hA : Below w.heap.size w (w7.alloc (.cells (Nt.row [1]) 144)) := HB7.out.alloc HB7.out.size _
              have KU := Rn.Up_any [1] k _ (w7.alloc (.cells (Nt.row [1]) 144)) (Nt.In.of_row (heap_alloc_new w7 _)) (fun z hz => by simp at hz; omega) (by simp) HKL.out.1
              have e1 : Nt.row [1] = #[.int .u32 1] := rfl
              rw [e1] at KU hA
              have HAX := Lib.hid hA
              clear e1 hA
              go_wp2_with fail
              refine KU.mono ?_
              rintro z wu ⟨vu, rfl, hnu, hbu⟩
              have HNU := Lib.hid hnu
              have HBU := Lib.hid (HAX.out.trans (hbu.mono HAX.out.size))
              clear KU hnu hbu
              go_wp2_with fail
              go_ret
              refine ⟨_, rfl, ?_, HBU.out⟩
              have e2 : Nt.val [1] = 1 := by simp [Nt.val]
              have := HNU.out
              rw [e2] at this
              rw [HG.out, ← HXY.out.2.2.2.2.1, HONE.out]
              exact this
            · have hs2I : ((s2 : Int) == 1) = false := by simp; omega
              go_wp2_with fail
              refine (HORD.out w7 HP7.out).mono ?_
              rintro z w8 ⟨rfl, hb8⟩
              have HB8 := Lib.hid (HB7.out.trans (hb8.mono HB7.out.size))
              have HP8 := Lib.hid (HP7.out.trans (hb8.mono HP7.out.size))
              clear hb8
              have KL := HLS.out w8 HP8.out
              go_wp2_with fail
              refine KL.mono ?_
              rintro z w9 ⟨v9, rfl, hn9, hb9⟩
              have HB9 := Lib.hid (HB8.out.trans (hb9.mono HB8.out.size))
              have HP9 := Lib.hid (HP8.out.trans (hb9.mono HP8.out.size))
              have KO := Rn.odd_any (Nt.dig (x - y)) v9 w9 hn9 (Nt.dig_wd _) HLEN.out (by rw [Nt.val_dig]; have := HLT.out; omega)
              rw [Nt.val_dig] at KO
              obtain ⟨p9, c9, rfl⟩ := Nt.In.slice hn9
              clear hn9 hb9 KL
              go_wp2_with fail
              refine KO.mono ?_
              rintro z wq ⟨vq, t3, o3, rfl, hnq, ho3, hd3, hbq⟩
              have HBQ := Lib.hid (HB9.out.trans (hbq.mono HB9.out.size))
              have HPQ := Lib.hid (HP9.out.trans (hbq.mono HP9.out.size))
              have HNQ := Lib.hid (And.intro hnq (And.intro ho3 hd3))
              obtain ⟨pq, cq, rfl⟩ := Nt.In.slice hnq
              clear hnq hbq KO ho3 hd3
              go_wp2_with fail
              have HO3 : Hid (o3 ≤ x - y) := Lib.hid (by
                rw [HNQ.out.2.2]
                exact Nat.le_mul_of_pos_left _ (Nat.two_pow_pos _))
              have hlt9 := HLT.out
              have hle9 := HO3.out
              have hps := HXP.out
              go_roundg (o3 + y)
              case measure => omega
              case rel =>
                obtain ⟨q1, q2, q3, q4, q5, q6, q7⟩ := HXY.out
                refine ⟨o3, y, rfl, HNQ.out.1, Nt.In.below q2 HPQ.out (Nat.le_refl _), HNQ.out.2.1, q4, ?_, Nat.le_trans (Rn.dig_le (show o3 ≤ x by omega)) q6, q7, HBQ.out⟩
                rw [← q5]
                exact Rn.gcd_less q4 (by omega) HNQ.out.2.2
end Go.Proofs.YtikmebkfdpbidaaGreatDoor
