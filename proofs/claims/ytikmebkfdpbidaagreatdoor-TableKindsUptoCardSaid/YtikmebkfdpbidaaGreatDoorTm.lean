/-
  The reference's RatSound and Sound of any number.
  The reference's Sound of a number of two fractions; noRat; IsChar.
  An empty text, in two ways.
  The reference's shape of a node of kind 1.
  The reference's shape of a node of kind 2.
  The reference's shape of a node of kind 3.
  The reference's shape of a node of kind 4.
  The reference's shape of a node of kind 5.
  The reference's shape of a node of kind 6.
  The reference's shape of a node of kind 7.
  The reference's shape of a node of kind 8.
  The reference's shape of a node of kind 9.
  The reference's shape of a node of kind 10.
-/
import Derived.Test.YtikmebkfdpbidaaGreatDoorTl
import Derived.Test.YtikmebkfdpbidaaGreatDoorTg
import Derived.Test.YtikmebkfdpbidaaGreatDoorTd
import Derived.Test.YtikmebkfdpbidaaGreatDoorTc
namespace Go.Proofs.YtikmebkfdpbidaaGreatDoor
open Go.RowKit
set_option linter.unusedVariables false
set_option linter.unusedSimpArgs false

set_option maxHeartbeats 1000000 in
set_option maxRecDepth 100000 in
theorem Rn.RatSound_any (s : Bool) (t b : List Nat) (v3 v4 : Value) (w : World) (h3 : Nt.In w v3 t) (h4 : Nt.In w v4 b) (ok : Rt.GOk t b) :
    Calls Tryz.prog 161 #[.agg #[.bool s, v3, v4]] w fun e w' => e = .returned (.bool (Rt.sound s t b)) ∧ Below w.heap.size w w' := by
  obtain ⟨a3, c3, rfl⟩ := h3.slice
  obtain ⟨a4, c4, rfl⟩ := h4.slice
  have hb0 : Below w.heap.size w (w.alloc (.cells #[.bool s, .slice a3 t.length c3, .slice a4 b.length c4] 24)) := (Below.refl _ _).alloc (Nat.le_refl _) _
  have hq0 : (w.alloc (.cells #[.bool s, .slice a3 t.length c3, .slice a4 b.length c4] 24)).heap[w.heap.size]? = some (.cells #[.bool s, .slice a3 t.length c3, .slice a4 b.length c4] 24 (0, 0)) := heap_alloc_new w _
  have hz0 : (w.alloc (.cells #[.bool s, .slice a3 t.length c3, .slice a4 b.length c4] 24)).heap.size = w.heap.size + 1 := by simp
  have KS1 := Rn.Sound_any t _ _ (h3.below hb0 (Nat.le_refl _)) ok.w1 ok.l1
  have HK2 := Lib.hid (fun w' (hb : Below w.heap.size w w') => Rn.Sound_any b _ w' (h4.below hb (Nat.le_refl _)) ok.w2 ok.l2)
  have HI := Lib.hid (And.intro h3 (And.intro h4 ok))
  have HF : Hid (∀ w', Below (w.heap.size + 1) (w.alloc (.cells #[.bool s, .slice a3 t.length c3, .slice a4 b.length c4] 24)) w' → w'.cell? ⟨w.heap.size, 0, none⟩ = some (.bool s) ∧ w'.cell? ⟨w.heap.size, 1, none⟩ = some (.slice a3 t.length c3) ∧ w'.cell? ⟨w.heap.size, 2, none⟩ = some (.slice a4 b.length c4) ∧ Below w.heap.size w w') := Lib.hid (fun w' hb => by
    have a0 := (hb.block w.heap.size (Nat.lt_succ_self _)).trans hq0
    refine ⟨?_, ?_, ?_, hb0.trans (hb.mono (Nat.le_succ _))⟩ <;> simp [World.cell?, a0])
  have hR : Rt.sound s t b = (Nt.sound t && Nt.sound b && decide (b.length ≠ 0) && !(decide (t.length = 0) && s) && decide (Nat.gcd (Nt.val t) (Nt.val b) = 1)) := rfl
  obtain ⟨R, hRR⟩ : ∃ z, z = Rt.sound s t b := ⟨_, rfl⟩
  rw [← hRR] at hR ⊢
  have HR := Lib.hid hR
  rw [hz0] at KS1
  clear h3 h4 ok hb0 hq0 hz0 hR hRR
  go_enter Tryz.func161, Tryz.ntmps161
  go_wp2_with fail
  refine KS1.mono ?_
  rintro x w1 ⟨rfl, hb1⟩
  obtain ⟨d0, d1, d2, hbw1⟩ := HF.out w1 hb1
  have HB1 := Lib.hid (And.intro hb1 hbw1)
  clear hb1 hbw1 KS1
  cases hs1 : Nt.sound t
  · have hans : R = false := by rw [HR.out, hs1]; rfl
    subst hans
    go_wp2_with fail
    go_ret
    exact ⟨rfl, HB1.out.2⟩
  · go_wp2_with fail
    refine (HK2.out w1 HB1.out.2).mono ?_
    rintro x w2 ⟨rfl, hb2⟩
    have hb2' := HB1.out.1.trans (hb2.mono (by have := HB1.out.1.size; simp at this; omega))
    clear d0 d1 d2
    obtain ⟨d0, d1, d2, hbw2⟩ := HF.out w2 hb2'
    have HB2 := Lib.hid (And.intro hb2' hbw2)
    clear hb2 hb2' hbw2
    cases hs2 : Nt.sound b
    · have hans : R = false := by rw [HR.out, hs1, hs2]; rfl
      subst hans
      go_wp2_with fail
      go_ret
      exact ⟨rfl, HB2.out.2⟩
    · by_cases hb0 : b.length = 0
      · have hans : R = false := by rw [HR.out, hs1, hs2, hb0]; rfl
        subst hans
        rw [hb0] at d2
        go_wp2_with fail
        go_ret
        exact ⟨rfl, HB2.out.2⟩
      · have hbI : ((b.length : Int) == 0) = false := beq_eq_false_iff_ne.2 (by omega)
        by_cases ht0 : t.length = 0 ∧ s = true
        · have hans : R = false := by rw [HR.out, hs1, hs2, ht0.1, ht0.2]; simp
          obtain ⟨ht1, rfl⟩ := ht0
          subst hans
          rw [ht1] at d1
          go_wp2_with fail
          go_ret
          exact ⟨rfl, HB2.out.2⟩
        · have hT2 : (decide (t.length = 0) && s) = false := by
            cases s
            · simp
            · have : ¬ t.length = 0 := fun h => ht0 ⟨h, rfl⟩
              simp [this]
          have hT3 : t.length = 0 → s = false := fun h => by
            cases s
            · rfl
            · exact absurd ⟨h, rfl⟩ ht0
          obtain ⟨et, ht5⟩ := Nt.sound_eq HI.out.2.2.w1 hs1
          obtain ⟨eb, hb5⟩ := Nt.sound_eq HI.out.2.2.w2 hs2
          have KD := Rn.Divisor_any (Nt.val t) (Nt.val b) (.slice a3 t.length c3) (.slice a4 b.length c4) w2 (by unfold Nt.N; rw [← et]; exact HI.out.1.below HB2.out.2 (Nat.le_refl _)) (by unfold Nt.N; rw [← eb]; exact HI.out.2.1.below HB2.out.2 (Nat.le_refl _)) (by rw [← et]; omega) (by rw [← eb]; omega)
          obtain ⟨g, hg⟩ : ∃ g, g = Nat.gcd (Nt.val t) (Nt.val b) := ⟨_, rfl⟩
          have hR2 : R = decide (g = 1) := by rw [HR.out, hs1, hs2, hT2, hg]; simp [hb0]
          rw [← hg] at KD
          have HGL : Hid ((Nt.dig g).length ≤ 512) := Lib.hid (by
            rw [hg]
            refine Nat.le_trans (Rn.dig_le (Nat.gcd_le_right _ ?_)) (by rw [← eb]; exact hb5)
            have h1 := Nt.dig_len_pos (n := Nt.val b)
            rw [← eb] at h1
            exact h1.1 (by omega))
          have HKS : Hid (∀ w' (v' : Value), Nt.N w' v' g → Calls Tryz.prog 147 #[v', .slice (some ⟨w'.heap.size, 0, none⟩) 1 1] (w'.alloc (.cells #[.int .u32 1] 144)) fun e w'' => e = .returned (.bool R) ∧ Below w'.heap.size w' w'') := Lib.hid (fun w' v' hN => by
            have hbA : Below w'.heap.size w' (w'.alloc (.cells #[.int .u32 1] 144)) := (Below.refl _ _).alloc (Nat.le_refl _) _
            have h1 : Nt.In (w'.alloc (.cells #[.int .u32 1] 144)) (.slice (some ⟨w'.heap.size, 0, none⟩) 1 1) [1] := Nt.In.of_row (ws := [1]) (heap_alloc_new w' _)
            by_cases h1g : g = 1
            · have e1 : Nt.dig g = [1] := by rw [h1g]; exact Nt.dig_small (by decide) (by decide)
              unfold Nt.N at hN
              rw [e1] at hN
              refine (Sm.nat [1] v' _ _ (by simp) (hN.below hbA (Nat.le_refl _)) h1).mono fun e w'' h => ⟨by rw [h.1, hR2, h1g]; rfl, hbA.trans (h.2.mono hbA.size)⟩
            · have e1 : Nt.dig g ≠ [1] := fun e => h1g (by
                have := Nt.val_dig g
                rw [e] at this
                simpa [Nt.val] using this.symm)
              refine (Rn.Same_ne (Nt.dig g) [1] v' _ _ (by have := HGL.out; omega) (Nt.In.below hN hbA (Nat.le_refl _)) h1 e1).mono fun e w'' h => ⟨by rw [h.1, hR2, decide_eq_false h1g], hbA.trans (h.2.mono hbA.size)⟩)
          have HB3 : Hid (∀ w', Below w2.heap.size w2 w' → Below w.heap.size w w') := Lib.hid (fun w' hb => HB2.out.2.trans (hb.mono HB2.out.2.size))
          clear hg hR2 et eb ht5 hb5 hT2 ht0 hs1 hs2
          by_cases ht9 : t.length = 0
          · have hs9 := hT3 ht9
            subst hs9
            rw [ht9] at d1 KD
            clear hT3 ht9
            go_wp2_with fail
            refine KD.mono ?_
            rintro x w3 ⟨v', rfl, hN, hb3⟩
            have KS := HKS.out w3 v' hN
            have HB4 := Lib.hid hb3
            obtain ⟨pa, pc, rfl⟩ := Nt.In.slice hN
            clear hN hb3 KD
            go_wp2_with fail
            refine KS.mono ?_
            rintro x w4 ⟨rfl, hb4⟩
            have HB5 := Lib.hid (HB3.out w4 (HB4.out.trans (hb4.mono HB4.out.size)))
            clear hb4 KS
            go_wp2_with fail
            go_ret
            exact ⟨rfl, HB5.out⟩
          · have htI : ((t.length : Int) == 0) = false := beq_eq_false_iff_ne.2 (by omega)
            clear hT3 ht9
            go_wp2_with fail
            refine KD.mono ?_
            rintro x w3 ⟨v', rfl, hN, hb3⟩
            have KS := HKS.out w3 v' hN
            have HB4 := Lib.hid hb3
            obtain ⟨pa, pc, rfl⟩ := Nt.In.slice hN
            clear hN hb3 KD
            go_wp2_with fail
            refine KS.mono ?_
            rintro x w4 ⟨rfl, hb4⟩
            have HB5 := Lib.hid (HB3.out w4 (HB4.out.trans (hb4.mono HB4.out.size)))
            clear hb4 KS
            go_wp2_with fail
            go_ret
            exact ⟨rfl, HB5.out⟩
end Go.Proofs.YtikmebkfdpbidaaGreatDoor
namespace Go.Proofs.YtikmebkfdpbidaaGreatDoor
open Go.RowKit
set_option linter.unusedVariables false
set_option linter.unusedSimpArgs false

set_option maxHeartbeats 1000000 in
set_option maxRecDepth 100000 in
theorem Rn.SoundN_any (s1 s2 : Bool) (t1 b1 t2 b2 : List Nat) (v3 v4 v6 v7 : Value) (w : World) (i3 : Nt.In w v3 t1) (i4 : Nt.In w v4 b1) (i6 : Nt.In w v6 t2) (i7 : Nt.In w v7 b2) (ok1 : Rt.GOk t1 b1) (ok2 : Rt.GOk t2 b2) :
    Calls Tryz.prog 103 #[.agg #[.bool s1, v3, v4, .bool s2, v6, v7]] w fun e w' => e = .returned (.bool (Rt.sound s1 t1 b1 && Rt.sound s2 t2 b2)) ∧ Below w.heap.size w w' := by
  obtain ⟨a3, c3, rfl⟩ := i3.slice
  obtain ⟨a4, c4, rfl⟩ := i4.slice
  obtain ⟨a6, c6, rfl⟩ := i6.slice
  obtain ⟨a7, c7, rfl⟩ := i7.slice
  have hb0 : Below w.heap.size w (w.alloc (.cells #[.bool s1, .slice a3 t1.length c3, .slice a4 b1.length c4, .bool s2, .slice a6 t2.length c6, .slice a7 b2.length c7] 26)) := (Below.refl _ _).alloc (Nat.le_refl _) _
  have hq0 : (w.alloc (.cells #[.bool s1, .slice a3 t1.length c3, .slice a4 b1.length c4, .bool s2, .slice a6 t2.length c6, .slice a7 b2.length c7] 26)).heap[w.heap.size]? = some (.cells #[.bool s1, .slice a3 t1.length c3, .slice a4 b1.length c4, .bool s2, .slice a6 t2.length c6, .slice a7 b2.length c7] 26 (0, 0)) := heap_alloc_new w _
  have hz0 : (w.alloc (.cells #[.bool s1, .slice a3 t1.length c3, .slice a4 b1.length c4, .bool s2, .slice a6 t2.length c6, .slice a7 b2.length c7] 26)).heap.size = w.heap.size + 1 := by simp
  have K1 := Rn.RatSound_any s1 t1 b1 _ _ _ (i3.below hb0 (Nat.le_refl _)) (i4.below hb0 (Nat.le_refl _)) ok1
  have HK2 := Lib.hid (fun w' (hb : Below w.heap.size w w') => Rn.RatSound_any s2 t2 b2 _ _ w' (i6.below hb (Nat.le_refl _)) (i7.below hb (Nat.le_refl _)) ok2)
  have HF : Hid (∀ w', Below (w.heap.size + 1) (w.alloc (.cells #[.bool s1, .slice a3 t1.length c3, .slice a4 b1.length c4, .bool s2, .slice a6 t2.length c6, .slice a7 b2.length c7] 26)) w' → w'.cell? ⟨w.heap.size, 3, none⟩ = some (.bool s2) ∧ w'.cell? ⟨w.heap.size, 4, none⟩ = some (.slice a6 t2.length c6) ∧ w'.cell? ⟨w.heap.size, 5, none⟩ = some (.slice a7 b2.length c7) ∧ Below w.heap.size w w') := Lib.hid (fun w' hb => by
    have a0 := (hb.block w.heap.size (Nat.lt_succ_self _)).trans hq0
    refine ⟨?_, ?_, ?_, hb0.trans (hb.mono (Nat.le_succ _))⟩ <;> simp [World.cell?, a0])
  rw [hz0] at K1
  clear i3 i4 i6 i7 ok1 ok2 hb0 hq0 hz0
  generalize Rt.sound s1 t1 b1 = R1 at *
  generalize Rt.sound s2 t2 b2 = R2 at *
  go_enter Tryz.func103, Tryz.ntmps103
  go_wp2_with fail
  refine K1.mono ?_
  rintro x w1 ⟨rfl, hb1⟩
  obtain ⟨d3, d4, d5, hbw1⟩ := HF.out w1 hb1
  have HB1 := Lib.hid hbw1
  clear hb1 hbw1 K1
  cases R1
  · go_wp2_with fail
    go_ret
    exact ⟨rfl, HB1.out⟩
  · go_wp2_with fail
    refine (HK2.out w1 HB1.out).mono ?_
    rintro x w2 ⟨rfl, hb2⟩
    have HB2 := Lib.hid (HB1.out.trans (hb2.mono HB1.out.size))
    clear hb2 d3 d4 d5
    go_wp2_with fail
    go_ret
    exact ⟨rfl, HB2.out⟩
set_option maxHeartbeats 1000000 in
set_option maxRecDepth 100000 in
theorem Rn.noRat_any (s : Bool) (t b : List Nat) (v3 v4 : Value) (w : World) (h3 : Nt.In w v3 t) (h4 : Nt.In w v4 b) (hl1 : t.length ≤ 4611686018427387904) (hl2 : b.length ≤ 4611686018427387904) :
    Calls Tryz.prog 116 #[.agg #[.bool s, v3, v4]] w fun e w' => e = .returned (.bool (Rt.noRat s t b)) ∧ Below w.heap.size w w' := by
  obtain ⟨a3, c3, rfl⟩ := h3.slice
  obtain ⟨a4, c4, rfl⟩ := h4.slice
  have hb0 : ∀ o, Below w.heap.size w (w.alloc o) := fun o => (Below.refl _ _).alloc (Nat.le_refl _) _
  have HB0 := Lib.hid hb0
  unfold Rt.noRat
  clear h3 h4 hb0
  cases s
  · by_cases h0 : t.length = 0 ∧ b.length = 0
    · rw [h0.1, h0.2]
      clear hl1 hl2 h0
      go_enter Tryz.func116, Tryz.ntmps116
      go_wp2_with fail
      go_ret
      exact ⟨rfl, HB0.out _⟩
    · have hR : (!false && decide (t.length = 0) && decide (b.length = 0)) = false := by
        by_cases h1 : t.length = 0
        · have h2 : ¬ b.length = 0 := fun h => h0 ⟨h1, h⟩
          simp [h1, h2]
        · simp [h1]
      rw [hR]
      have hpos : 0 < (t.length : Int) + (b.length : Int) := by omega
      have hS : (wrap64 ((t.length : Int) + (b.length : Int)) == 0) = false := by
        refine beq_eq_false_iff_ne.2 ?_
        unfold wrap64
        omega
      generalize t.length = lt at *
      generalize b.length = lb at *
      clear hR h0
      go_enter Tryz.func116, Tryz.ntmps116
      go_wp2_with fail
      go_ret
      exact ⟨rfl, HB0.out _⟩
  · go_enter Tryz.func116, Tryz.ntmps116
    go_wp2_with fail
    go_ret
    exact ⟨rfl, HB0.out _⟩
set_option maxHeartbeats 1000000 in
set_option maxRecDepth 100000 in
theorem Rn.IsChar_any (n : Int) (w : World) : Calls Tryz.prog 117 #[.int .i64 n] w fun e w' => e = .returned (.bool (Tr.isChar n)) ∧ Below w.heap.size w w' := by
  unfold Tr.isChar
  by_cases h1 : 0 ≤ n
  · by_cases h2 : n ≤ 1114111
    · by_cases h3 : n < 55296
      · have hR : (decide (0 ≤ n) && decide (n ≤ 55295) || decide (57344 ≤ n) && decide (n ≤ 1114111)) = true := by
          rw [decide_eq_true h1, decide_eq_true (show n ≤ 55295 by omega)]; rfl
        rw [hR]
        clear hR
        go_enter Tryz.func117, Tryz.ntmps117
        go_wp2_with fail
        go_ret
        exact ⟨rfl, Below.refl _ _⟩
      · by_cases h4 : n > 57343
        · have hR : (decide (0 ≤ n) && decide (n ≤ 55295) || decide (57344 ≤ n) && decide (n ≤ 1114111)) = true := by
            rw [decide_eq_true (show 57344 ≤ n by omega), decide_eq_true h2]; simp
          rw [hR]
          clear hR
          go_enter Tryz.func117, Tryz.ntmps117
          go_wp2_with fail
          go_ret
          exact ⟨rfl, Below.refl _ _⟩
        · have hR : (decide (0 ≤ n) && decide (n ≤ 55295) || decide (57344 ≤ n) && decide (n ≤ 1114111)) = false := by
            rw [decide_eq_false (show ¬ 57344 ≤ n by omega), decide_eq_false (show ¬ n ≤ 55295 by omega)]; simp
          rw [hR]
          clear hR
          go_enter Tryz.func117, Tryz.ntmps117
          go_wp2_with fail
          go_ret
          exact ⟨rfl, Below.refl _ _⟩
    · have hR : (decide (0 ≤ n) && decide (n ≤ 55295) || decide (57344 ≤ n) && decide (n ≤ 1114111)) = false := by
        rw [decide_eq_false h2, decide_eq_false (show ¬ n ≤ 55295 by omega)]; simp
      rw [hR]
      clear hR
      go_enter Tryz.func117, Tryz.ntmps117
      go_wp2_with fail
      go_ret
      exact ⟨rfl, Below.refl _ _⟩
  · have hR : (decide (0 ≤ n) && decide (n ≤ 55295) || decide (57344 ≤ n) && decide (n ≤ 1114111)) = false := by
      rw [decide_eq_false h1, decide_eq_false (show ¬ 57344 ≤ n by omega)]; simp
    rw [hR]
    clear hR
    go_enter Tryz.func117, Tryz.ntmps117
    go_wp2_with fail
    go_ret
    exact ⟨rfl, Below.refl _ _⟩
end Go.Proofs.YtikmebkfdpbidaaGreatDoor
namespace Go.Proofs.YtikmebkfdpbidaaGreatDoor
open Go.RowKit
set_option linter.unusedVariables false

theorem Rd.empty (x : ByteArray) : x.toList = [] ↔ x.size = 0 := by
  have h : x.toList.length = x.size := by rw [ByteArray.toList_eq]; simp
  rw [← h]
  exact List.length_eq_zero_iff.symm
end Go.Proofs.YtikmebkfdpbidaaGreatDoor
namespace Go.Proofs.YtikmebkfdpbidaaGreatDoor
open Go.RowKit
set_option linter.unusedVariables false
set_option linter.unusedSimpArgs false

set_option maxHeartbeats 1000000 in
set_option maxRecDepth 1000000 in
theorem Rd.shape1 (N : Int) (s1 s2 : Bool) (t1 b1 t2 b2 : List Nat) (x raw : ByteArray) (n : Nat) (a3 a4 a6 a7 a9 a10 : Option Addr) (c3 c4 c6 c7 c9 c10 : Nat) (w : World) (hx : x.size ≤ 1048576)
    (i3 : Nt.In w (.slice a3 t1.length c3) t1) (i4 : Nt.In w (.slice a4 b1.length c4) b1) (i6 : Nt.In w (.slice a6 t2.length c6) t2) (i7 : Nt.In w (.slice a7 b2.length c7) b2) (ok1 : Rt.GOk t1 b1) (ok2 : Rt.GOk t2 b2) :
    Calls Tryz.prog 75 #[.agg #[.int .i64 1, .int .i64 N, .bool s1, .slice a3 t1.length c3, .slice a4 b1.length c4, .bool s2, .slice a6 t2.length c6, .slice a7 b2.length c7, .string x, .slice a9 raw.size c9, .slice a10 n c10]] w fun e w' => e = .returned (.bool (Tr.Hd.shape ⟨1, N, s1, t1, b1, s2, t2, b2, x, raw⟩ n)) ∧ Below w.heap.size w w' := by
  obtain ⟨R, hR⟩ : ∃ z, z = Tr.Hd.shape ⟨1, N, s1, t1, b1, s2, t2, b2, x, raw⟩ n := ⟨_, rfl⟩
  rw [← hR]
  have HR := Lib.hid hR
  have hb0 : Below w.heap.size w (w.alloc (.cells #[.int .i64 1, .int .i64 N, .bool s1, .slice a3 t1.length c3, .slice a4 b1.length c4, .bool s2, .slice a6 t2.length c6, .slice a7 b2.length c7, .string x, .slice a9 raw.size c9, .slice a10 n c10] 30)) := (Below.refl _ _).alloc (Nat.le_refl _) _
  have hq0 : (w.alloc (.cells #[.int .i64 1, .int .i64 N, .bool s1, .slice a3 t1.length c3, .slice a4 b1.length c4, .bool s2, .slice a6 t2.length c6, .slice a7 b2.length c7, .string x, .slice a9 raw.size c9, .slice a10 n c10] 30)).heap[w.heap.size]? = some (.cells #[.int .i64 1, .int .i64 N, .bool s1, .slice a3 t1.length c3, .slice a4 b1.length c4, .bool s2, .slice a6 t2.length c6, .slice a7 b2.length c7, .string x, .slice a9 raw.size c9, .slice a10 n c10] 30 (0, 0)) := heap_alloc_new w _
  have hz0 : (w.alloc (.cells #[.int .i64 1, .int .i64 N, .bool s1, .slice a3 t1.length c3, .slice a4 b1.length c4, .bool s2, .slice a6 t2.length c6, .slice a7 b2.length c7, .string x, .slice a9 raw.size c9, .slice a10 n c10] 30)).heap.size = w.heap.size + 1 := by simp
  have HF : Hid (∀ w', Below (w.heap.size + 1) (w.alloc (.cells #[.int .i64 1, .int .i64 N, .bool s1, .slice a3 t1.length c3, .slice a4 b1.length c4, .bool s2, .slice a6 t2.length c6, .slice a7 b2.length c7, .string x, .slice a9 raw.size c9, .slice a10 n c10] 30)) w' → (∀ j, w'.cell? ⟨w.heap.size, j, none⟩ = (#[.int .i64 1, .int .i64 N, .bool s1, .slice a3 t1.length c3, .slice a4 b1.length c4, .bool s2, .slice a6 t2.length c6, .slice a7 b2.length c7, .string x, .slice a9 raw.size c9, .slice a10 n c10] : Array Value)[j]?) ∧ Below w.heap.size w w') := Lib.hid (fun w' hb => by
    have a0 := (hb.block w.heap.size (Nat.lt_succ_self _)).trans hq0
    exact ⟨fun j => by simp [World.cell?, a0], hb0.trans (hb.mono (Nat.le_succ _))⟩)
  have KV := Ru.valid_any x (w.alloc (.cells #[.int .i64 1, .int .i64 N, .bool s1, .slice a3 t1.length c3, .slice a4 b1.length c4, .bool s2, .slice a6 t2.length c6, .slice a7 b2.length c7, .string x, .slice a9 raw.size c9, .slice a10 n c10] 30)) (by omega)
  rw [hz0] at KV
  have HK1 := Lib.hid (fun w' (hb : Below w.heap.size w w') => Rn.noRat_any s1 t1 b1 _ _ w' (i3.below hb (Nat.le_refl _)) (i4.below hb (Nat.le_refl _)) ok1.l1 ok1.l2)
  have HK2 := Lib.hid (fun w' (hb : Below w.heap.size w w') => Rn.noRat_any s2 t2 b2 _ _ w' (i6.below hb (Nat.le_refl _)) (i7.below hb (Nat.le_refl _)) ok2.l1 ok2.l2)
  clear hb0 hq0 hz0 hR i3 i4 i6 i7 ok1 ok2 hx
  cases hV : Lib.validD x.data.toList
  all_goals
    rw [hV] at KV
    go_enter Tryz.func75, Tryz.ntmps75
    go_wp2_with fail
    refine KV.mono ?_
    rintro z w1 ⟨rfl, hb1⟩
    obtain ⟨d, hbw1⟩ := HF.out w1 hb1
    have d0 := d 0
    have d2 := d 2
    have d3 := d 3
    have d4 := d 4
    have d5 := d 5
    have d6 := d 6
    have d7 := d 7
    have HB1 := Lib.hid (And.intro hb1 hbw1)
    clear hb1 hbw1 d KV
  · have hans : R = false := by
      rw [HR.out]
      simp [Tr.Hd.shape, Tr.Hd.num, Tr.isText, Tr.own, hV]
    have HANS := Lib.hid hans
    clear hans
    go_wp2_with fail
    go_ret
    exact ⟨by rw [HANS.out]; rfl, HB1.out.2⟩
  · cases hS1 : Rt.noRat s1 t1 b1
    all_goals
      have KN := HK1.out w1 HB1.out.2
      rw [hS1] at KN
      go_wp2_with fail
      refine KN.mono ?_
      rintro z w2 ⟨rfl, hb2⟩
      have hb2' := HB1.out.1.trans (hb2.mono (by have := HB1.out.1.size; simp at this; omega))
      obtain ⟨d, hbw2⟩ := HF.out w2 hb2'
      clear d0 d2 d3 d4 d5 d6 d7
      have d0 := d 0
      have d2 := d 2
      have d5 := d 5
      have d6 := d 6
      have d7 := d 7
      have HB2 := Lib.hid (And.intro hb2' hbw2)
      clear hb2 hb2' hbw2 d
      clear KN
    · have hans : R = false := by
        rw [HR.out]
        simp [Tr.Hd.shape, Tr.Hd.num, Tr.isText, Tr.own, hV, hS1]
      have HANS := Lib.hid hans
      clear hans
      go_wp2_with fail
      go_ret
      exact ⟨by rw [HANS.out]; rfl, HB2.out.2⟩
    · cases hS2 : Rt.noRat s2 t2 b2
      all_goals
        have KN := HK2.out w2 HB2.out.2
        rw [hS2] at KN
        go_wp2_with fail
        refine KN.mono ?_
        rintro z w3 ⟨rfl, hb3⟩
        have hb3' := HB2.out.1.trans (hb3.mono (by have := HB2.out.1.size; simp at this; omega))
        obtain ⟨d, hbw3⟩ := HF.out w3 hb3'
        clear d0 d2 d5 d6 d7
        have d0 := d 0
        have d1 := d 1
        have d8 := d 8
        have d9 := d 9
        have d10 := d 10
        have HB3 := Lib.hid (And.intro hb3' hbw3)
        clear hb3 hb3' hbw3 d
        clear KN
      · have hans : R = false := by
          rw [HR.out]
          simp [Tr.Hd.shape, Tr.Hd.num, Tr.isText, Tr.own, hV, hS1, hS2]
        have HANS := Lib.hid hans
        clear hans
        go_wp2_with fail
        go_ret
        exact ⟨by rw [HANS.out]; rfl, HB3.out.2⟩
      · by_cases hxz : x.size = 0
        · have hxl : x.toList = [] := (Rd.empty x).2 hxz
          by_cases hr : raw.size = 0
          · have hr0 : ¬ 0 < raw.size := by omega
            have hrI : ¬ (raw.size : Int) > 0 := by omega
            by_cases hN : N = 0
            · subst hN
              by_cases hn : n = 0
              · have hnI : ((n : Int) == 0) = true := by subst hn; rfl
                have hans : R = true := by
                  rw [HR.out]
                  simp [Tr.Hd.shape, Tr.Hd.num, Tr.isText, Tr.own, hV, hS1, hS2, hxz, hr, hn]
                have HANS := Lib.hid hans
                clear hans
                go_wp2_with fail
                go_ret
                exact ⟨by rw [HANS.out]; rfl, HB3.out.2⟩
              · have hnI : ((n : Int) == 0) = false := beq_eq_false_iff_ne.2 (by omega)
                have hans : R = false := by
                  rw [HR.out]
                  simp [Tr.Hd.shape, Tr.Hd.num, Tr.isText, Tr.own, hV, hS1, hS2, hxz, hr, hn]
                have HANS := Lib.hid hans
                clear hans
                go_wp2_with fail
                go_ret
                exact ⟨by rw [HANS.out]; rfl, HB3.out.2⟩
            · have hNI : (N != 0) = true := by simpa using hN
              have hans : R = false := by
                rw [HR.out]
                simp [Tr.Hd.shape, Tr.Hd.num, Tr.isText, Tr.own, hV, hS1, hS2, hxz, hr, hN]
              have HANS := Lib.hid hans
              clear hans
              go_wp2_with fail
              go_ret
              exact ⟨by rw [HANS.out]; rfl, HB3.out.2⟩
          · have hr0 : 0 < raw.size := by omega
            have hrI : (raw.size : Int) > 0 := by omega
            have hans : R = false := by
              rw [HR.out]
              simp [Tr.Hd.shape, Tr.Hd.num, Tr.isText, Tr.own, hV, hS1, hS2, hxz, hr]
            have HANS := Lib.hid hans
            clear hans
            go_wp2_with fail
            go_ret
            exact ⟨by rw [HANS.out]; rfl, HB3.out.2⟩
        · have hxl : ¬ x.toList = [] := fun e => hxz ((Rd.empty x).1 e)
          have hxe : x.toList.isEmpty = false := by cases hh : x.toList with | nil => exact absurd hh hxl | cons a r => rfl
          have hans : R = false := by
            rw [HR.out]
            simp [Tr.Hd.shape, Tr.Hd.num, Tr.isText, Tr.own, hV, hS1, hS2, hxz]
          have HANS := Lib.hid hans
          clear hans
          go_wp2_with fail
          go_ret
          exact ⟨by rw [HANS.out]; rfl, HB3.out.2⟩
end Go.Proofs.YtikmebkfdpbidaaGreatDoor
namespace Go.Proofs.YtikmebkfdpbidaaGreatDoor
open Go.RowKit
set_option linter.unusedVariables false
set_option linter.unusedSimpArgs false

set_option maxHeartbeats 1000000 in
set_option maxRecDepth 1000000 in
theorem Rd.shape2 (N : Int) (s1 s2 : Bool) (t1 b1 t2 b2 : List Nat) (x raw : ByteArray) (n : Nat) (a3 a4 a6 a7 a9 a10 : Option Addr) (c3 c4 c6 c7 c9 c10 : Nat) (w : World) (hx : x.size ≤ 1048576)
    (i3 : Nt.In w (.slice a3 t1.length c3) t1) (i4 : Nt.In w (.slice a4 b1.length c4) b1) (i6 : Nt.In w (.slice a6 t2.length c6) t2) (i7 : Nt.In w (.slice a7 b2.length c7) b2) (ok1 : Rt.GOk t1 b1) (ok2 : Rt.GOk t2 b2) :
    Calls Tryz.prog 75 #[.agg #[.int .i64 2, .int .i64 N, .bool s1, .slice a3 t1.length c3, .slice a4 b1.length c4, .bool s2, .slice a6 t2.length c6, .slice a7 b2.length c7, .string x, .slice a9 raw.size c9, .slice a10 n c10]] w fun e w' => e = .returned (.bool (Tr.Hd.shape ⟨2, N, s1, t1, b1, s2, t2, b2, x, raw⟩ n)) ∧ Below w.heap.size w w' := by
  obtain ⟨R, hR⟩ : ∃ z, z = Tr.Hd.shape ⟨2, N, s1, t1, b1, s2, t2, b2, x, raw⟩ n := ⟨_, rfl⟩
  rw [← hR]
  have HR := Lib.hid hR
  have hb0 : Below w.heap.size w (w.alloc (.cells #[.int .i64 2, .int .i64 N, .bool s1, .slice a3 t1.length c3, .slice a4 b1.length c4, .bool s2, .slice a6 t2.length c6, .slice a7 b2.length c7, .string x, .slice a9 raw.size c9, .slice a10 n c10] 30)) := (Below.refl _ _).alloc (Nat.le_refl _) _
  have hq0 : (w.alloc (.cells #[.int .i64 2, .int .i64 N, .bool s1, .slice a3 t1.length c3, .slice a4 b1.length c4, .bool s2, .slice a6 t2.length c6, .slice a7 b2.length c7, .string x, .slice a9 raw.size c9, .slice a10 n c10] 30)).heap[w.heap.size]? = some (.cells #[.int .i64 2, .int .i64 N, .bool s1, .slice a3 t1.length c3, .slice a4 b1.length c4, .bool s2, .slice a6 t2.length c6, .slice a7 b2.length c7, .string x, .slice a9 raw.size c9, .slice a10 n c10] 30 (0, 0)) := heap_alloc_new w _
  have hz0 : (w.alloc (.cells #[.int .i64 2, .int .i64 N, .bool s1, .slice a3 t1.length c3, .slice a4 b1.length c4, .bool s2, .slice a6 t2.length c6, .slice a7 b2.length c7, .string x, .slice a9 raw.size c9, .slice a10 n c10] 30)).heap.size = w.heap.size + 1 := by simp
  have HF : Hid (∀ w', Below (w.heap.size + 1) (w.alloc (.cells #[.int .i64 2, .int .i64 N, .bool s1, .slice a3 t1.length c3, .slice a4 b1.length c4, .bool s2, .slice a6 t2.length c6, .slice a7 b2.length c7, .string x, .slice a9 raw.size c9, .slice a10 n c10] 30)) w' → (∀ j, w'.cell? ⟨w.heap.size, j, none⟩ = (#[.int .i64 2, .int .i64 N, .bool s1, .slice a3 t1.length c3, .slice a4 b1.length c4, .bool s2, .slice a6 t2.length c6, .slice a7 b2.length c7, .string x, .slice a9 raw.size c9, .slice a10 n c10] : Array Value)[j]?) ∧ Below w.heap.size w w') := Lib.hid (fun w' hb => by
    have a0 := (hb.block w.heap.size (Nat.lt_succ_self _)).trans hq0
    exact ⟨fun j => by simp [World.cell?, a0], hb0.trans (hb.mono (Nat.le_succ _))⟩)
  have KV := Ru.valid_any x (w.alloc (.cells #[.int .i64 2, .int .i64 N, .bool s1, .slice a3 t1.length c3, .slice a4 b1.length c4, .bool s2, .slice a6 t2.length c6, .slice a7 b2.length c7, .string x, .slice a9 raw.size c9, .slice a10 n c10] 30)) (by omega)
  rw [hz0] at KV
  have HK1 := Lib.hid (fun w' (hb : Below w.heap.size w w') => Rn.noRat_any s1 t1 b1 _ _ w' (i3.below hb (Nat.le_refl _)) (i4.below hb (Nat.le_refl _)) ok1.l1 ok1.l2)
  have HK2 := Lib.hid (fun w' (hb : Below w.heap.size w w') => Rn.noRat_any s2 t2 b2 _ _ w' (i6.below hb (Nat.le_refl _)) (i7.below hb (Nat.le_refl _)) ok2.l1 ok2.l2)
  clear hb0 hq0 hz0 hR i3 i4 i6 i7 ok1 ok2 hx
  cases hV : Lib.validD x.data.toList
  all_goals
    rw [hV] at KV
    go_enter Tryz.func75, Tryz.ntmps75
    go_wp2_with fail
    refine KV.mono ?_
    rintro z w1 ⟨rfl, hb1⟩
    obtain ⟨d, hbw1⟩ := HF.out w1 hb1
    have d0 := d 0
    have d2 := d 2
    have d3 := d 3
    have d4 := d 4
    have d5 := d 5
    have d6 := d 6
    have d7 := d 7
    have HB1 := Lib.hid (And.intro hb1 hbw1)
    clear hb1 hbw1 d KV
  · have hans : R = false := by
      rw [HR.out]
      simp [Tr.Hd.shape, Tr.Hd.num, Tr.isText, Tr.own, hV]
    have HANS := Lib.hid hans
    clear hans
    go_wp2_with fail
    go_ret
    exact ⟨by rw [HANS.out]; rfl, HB1.out.2⟩
  · cases hS1 : Rt.noRat s1 t1 b1
    all_goals
      have KN := HK1.out w1 HB1.out.2
      rw [hS1] at KN
      go_wp2_with fail
      refine KN.mono ?_
      rintro z w2 ⟨rfl, hb2⟩
      have hb2' := HB1.out.1.trans (hb2.mono (by have := HB1.out.1.size; simp at this; omega))
      obtain ⟨d, hbw2⟩ := HF.out w2 hb2'
      clear d0 d2 d3 d4 d5 d6 d7
      have d0 := d 0
      have d2 := d 2
      have d5 := d 5
      have d6 := d 6
      have d7 := d 7
      have HB2 := Lib.hid (And.intro hb2' hbw2)
      clear hb2 hb2' hbw2 d
      clear KN
    · have hans : R = false := by
        rw [HR.out]
        simp [Tr.Hd.shape, Tr.Hd.num, Tr.isText, Tr.own, hV, hS1]
      have HANS := Lib.hid hans
      clear hans
      go_wp2_with fail
      go_ret
      exact ⟨by rw [HANS.out]; rfl, HB2.out.2⟩
    · cases hS2 : Rt.noRat s2 t2 b2
      all_goals
        have KN := HK2.out w2 HB2.out.2
        rw [hS2] at KN
        go_wp2_with fail
        refine KN.mono ?_
        rintro z w3 ⟨rfl, hb3⟩
        have hb3' := HB2.out.1.trans (hb3.mono (by have := HB2.out.1.size; simp at this; omega))
        obtain ⟨d, hbw3⟩ := HF.out w3 hb3'
        clear d0 d2 d5 d6 d7
        have d0 := d 0
        have d1 := d 1
        have d8 := d 8
        have d9 := d 9
        have d10 := d 10
        have HB3 := Lib.hid (And.intro hb3' hbw3)
        clear hb3 hb3' hbw3 d
        clear KN
      · have hans : R = false := by
          rw [HR.out]
          simp [Tr.Hd.shape, Tr.Hd.num, Tr.isText, Tr.own, hV, hS1, hS2]
        have HANS := Lib.hid hans
        clear hans
        go_wp2_with fail
        go_ret
        exact ⟨by rw [HANS.out]; rfl, HB3.out.2⟩
      · by_cases hxz : x.size = 0
        · have hxl : x.toList = [] := (Rd.empty x).2 hxz
          by_cases hr : raw.size = 0
          · have hr0 : ¬ 0 < raw.size := by omega
            have hrI : ¬ (raw.size : Int) > 0 := by omega
            by_cases hN : N = 0
            · subst hN
              by_cases hn : n = 0
              · have hnI : ((n : Int) == 0) = true := by subst hn; rfl
                have hans : R = true := by
                  rw [HR.out]
                  simp [Tr.Hd.shape, Tr.Hd.num, Tr.isText, Tr.own, hV, hS1, hS2, hxz, hr, hn]
                have HANS := Lib.hid hans
                clear hans
                go_wp2_with fail
                go_ret
                exact ⟨by rw [HANS.out]; rfl, HB3.out.2⟩
              · have hnI : ((n : Int) == 0) = false := beq_eq_false_iff_ne.2 (by omega)
                have hans : R = false := by
                  rw [HR.out]
                  simp [Tr.Hd.shape, Tr.Hd.num, Tr.isText, Tr.own, hV, hS1, hS2, hxz, hr, hn]
                have HANS := Lib.hid hans
                clear hans
                go_wp2_with fail
                go_ret
                exact ⟨by rw [HANS.out]; rfl, HB3.out.2⟩
            · by_cases hN1 : N = 1
              · subst hN1
                by_cases hn : n = 0
                · have hnI : ((n : Int) == 0) = true := by subst hn; rfl
                  have hans : R = true := by
                    rw [HR.out]
                    simp [Tr.Hd.shape, Tr.Hd.num, Tr.isText, Tr.own, hV, hS1, hS2, hxz, hr, hn]
                  have HANS := Lib.hid hans
                  clear hans
                  go_wp2_with fail
                  go_ret
                  exact ⟨by rw [HANS.out]; rfl, HB3.out.2⟩
                · have hnI : ((n : Int) == 0) = false := beq_eq_false_iff_ne.2 (by omega)
                  have hans : R = false := by
                    rw [HR.out]
                    simp [Tr.Hd.shape, Tr.Hd.num, Tr.isText, Tr.own, hV, hS1, hS2, hxz, hr, hn]
                  have HANS := Lib.hid hans
                  clear hans
                  go_wp2_with fail
                  go_ret
                  exact ⟨by rw [HANS.out]; rfl, HB3.out.2⟩
              · have hNI : (N != 0) = true := by simpa using hN
                have hNJ : (N != 1) = true := by simpa using hN1
                have hans : R = false := by
                  rw [HR.out]
                  simp [Tr.Hd.shape, Tr.Hd.num, Tr.isText, Tr.own, hV, hS1, hS2, hxz, hr, hN, hN1]
                have HANS := Lib.hid hans
                clear hans
                go_wp2_with fail
                go_ret
                exact ⟨by rw [HANS.out]; rfl, HB3.out.2⟩
          · have hr0 : 0 < raw.size := by omega
            have hrI : (raw.size : Int) > 0 := by omega
            have hans : R = false := by
              rw [HR.out]
              simp [Tr.Hd.shape, Tr.Hd.num, Tr.isText, Tr.own, hV, hS1, hS2, hxz, hr]
            have HANS := Lib.hid hans
            clear hans
            go_wp2_with fail
            go_ret
            exact ⟨by rw [HANS.out]; rfl, HB3.out.2⟩
        · have hxl : ¬ x.toList = [] := fun e => hxz ((Rd.empty x).1 e)
          have hxe : x.toList.isEmpty = false := by cases hh : x.toList with | nil => exact absurd hh hxl | cons a r => rfl
          have hans : R = false := by
            rw [HR.out]
            simp [Tr.Hd.shape, Tr.Hd.num, Tr.isText, Tr.own, hV, hS1, hS2, hxz]
          have HANS := Lib.hid hans
          clear hans
          go_wp2_with fail
          go_ret
          exact ⟨by rw [HANS.out]; rfl, HB3.out.2⟩
end Go.Proofs.YtikmebkfdpbidaaGreatDoor
namespace Go.Proofs.YtikmebkfdpbidaaGreatDoor
open Go.RowKit
set_option linter.unusedVariables false
set_option linter.unusedSimpArgs false

set_option maxHeartbeats 1000000 in
set_option maxRecDepth 1000000 in
theorem Rd.shape3 (N : Int) (s1 s2 : Bool) (t1 b1 t2 b2 : List Nat) (x raw : ByteArray) (n : Nat) (a3 a4 a6 a7 a9 a10 : Option Addr) (c3 c4 c6 c7 c9 c10 : Nat) (w : World) (hx : x.size ≤ 1048576)
    (i3 : Nt.In w (.slice a3 t1.length c3) t1) (i4 : Nt.In w (.slice a4 b1.length c4) b1) (i6 : Nt.In w (.slice a6 t2.length c6) t2) (i7 : Nt.In w (.slice a7 b2.length c7) b2) (ok1 : Rt.GOk t1 b1) (ok2 : Rt.GOk t2 b2) :
    Calls Tryz.prog 75 #[.agg #[.int .i64 3, .int .i64 N, .bool s1, .slice a3 t1.length c3, .slice a4 b1.length c4, .bool s2, .slice a6 t2.length c6, .slice a7 b2.length c7, .string x, .slice a9 raw.size c9, .slice a10 n c10]] w fun e w' => e = .returned (.bool (Tr.Hd.shape ⟨3, N, s1, t1, b1, s2, t2, b2, x, raw⟩ n)) ∧ Below w.heap.size w w' := by
  obtain ⟨R, hR⟩ : ∃ z, z = Tr.Hd.shape ⟨3, N, s1, t1, b1, s2, t2, b2, x, raw⟩ n := ⟨_, rfl⟩
  rw [← hR]
  have HR := Lib.hid hR
  have hb0 : Below w.heap.size w (w.alloc (.cells #[.int .i64 3, .int .i64 N, .bool s1, .slice a3 t1.length c3, .slice a4 b1.length c4, .bool s2, .slice a6 t2.length c6, .slice a7 b2.length c7, .string x, .slice a9 raw.size c9, .slice a10 n c10] 30)) := (Below.refl _ _).alloc (Nat.le_refl _) _
  have hq0 : (w.alloc (.cells #[.int .i64 3, .int .i64 N, .bool s1, .slice a3 t1.length c3, .slice a4 b1.length c4, .bool s2, .slice a6 t2.length c6, .slice a7 b2.length c7, .string x, .slice a9 raw.size c9, .slice a10 n c10] 30)).heap[w.heap.size]? = some (.cells #[.int .i64 3, .int .i64 N, .bool s1, .slice a3 t1.length c3, .slice a4 b1.length c4, .bool s2, .slice a6 t2.length c6, .slice a7 b2.length c7, .string x, .slice a9 raw.size c9, .slice a10 n c10] 30 (0, 0)) := heap_alloc_new w _
  have hz0 : (w.alloc (.cells #[.int .i64 3, .int .i64 N, .bool s1, .slice a3 t1.length c3, .slice a4 b1.length c4, .bool s2, .slice a6 t2.length c6, .slice a7 b2.length c7, .string x, .slice a9 raw.size c9, .slice a10 n c10] 30)).heap.size = w.heap.size + 1 := by simp
  have HF : Hid (∀ w', Below (w.heap.size + 1) (w.alloc (.cells #[.int .i64 3, .int .i64 N, .bool s1, .slice a3 t1.length c3, .slice a4 b1.length c4, .bool s2, .slice a6 t2.length c6, .slice a7 b2.length c7, .string x, .slice a9 raw.size c9, .slice a10 n c10] 30)) w' → (∀ j, w'.cell? ⟨w.heap.size, j, none⟩ = (#[.int .i64 3, .int .i64 N, .bool s1, .slice a3 t1.length c3, .slice a4 b1.length c4, .bool s2, .slice a6 t2.length c6, .slice a7 b2.length c7, .string x, .slice a9 raw.size c9, .slice a10 n c10] : Array Value)[j]?) ∧ Below w.heap.size w w') := Lib.hid (fun w' hb => by
    have a0 := (hb.block w.heap.size (Nat.lt_succ_self _)).trans hq0
    exact ⟨fun j => by simp [World.cell?, a0], hb0.trans (hb.mono (Nat.le_succ _))⟩)
  have KV := Ru.valid_any x (w.alloc (.cells #[.int .i64 3, .int .i64 N, .bool s1, .slice a3 t1.length c3, .slice a4 b1.length c4, .bool s2, .slice a6 t2.length c6, .slice a7 b2.length c7, .string x, .slice a9 raw.size c9, .slice a10 n c10] 30)) (by omega)
  rw [hz0] at KV
  have HKN := Lib.hid (fun w' (hb : Below w.heap.size w w') => Rn.SoundN_any s1 s2 t1 b1 t2 b2 _ _ _ _ w' (i3.below hb (Nat.le_refl _)) (i4.below hb (Nat.le_refl _)) (i6.below hb (Nat.le_refl _)) (i7.below hb (Nat.le_refl _)) ok1 ok2)
  clear hb0 hq0 hz0 hR i3 i4 i6 i7 ok1 ok2 hx
  cases hV : Lib.validD x.data.toList
  all_goals
    rw [hV] at KV
    go_enter Tryz.func75, Tryz.ntmps75
    go_wp2_with fail
    refine KV.mono ?_
    rintro z w1 ⟨rfl, hb1⟩
    obtain ⟨d, hbw1⟩ := HF.out w1 hb1
    have d0 := d 0
    have d2 := d 2
    have d3 := d 3
    have d4 := d 4
    have d5 := d 5
    have d6 := d 6
    have d7 := d 7
    have HB1 := Lib.hid (And.intro hb1 hbw1)
    clear hb1 hbw1 d KV
  · have hans : R = false := by
      rw [HR.out]
      simp [Tr.Hd.shape, Tr.Hd.num, Tr.isText, Tr.own, hV]
    have HANS := Lib.hid hans
    clear hans
    go_wp2_with fail
    go_ret
    exact ⟨by rw [HANS.out]; rfl, HB1.out.2⟩
  · cases hS : (Rt.sound s1 t1 b1 && Rt.sound s2 t2 b2)
    all_goals
      have KN := HKN.out w1 HB1.out.2
      rw [hS] at KN
      go_wp2_with fail
      refine KN.mono ?_
      rintro z w2 ⟨rfl, hb2⟩
      have hb2' := HB1.out.1.trans (hb2.mono (by have := HB1.out.1.size; simp at this; omega))
      obtain ⟨d, hbw2⟩ := HF.out w2 hb2'
      clear d0 d2 d3 d4 d5 d6 d7
      have d0 := d 0
      have d1 := d 1
      have d8 := d 8
      have d9 := d 9
      have d10 := d 10
      have HB2 := Lib.hid (And.intro hb2' hbw2)
      clear hb2 hb2' hbw2 d
      clear KN
    · have hans : R = false := by
        rw [HR.out]
        simp [Tr.Hd.shape, Tr.Hd.num, Tr.isText, Tr.own, hV, hS]
      have HANS := Lib.hid hans
      clear hans
      go_wp2_with fail
      go_ret
      exact ⟨by rw [HANS.out]; rfl, HB2.out.2⟩
    · by_cases hxz : x.size = 0
      · have hxl : x.toList = [] := (Rd.empty x).2 hxz
        by_cases hr : raw.size = 0
        · have hr0 : ¬ 0 < raw.size := by omega
          have hrI : ¬ (raw.size : Int) > 0 := by omega
          by_cases hN : N = 0
          · subst hN
            by_cases hn : n = 0
            · have hnI : ((n : Int) == 0) = true := by subst hn; rfl
              have hans : R = true := by
                rw [HR.out]
                simp [Tr.Hd.shape, Tr.Hd.num, Tr.isText, Tr.own, hV, hS, hxz, hr, hn]
              have HANS := Lib.hid hans
              clear hans
              go_wp2_with fail
              go_ret
              exact ⟨by rw [HANS.out]; rfl, HB2.out.2⟩
            · have hnI : ((n : Int) == 0) = false := beq_eq_false_iff_ne.2 (by omega)
              have hans : R = false := by
                rw [HR.out]
                simp [Tr.Hd.shape, Tr.Hd.num, Tr.isText, Tr.own, hV, hS, hxz, hr, hn]
              have HANS := Lib.hid hans
              clear hans
              go_wp2_with fail
              go_ret
              exact ⟨by rw [HANS.out]; rfl, HB2.out.2⟩
          · have hNI : (N != 0) = true := by simpa using hN
            have hans : R = false := by
              rw [HR.out]
              simp [Tr.Hd.shape, Tr.Hd.num, Tr.isText, Tr.own, hV, hS, hxz, hr, hN]
            have HANS := Lib.hid hans
            clear hans
            go_wp2_with fail
            go_ret
            exact ⟨by rw [HANS.out]; rfl, HB2.out.2⟩
        · have hr0 : 0 < raw.size := by omega
          have hrI : (raw.size : Int) > 0 := by omega
          have hans : R = false := by
            rw [HR.out]
            simp [Tr.Hd.shape, Tr.Hd.num, Tr.isText, Tr.own, hV, hS, hxz, hr]
          have HANS := Lib.hid hans
          clear hans
          go_wp2_with fail
          go_ret
          exact ⟨by rw [HANS.out]; rfl, HB2.out.2⟩
      · have hxl : ¬ x.toList = [] := fun e => hxz ((Rd.empty x).1 e)
        have hxe : x.toList.isEmpty = false := by cases hh : x.toList with | nil => exact absurd hh hxl | cons a r => rfl
        have hans : R = false := by
          rw [HR.out]
          simp [Tr.Hd.shape, Tr.Hd.num, Tr.isText, Tr.own, hV, hS, hxz]
        have HANS := Lib.hid hans
        clear hans
        go_wp2_with fail
        go_ret
        exact ⟨by rw [HANS.out]; rfl, HB2.out.2⟩
end Go.Proofs.YtikmebkfdpbidaaGreatDoor
namespace Go.Proofs.YtikmebkfdpbidaaGreatDoor
open Go.RowKit
set_option linter.unusedVariables false
set_option linter.unusedSimpArgs false

set_option maxHeartbeats 1000000 in
set_option maxRecDepth 1000000 in
theorem Rd.shape4 (N : Int) (s1 s2 : Bool) (t1 b1 t2 b2 : List Nat) (x raw : ByteArray) (n : Nat) (a3 a4 a6 a7 a9 a10 : Option Addr) (c3 c4 c6 c7 c9 c10 : Nat) (w : World) (hx : x.size ≤ 1048576)
    (i3 : Nt.In w (.slice a3 t1.length c3) t1) (i4 : Nt.In w (.slice a4 b1.length c4) b1) (i6 : Nt.In w (.slice a6 t2.length c6) t2) (i7 : Nt.In w (.slice a7 b2.length c7) b2) (ok1 : Rt.GOk t1 b1) (ok2 : Rt.GOk t2 b2) :
    Calls Tryz.prog 75 #[.agg #[.int .i64 4, .int .i64 N, .bool s1, .slice a3 t1.length c3, .slice a4 b1.length c4, .bool s2, .slice a6 t2.length c6, .slice a7 b2.length c7, .string x, .slice a9 raw.size c9, .slice a10 n c10]] w fun e w' => e = .returned (.bool (Tr.Hd.shape ⟨4, N, s1, t1, b1, s2, t2, b2, x, raw⟩ n)) ∧ Below w.heap.size w w' := by
  obtain ⟨R, hR⟩ : ∃ z, z = Tr.Hd.shape ⟨4, N, s1, t1, b1, s2, t2, b2, x, raw⟩ n := ⟨_, rfl⟩
  rw [← hR]
  have HR := Lib.hid hR
  have hb0 : Below w.heap.size w (w.alloc (.cells #[.int .i64 4, .int .i64 N, .bool s1, .slice a3 t1.length c3, .slice a4 b1.length c4, .bool s2, .slice a6 t2.length c6, .slice a7 b2.length c7, .string x, .slice a9 raw.size c9, .slice a10 n c10] 30)) := (Below.refl _ _).alloc (Nat.le_refl _) _
  have hq0 : (w.alloc (.cells #[.int .i64 4, .int .i64 N, .bool s1, .slice a3 t1.length c3, .slice a4 b1.length c4, .bool s2, .slice a6 t2.length c6, .slice a7 b2.length c7, .string x, .slice a9 raw.size c9, .slice a10 n c10] 30)).heap[w.heap.size]? = some (.cells #[.int .i64 4, .int .i64 N, .bool s1, .slice a3 t1.length c3, .slice a4 b1.length c4, .bool s2, .slice a6 t2.length c6, .slice a7 b2.length c7, .string x, .slice a9 raw.size c9, .slice a10 n c10] 30 (0, 0)) := heap_alloc_new w _
  have hz0 : (w.alloc (.cells #[.int .i64 4, .int .i64 N, .bool s1, .slice a3 t1.length c3, .slice a4 b1.length c4, .bool s2, .slice a6 t2.length c6, .slice a7 b2.length c7, .string x, .slice a9 raw.size c9, .slice a10 n c10] 30)).heap.size = w.heap.size + 1 := by simp
  have HF : Hid (∀ w', Below (w.heap.size + 1) (w.alloc (.cells #[.int .i64 4, .int .i64 N, .bool s1, .slice a3 t1.length c3, .slice a4 b1.length c4, .bool s2, .slice a6 t2.length c6, .slice a7 b2.length c7, .string x, .slice a9 raw.size c9, .slice a10 n c10] 30)) w' → (∀ j, w'.cell? ⟨w.heap.size, j, none⟩ = (#[.int .i64 4, .int .i64 N, .bool s1, .slice a3 t1.length c3, .slice a4 b1.length c4, .bool s2, .slice a6 t2.length c6, .slice a7 b2.length c7, .string x, .slice a9 raw.size c9, .slice a10 n c10] : Array Value)[j]?) ∧ Below w.heap.size w w') := Lib.hid (fun w' hb => by
    have a0 := (hb.block w.heap.size (Nat.lt_succ_self _)).trans hq0
    exact ⟨fun j => by simp [World.cell?, a0], hb0.trans (hb.mono (Nat.le_succ _))⟩)
  have KV := Ru.valid_any x (w.alloc (.cells #[.int .i64 4, .int .i64 N, .bool s1, .slice a3 t1.length c3, .slice a4 b1.length c4, .bool s2, .slice a6 t2.length c6, .slice a7 b2.length c7, .string x, .slice a9 raw.size c9, .slice a10 n c10] 30)) (by omega)
  rw [hz0] at KV
  have HK1 := Lib.hid (fun w' (hb : Below w.heap.size w w') => Rn.noRat_any s1 t1 b1 _ _ w' (i3.below hb (Nat.le_refl _)) (i4.below hb (Nat.le_refl _)) ok1.l1 ok1.l2)
  have HK2 := Lib.hid (fun w' (hb : Below w.heap.size w w') => Rn.noRat_any s2 t2 b2 _ _ w' (i6.below hb (Nat.le_refl _)) (i7.below hb (Nat.le_refl _)) ok2.l1 ok2.l2)
  clear hb0 hq0 hz0 hR i3 i4 i6 i7 ok1 ok2 hx
  cases hV : Lib.validD x.data.toList
  all_goals
    rw [hV] at KV
    go_enter Tryz.func75, Tryz.ntmps75
    go_wp2_with fail
    refine KV.mono ?_
    rintro z w1 ⟨rfl, hb1⟩
    obtain ⟨d, hbw1⟩ := HF.out w1 hb1
    have d0 := d 0
    have d2 := d 2
    have d3 := d 3
    have d4 := d 4
    have d5 := d 5
    have d6 := d 6
    have d7 := d 7
    have HB1 := Lib.hid (And.intro hb1 hbw1)
    clear hb1 hbw1 d KV
  · have hans : R = false := by
      rw [HR.out]
      simp [Tr.Hd.shape, Tr.Hd.num, Tr.isText, Tr.own, hV]
    have HANS := Lib.hid hans
    clear hans
    go_wp2_with fail
    go_ret
    exact ⟨by rw [HANS.out]; rfl, HB1.out.2⟩
  · cases hS1 : Rt.noRat s1 t1 b1
    all_goals
      have KN := HK1.out w1 HB1.out.2
      rw [hS1] at KN
      go_wp2_with fail
      refine KN.mono ?_
      rintro z w2 ⟨rfl, hb2⟩
      have hb2' := HB1.out.1.trans (hb2.mono (by have := HB1.out.1.size; simp at this; omega))
      obtain ⟨d, hbw2⟩ := HF.out w2 hb2'
      clear d0 d2 d3 d4 d5 d6 d7
      have d0 := d 0
      have d2 := d 2
      have d5 := d 5
      have d6 := d 6
      have d7 := d 7
      have HB2 := Lib.hid (And.intro hb2' hbw2)
      clear hb2 hb2' hbw2 d
      clear KN
    · have hans : R = false := by
        rw [HR.out]
        simp [Tr.Hd.shape, Tr.Hd.num, Tr.isText, Tr.own, hV, hS1]
      have HANS := Lib.hid hans
      clear hans
      go_wp2_with fail
      go_ret
      exact ⟨by rw [HANS.out]; rfl, HB2.out.2⟩
    · cases hS2 : Rt.noRat s2 t2 b2
      all_goals
        have KN := HK2.out w2 HB2.out.2
        rw [hS2] at KN
        go_wp2_with fail
        refine KN.mono ?_
        rintro z w3 ⟨rfl, hb3⟩
        have hb3' := HB2.out.1.trans (hb3.mono (by have := HB2.out.1.size; simp at this; omega))
        obtain ⟨d, hbw3⟩ := HF.out w3 hb3'
        clear d0 d2 d5 d6 d7
        have d0 := d 0
        have d1 := d 1
        have d8 := d 8
        have d9 := d 9
        have d10 := d 10
        have HB3 := Lib.hid (And.intro hb3' hbw3)
        clear hb3 hb3' hbw3 d
        clear KN
      · have hans : R = false := by
          rw [HR.out]
          simp [Tr.Hd.shape, Tr.Hd.num, Tr.isText, Tr.own, hV, hS1, hS2]
        have HANS := Lib.hid hans
        clear hans
        go_wp2_with fail
        go_ret
        exact ⟨by rw [HANS.out]; rfl, HB3.out.2⟩
      · by_cases hxz : x.size = 0
        · have hxl : x.toList = [] := (Rd.empty x).2 hxz
          by_cases hr : raw.size = 0
          · have hr0 : ¬ 0 < raw.size := by omega
            have hrI : ¬ (raw.size : Int) > 0 := by omega
            have KC := Rn.IsChar_any N w3
            cases hC : Tr.isChar N
            · rw [hC] at KC
              have hans : R = false := by
                rw [HR.out]
                simp [Tr.Hd.shape, Tr.Hd.num, Tr.isText, Tr.own, hV, hS1, hS2, hxz, hr, hC]
              have HANS := Lib.hid hans
              clear hans
              go_wp2_with fail
              refine KC.mono ?_
              rintro z w8 ⟨rfl, hb8⟩
              have HB8 := Lib.hid (HB3.out.2.trans (hb8.mono HB3.out.2.size))
              clear hb8 KC
              go_wp2_with fail
              go_ret
              exact ⟨by rw [HANS.out]; rfl, HB8.out⟩
            · rw [hC] at KC
              go_wp2_with fail
              refine KC.mono ?_
              rintro z w8 ⟨rfl, hb8⟩
              have hb8' := HB3.out.1.trans (hb8.mono (by have := HB3.out.1.size; simp at this; omega))
              obtain ⟨d, hbw8⟩ := HF.out w8 hb8'
              clear d0 d1 d8 d9 d10
              have d0 := d 0
              have d10 := d 10
              have HB8 := Lib.hid hbw8
              clear hb8 hb8' hbw8 d KC
              by_cases hn : n = 0
              · have hnI : ((n : Int) == 0) = true := by subst hn; rfl
                have hans : R = true := by
                  rw [HR.out]
                  simp [Tr.Hd.shape, Tr.Hd.num, Tr.isText, Tr.own, hV, hS1, hS2, hxz, hr, hC, hn]
                have HANS := Lib.hid hans
                clear hans
                go_wp2_with fail
                go_ret
                exact ⟨by rw [HANS.out]; rfl, HB8.out⟩
              · have hnI : ((n : Int) == 0) = false := beq_eq_false_iff_ne.2 (by omega)
                have hans : R = false := by
                  rw [HR.out]
                  simp [Tr.Hd.shape, Tr.Hd.num, Tr.isText, Tr.own, hV, hS1, hS2, hxz, hr, hC, hn]
                have HANS := Lib.hid hans
                clear hans
                go_wp2_with fail
                go_ret
                exact ⟨by rw [HANS.out]; rfl, HB8.out⟩
          · have hr0 : 0 < raw.size := by omega
            have hrI : (raw.size : Int) > 0 := by omega
            have hans : R = false := by
              rw [HR.out]
              simp [Tr.Hd.shape, Tr.Hd.num, Tr.isText, Tr.own, hV, hS1, hS2, hxz, hr]
            have HANS := Lib.hid hans
            clear hans
            go_wp2_with fail
            go_ret
            exact ⟨by rw [HANS.out]; rfl, HB3.out.2⟩
        · have hxl : ¬ x.toList = [] := fun e => hxz ((Rd.empty x).1 e)
          have hxe : x.toList.isEmpty = false := by cases hh : x.toList with | nil => exact absurd hh hxl | cons a r => rfl
          have hans : R = false := by
            rw [HR.out]
            simp [Tr.Hd.shape, Tr.Hd.num, Tr.isText, Tr.own, hV, hS1, hS2, hxz]
          have HANS := Lib.hid hans
          clear hans
          go_wp2_with fail
          go_ret
          exact ⟨by rw [HANS.out]; rfl, HB3.out.2⟩
end Go.Proofs.YtikmebkfdpbidaaGreatDoor
namespace Go.Proofs.YtikmebkfdpbidaaGreatDoor
open Go.RowKit
set_option linter.unusedVariables false
set_option linter.unusedSimpArgs false

set_option maxHeartbeats 1000000 in
set_option maxRecDepth 1000000 in
theorem Rd.shape5 (N : Int) (s1 s2 : Bool) (t1 b1 t2 b2 : List Nat) (x raw : ByteArray) (n : Nat) (a3 a4 a6 a7 a9 a10 : Option Addr) (c3 c4 c6 c7 c9 c10 : Nat) (w : World) (hx : x.size ≤ 1048576)
    (i3 : Nt.In w (.slice a3 t1.length c3) t1) (i4 : Nt.In w (.slice a4 b1.length c4) b1) (i6 : Nt.In w (.slice a6 t2.length c6) t2) (i7 : Nt.In w (.slice a7 b2.length c7) b2) (ok1 : Rt.GOk t1 b1) (ok2 : Rt.GOk t2 b2) :
    Calls Tryz.prog 75 #[.agg #[.int .i64 5, .int .i64 N, .bool s1, .slice a3 t1.length c3, .slice a4 b1.length c4, .bool s2, .slice a6 t2.length c6, .slice a7 b2.length c7, .string x, .slice a9 raw.size c9, .slice a10 n c10]] w fun e w' => e = .returned (.bool (Tr.Hd.shape ⟨5, N, s1, t1, b1, s2, t2, b2, x, raw⟩ n)) ∧ Below w.heap.size w w' := by
  obtain ⟨R, hR⟩ : ∃ z, z = Tr.Hd.shape ⟨5, N, s1, t1, b1, s2, t2, b2, x, raw⟩ n := ⟨_, rfl⟩
  rw [← hR]
  have HR := Lib.hid hR
  have hb0 : Below w.heap.size w (w.alloc (.cells #[.int .i64 5, .int .i64 N, .bool s1, .slice a3 t1.length c3, .slice a4 b1.length c4, .bool s2, .slice a6 t2.length c6, .slice a7 b2.length c7, .string x, .slice a9 raw.size c9, .slice a10 n c10] 30)) := (Below.refl _ _).alloc (Nat.le_refl _) _
  have hq0 : (w.alloc (.cells #[.int .i64 5, .int .i64 N, .bool s1, .slice a3 t1.length c3, .slice a4 b1.length c4, .bool s2, .slice a6 t2.length c6, .slice a7 b2.length c7, .string x, .slice a9 raw.size c9, .slice a10 n c10] 30)).heap[w.heap.size]? = some (.cells #[.int .i64 5, .int .i64 N, .bool s1, .slice a3 t1.length c3, .slice a4 b1.length c4, .bool s2, .slice a6 t2.length c6, .slice a7 b2.length c7, .string x, .slice a9 raw.size c9, .slice a10 n c10] 30 (0, 0)) := heap_alloc_new w _
  have hz0 : (w.alloc (.cells #[.int .i64 5, .int .i64 N, .bool s1, .slice a3 t1.length c3, .slice a4 b1.length c4, .bool s2, .slice a6 t2.length c6, .slice a7 b2.length c7, .string x, .slice a9 raw.size c9, .slice a10 n c10] 30)).heap.size = w.heap.size + 1 := by simp
  have HF : Hid (∀ w', Below (w.heap.size + 1) (w.alloc (.cells #[.int .i64 5, .int .i64 N, .bool s1, .slice a3 t1.length c3, .slice a4 b1.length c4, .bool s2, .slice a6 t2.length c6, .slice a7 b2.length c7, .string x, .slice a9 raw.size c9, .slice a10 n c10] 30)) w' → (∀ j, w'.cell? ⟨w.heap.size, j, none⟩ = (#[.int .i64 5, .int .i64 N, .bool s1, .slice a3 t1.length c3, .slice a4 b1.length c4, .bool s2, .slice a6 t2.length c6, .slice a7 b2.length c7, .string x, .slice a9 raw.size c9, .slice a10 n c10] : Array Value)[j]?) ∧ Below w.heap.size w w') := Lib.hid (fun w' hb => by
    have a0 := (hb.block w.heap.size (Nat.lt_succ_self _)).trans hq0
    exact ⟨fun j => by simp [World.cell?, a0], hb0.trans (hb.mono (Nat.le_succ _))⟩)
  have KV := Ru.valid_any x (w.alloc (.cells #[.int .i64 5, .int .i64 N, .bool s1, .slice a3 t1.length c3, .slice a4 b1.length c4, .bool s2, .slice a6 t2.length c6, .slice a7 b2.length c7, .string x, .slice a9 raw.size c9, .slice a10 n c10] 30)) (by omega)
  rw [hz0] at KV
  have HK1 := Lib.hid (fun w' (hb : Below w.heap.size w w') => Rn.noRat_any s1 t1 b1 _ _ w' (i3.below hb (Nat.le_refl _)) (i4.below hb (Nat.le_refl _)) ok1.l1 ok1.l2)
  have HK2 := Lib.hid (fun w' (hb : Below w.heap.size w w') => Rn.noRat_any s2 t2 b2 _ _ w' (i6.below hb (Nat.le_refl _)) (i7.below hb (Nat.le_refl _)) ok2.l1 ok2.l2)
  clear hb0 hq0 hz0 hR i3 i4 i6 i7 ok1 ok2 hx
  cases hV : Lib.validD x.data.toList
  all_goals
    rw [hV] at KV
    go_enter Tryz.func75, Tryz.ntmps75
    go_wp2_with fail
    refine KV.mono ?_
    rintro z w1 ⟨rfl, hb1⟩
    obtain ⟨d, hbw1⟩ := HF.out w1 hb1
    have d0 := d 0
    have d2 := d 2
    have d3 := d 3
    have d4 := d 4
    have d5 := d 5
    have d6 := d 6
    have d7 := d 7
    have HB1 := Lib.hid (And.intro hb1 hbw1)
    clear hb1 hbw1 d KV
  · have hans : R = false := by
      rw [HR.out]
      simp [Tr.Hd.shape, Tr.Hd.num, Tr.isText, Tr.own, hV]
    have HANS := Lib.hid hans
    clear hans
    go_wp2_with fail
    go_ret
    exact ⟨by rw [HANS.out]; rfl, HB1.out.2⟩
  · cases hS1 : Rt.noRat s1 t1 b1
    all_goals
      have KN := HK1.out w1 HB1.out.2
      rw [hS1] at KN
      go_wp2_with fail
      refine KN.mono ?_
      rintro z w2 ⟨rfl, hb2⟩
      have hb2' := HB1.out.1.trans (hb2.mono (by have := HB1.out.1.size; simp at this; omega))
      obtain ⟨d, hbw2⟩ := HF.out w2 hb2'
      clear d0 d2 d3 d4 d5 d6 d7
      have d0 := d 0
      have d2 := d 2
      have d5 := d 5
      have d6 := d 6
      have d7 := d 7
      have HB2 := Lib.hid (And.intro hb2' hbw2)
      clear hb2 hb2' hbw2 d
      clear KN
    · have hans : R = false := by
        rw [HR.out]
        simp [Tr.Hd.shape, Tr.Hd.num, Tr.isText, Tr.own, hV, hS1]
      have HANS := Lib.hid hans
      clear hans
      go_wp2_with fail
      go_ret
      exact ⟨by rw [HANS.out]; rfl, HB2.out.2⟩
    · cases hS2 : Rt.noRat s2 t2 b2
      all_goals
        have KN := HK2.out w2 HB2.out.2
        rw [hS2] at KN
        go_wp2_with fail
        refine KN.mono ?_
        rintro z w3 ⟨rfl, hb3⟩
        have hb3' := HB2.out.1.trans (hb3.mono (by have := HB2.out.1.size; simp at this; omega))
        obtain ⟨d, hbw3⟩ := HF.out w3 hb3'
        clear d0 d2 d5 d6 d7
        have d0 := d 0
        have d1 := d 1
        have d8 := d 8
        have d9 := d 9
        have d10 := d 10
        have HB3 := Lib.hid (And.intro hb3' hbw3)
        clear hb3 hb3' hbw3 d
        clear KN
      · have hans : R = false := by
          rw [HR.out]
          simp [Tr.Hd.shape, Tr.Hd.num, Tr.isText, Tr.own, hV, hS1, hS2]
        have HANS := Lib.hid hans
        clear hans
        go_wp2_with fail
        go_ret
        exact ⟨by rw [HANS.out]; rfl, HB3.out.2⟩
      · by_cases hxz : x.size = 0
        · have hxl : x.toList = [] := (Rd.empty x).2 hxz
          by_cases hr : raw.size = 0
          · have hr0 : ¬ 0 < raw.size := by omega
            have hrI : ¬ (raw.size : Int) > 0 := by omega
            by_cases hN : N = 0
            · subst hN
              by_cases hn : n = 0
              · have hnI : ((n : Int) == 0) = true := by subst hn; rfl
                have hans : R = true := by
                  rw [HR.out]
                  simp [Tr.Hd.shape, Tr.Hd.num, Tr.isText, Tr.own, hV, hS1, hS2, hxz, hr, hn]
                have HANS := Lib.hid hans
                clear hans
                go_wp2_with fail
                go_ret
                exact ⟨by rw [HANS.out]; rfl, HB3.out.2⟩
              · have hnI : ((n : Int) == 0) = false := beq_eq_false_iff_ne.2 (by omega)
                have hans : R = false := by
                  rw [HR.out]
                  simp [Tr.Hd.shape, Tr.Hd.num, Tr.isText, Tr.own, hV, hS1, hS2, hxz, hr, hn]
                have HANS := Lib.hid hans
                clear hans
                go_wp2_with fail
                go_ret
                exact ⟨by rw [HANS.out]; rfl, HB3.out.2⟩
            · have hNI : (N != 0) = true := by simpa using hN
              have hans : R = false := by
                rw [HR.out]
                simp [Tr.Hd.shape, Tr.Hd.num, Tr.isText, Tr.own, hV, hS1, hS2, hxz, hr, hN]
              have HANS := Lib.hid hans
              clear hans
              go_wp2_with fail
              go_ret
              exact ⟨by rw [HANS.out]; rfl, HB3.out.2⟩
          · have hr0 : 0 < raw.size := by omega
            have hrI : (raw.size : Int) > 0 := by omega
            have hans : R = false := by
              rw [HR.out]
              simp [Tr.Hd.shape, Tr.Hd.num, Tr.isText, Tr.own, hV, hS1, hS2, hxz, hr]
            have HANS := Lib.hid hans
            clear hans
            go_wp2_with fail
            go_ret
            exact ⟨by rw [HANS.out]; rfl, HB3.out.2⟩
        · have hxl : ¬ x.toList = [] := fun e => hxz ((Rd.empty x).1 e)
          have hxe : x.toList.isEmpty = false := by cases hh : x.toList with | nil => exact absurd hh hxl | cons a r => rfl
          by_cases hr : raw.size = 0
          · have hr0 : ¬ 0 < raw.size := by omega
            have hrI : ¬ (raw.size : Int) > 0 := by omega
            by_cases hN : N = 0
            · subst hN
              by_cases hn : n = 0
              · have hnI : ((n : Int) == 0) = true := by subst hn; rfl
                have hans : R = true := by
                  rw [HR.out]
                  simp [Tr.Hd.shape, Tr.Hd.num, Tr.isText, Tr.own, hV, hS1, hS2, hxz, hr, hn]
                have HANS := Lib.hid hans
                clear hans
                go_wp2_with fail
                go_ret
                exact ⟨by rw [HANS.out]; rfl, HB3.out.2⟩
              · have hnI : ((n : Int) == 0) = false := beq_eq_false_iff_ne.2 (by omega)
                have hans : R = false := by
                  rw [HR.out]
                  simp [Tr.Hd.shape, Tr.Hd.num, Tr.isText, Tr.own, hV, hS1, hS2, hxz, hr, hn]
                have HANS := Lib.hid hans
                clear hans
                go_wp2_with fail
                go_ret
                exact ⟨by rw [HANS.out]; rfl, HB3.out.2⟩
            · have hNI : (N != 0) = true := by simpa using hN
              have hans : R = false := by
                rw [HR.out]
                simp [Tr.Hd.shape, Tr.Hd.num, Tr.isText, Tr.own, hV, hS1, hS2, hxz, hr, hN]
              have HANS := Lib.hid hans
              clear hans
              go_wp2_with fail
              go_ret
              exact ⟨by rw [HANS.out]; rfl, HB3.out.2⟩
          · have hr0 : 0 < raw.size := by omega
            have hrI : (raw.size : Int) > 0 := by omega
            have hans : R = false := by
              rw [HR.out]
              simp [Tr.Hd.shape, Tr.Hd.num, Tr.isText, Tr.own, hV, hS1, hS2, hxz, hr]
            have HANS := Lib.hid hans
            clear hans
            go_wp2_with fail
            go_ret
            exact ⟨by rw [HANS.out]; rfl, HB3.out.2⟩
end Go.Proofs.YtikmebkfdpbidaaGreatDoor
namespace Go.Proofs.YtikmebkfdpbidaaGreatDoor
open Go.RowKit
set_option linter.unusedVariables false
set_option linter.unusedSimpArgs false

set_option maxHeartbeats 1000000 in
set_option maxRecDepth 1000000 in
theorem Rd.shape6 (N : Int) (s1 s2 : Bool) (t1 b1 t2 b2 : List Nat) (x raw : ByteArray) (n : Nat) (a3 a4 a6 a7 a9 a10 : Option Addr) (c3 c4 c6 c7 c9 c10 : Nat) (w : World) (hx : x.size ≤ 1048576)
    (i3 : Nt.In w (.slice a3 t1.length c3) t1) (i4 : Nt.In w (.slice a4 b1.length c4) b1) (i6 : Nt.In w (.slice a6 t2.length c6) t2) (i7 : Nt.In w (.slice a7 b2.length c7) b2) (ok1 : Rt.GOk t1 b1) (ok2 : Rt.GOk t2 b2) :
    Calls Tryz.prog 75 #[.agg #[.int .i64 6, .int .i64 N, .bool s1, .slice a3 t1.length c3, .slice a4 b1.length c4, .bool s2, .slice a6 t2.length c6, .slice a7 b2.length c7, .string x, .slice a9 raw.size c9, .slice a10 n c10]] w fun e w' => e = .returned (.bool (Tr.Hd.shape ⟨6, N, s1, t1, b1, s2, t2, b2, x, raw⟩ n)) ∧ Below w.heap.size w w' := by
  obtain ⟨R, hR⟩ : ∃ z, z = Tr.Hd.shape ⟨6, N, s1, t1, b1, s2, t2, b2, x, raw⟩ n := ⟨_, rfl⟩
  rw [← hR]
  have HR := Lib.hid hR
  have hb0 : Below w.heap.size w (w.alloc (.cells #[.int .i64 6, .int .i64 N, .bool s1, .slice a3 t1.length c3, .slice a4 b1.length c4, .bool s2, .slice a6 t2.length c6, .slice a7 b2.length c7, .string x, .slice a9 raw.size c9, .slice a10 n c10] 30)) := (Below.refl _ _).alloc (Nat.le_refl _) _
  have hq0 : (w.alloc (.cells #[.int .i64 6, .int .i64 N, .bool s1, .slice a3 t1.length c3, .slice a4 b1.length c4, .bool s2, .slice a6 t2.length c6, .slice a7 b2.length c7, .string x, .slice a9 raw.size c9, .slice a10 n c10] 30)).heap[w.heap.size]? = some (.cells #[.int .i64 6, .int .i64 N, .bool s1, .slice a3 t1.length c3, .slice a4 b1.length c4, .bool s2, .slice a6 t2.length c6, .slice a7 b2.length c7, .string x, .slice a9 raw.size c9, .slice a10 n c10] 30 (0, 0)) := heap_alloc_new w _
  have hz0 : (w.alloc (.cells #[.int .i64 6, .int .i64 N, .bool s1, .slice a3 t1.length c3, .slice a4 b1.length c4, .bool s2, .slice a6 t2.length c6, .slice a7 b2.length c7, .string x, .slice a9 raw.size c9, .slice a10 n c10] 30)).heap.size = w.heap.size + 1 := by simp
  have HF : Hid (∀ w', Below (w.heap.size + 1) (w.alloc (.cells #[.int .i64 6, .int .i64 N, .bool s1, .slice a3 t1.length c3, .slice a4 b1.length c4, .bool s2, .slice a6 t2.length c6, .slice a7 b2.length c7, .string x, .slice a9 raw.size c9, .slice a10 n c10] 30)) w' → (∀ j, w'.cell? ⟨w.heap.size, j, none⟩ = (#[.int .i64 6, .int .i64 N, .bool s1, .slice a3 t1.length c3, .slice a4 b1.length c4, .bool s2, .slice a6 t2.length c6, .slice a7 b2.length c7, .string x, .slice a9 raw.size c9, .slice a10 n c10] : Array Value)[j]?) ∧ Below w.heap.size w w') := Lib.hid (fun w' hb => by
    have a0 := (hb.block w.heap.size (Nat.lt_succ_self _)).trans hq0
    exact ⟨fun j => by simp [World.cell?, a0], hb0.trans (hb.mono (Nat.le_succ _))⟩)
  have KV := Ru.valid_any x (w.alloc (.cells #[.int .i64 6, .int .i64 N, .bool s1, .slice a3 t1.length c3, .slice a4 b1.length c4, .bool s2, .slice a6 t2.length c6, .slice a7 b2.length c7, .string x, .slice a9 raw.size c9, .slice a10 n c10] 30)) (by omega)
  rw [hz0] at KV
  have HK1 := Lib.hid (fun w' (hb : Below w.heap.size w w') => Rn.noRat_any s1 t1 b1 _ _ w' (i3.below hb (Nat.le_refl _)) (i4.below hb (Nat.le_refl _)) ok1.l1 ok1.l2)
  have HK2 := Lib.hid (fun w' (hb : Below w.heap.size w w') => Rn.noRat_any s2 t2 b2 _ _ w' (i6.below hb (Nat.le_refl _)) (i7.below hb (Nat.le_refl _)) ok2.l1 ok2.l2)
  clear hb0 hq0 hz0 hR i3 i4 i6 i7 ok1 ok2 hx
  cases hV : Lib.validD x.data.toList
  all_goals
    rw [hV] at KV
    go_enter Tryz.func75, Tryz.ntmps75
    go_wp2_with fail
    refine KV.mono ?_
    rintro z w1 ⟨rfl, hb1⟩
    obtain ⟨d, hbw1⟩ := HF.out w1 hb1
    have d0 := d 0
    have d2 := d 2
    have d3 := d 3
    have d4 := d 4
    have d5 := d 5
    have d6 := d 6
    have d7 := d 7
    have HB1 := Lib.hid (And.intro hb1 hbw1)
    clear hb1 hbw1 d KV
  · have hans : R = false := by
      rw [HR.out]
      simp [Tr.Hd.shape, Tr.Hd.num, Tr.isText, Tr.own, hV]
    have HANS := Lib.hid hans
    clear hans
    go_wp2_with fail
    go_ret
    exact ⟨by rw [HANS.out]; rfl, HB1.out.2⟩
  · cases hS1 : Rt.noRat s1 t1 b1
    all_goals
      have KN := HK1.out w1 HB1.out.2
      rw [hS1] at KN
      go_wp2_with fail
      refine KN.mono ?_
      rintro z w2 ⟨rfl, hb2⟩
      have hb2' := HB1.out.1.trans (hb2.mono (by have := HB1.out.1.size; simp at this; omega))
      obtain ⟨d, hbw2⟩ := HF.out w2 hb2'
      clear d0 d2 d3 d4 d5 d6 d7
      have d0 := d 0
      have d2 := d 2
      have d5 := d 5
      have d6 := d 6
      have d7 := d 7
      have HB2 := Lib.hid (And.intro hb2' hbw2)
      clear hb2 hb2' hbw2 d
      clear KN
    · have hans : R = false := by
        rw [HR.out]
        simp [Tr.Hd.shape, Tr.Hd.num, Tr.isText, Tr.own, hV, hS1]
      have HANS := Lib.hid hans
      clear hans
      go_wp2_with fail
      go_ret
      exact ⟨by rw [HANS.out]; rfl, HB2.out.2⟩
    · cases hS2 : Rt.noRat s2 t2 b2
      all_goals
        have KN := HK2.out w2 HB2.out.2
        rw [hS2] at KN
        go_wp2_with fail
        refine KN.mono ?_
        rintro z w3 ⟨rfl, hb3⟩
        have hb3' := HB2.out.1.trans (hb3.mono (by have := HB2.out.1.size; simp at this; omega))
        obtain ⟨d, hbw3⟩ := HF.out w3 hb3'
        clear d0 d2 d5 d6 d7
        have d0 := d 0
        have d1 := d 1
        have d8 := d 8
        have d9 := d 9
        have d10 := d 10
        have HB3 := Lib.hid (And.intro hb3' hbw3)
        clear hb3 hb3' hbw3 d
        clear KN
      · have hans : R = false := by
          rw [HR.out]
          simp [Tr.Hd.shape, Tr.Hd.num, Tr.isText, Tr.own, hV, hS1, hS2]
        have HANS := Lib.hid hans
        clear hans
        go_wp2_with fail
        go_ret
        exact ⟨by rw [HANS.out]; rfl, HB3.out.2⟩
      · by_cases hxz : x.size = 0
        · have hxl : x.toList = [] := (Rd.empty x).2 hxz
          by_cases hr : raw.size = 0
          · have hr0 : ¬ 0 < raw.size := by omega
            have hrI : ¬ (raw.size : Int) > 0 := by omega
            by_cases hN : N = 0
            · subst hN
              by_cases hn : n = 0
              · have hnI : ((n : Int) == 0) = true := by subst hn; rfl
                have hans : R = true := by
                  rw [HR.out]
                  simp [Tr.Hd.shape, Tr.Hd.num, Tr.isText, Tr.own, hV, hS1, hS2, hxz, hr, hn]
                have HANS := Lib.hid hans
                clear hans
                go_wp2_with fail
                go_ret
                exact ⟨by rw [HANS.out]; rfl, HB3.out.2⟩
              · have hnI : ((n : Int) == 0) = false := beq_eq_false_iff_ne.2 (by omega)
                have hans : R = false := by
                  rw [HR.out]
                  simp [Tr.Hd.shape, Tr.Hd.num, Tr.isText, Tr.own, hV, hS1, hS2, hxz, hr, hn]
                have HANS := Lib.hid hans
                clear hans
                go_wp2_with fail
                go_ret
                exact ⟨by rw [HANS.out]; rfl, HB3.out.2⟩
            · have hNI : (N != 0) = true := by simpa using hN
              have hans : R = false := by
                rw [HR.out]
                simp [Tr.Hd.shape, Tr.Hd.num, Tr.isText, Tr.own, hV, hS1, hS2, hxz, hr, hN]
              have HANS := Lib.hid hans
              clear hans
              go_wp2_with fail
              go_ret
              exact ⟨by rw [HANS.out]; rfl, HB3.out.2⟩
          · have hr0 : 0 < raw.size := by omega
            have hrI : (raw.size : Int) > 0 := by omega
            have hans : R = false := by
              rw [HR.out]
              simp [Tr.Hd.shape, Tr.Hd.num, Tr.isText, Tr.own, hV, hS1, hS2, hxz, hr]
            have HANS := Lib.hid hans
            clear hans
            go_wp2_with fail
            go_ret
            exact ⟨by rw [HANS.out]; rfl, HB3.out.2⟩
        · have hxl : ¬ x.toList = [] := fun e => hxz ((Rd.empty x).1 e)
          have hxe : x.toList.isEmpty = false := by cases hh : x.toList with | nil => exact absurd hh hxl | cons a r => rfl
          by_cases hr : raw.size = 0
          · have hr0 : ¬ 0 < raw.size := by omega
            have hrI : ¬ (raw.size : Int) > 0 := by omega
            by_cases hN : N = 0
            · subst hN
              by_cases hn : n = 0
              · have hnI : ((n : Int) == 0) = true := by subst hn; rfl
                have hans : R = true := by
                  rw [HR.out]
                  simp [Tr.Hd.shape, Tr.Hd.num, Tr.isText, Tr.own, hV, hS1, hS2, hxz, hr, hn]
                have HANS := Lib.hid hans
                clear hans
                go_wp2_with fail
                go_ret
                exact ⟨by rw [HANS.out]; rfl, HB3.out.2⟩
              · have hnI : ((n : Int) == 0) = false := beq_eq_false_iff_ne.2 (by omega)
                have hans : R = false := by
                  rw [HR.out]
                  simp [Tr.Hd.shape, Tr.Hd.num, Tr.isText, Tr.own, hV, hS1, hS2, hxz, hr, hn]
                have HANS := Lib.hid hans
                clear hans
                go_wp2_with fail
                go_ret
                exact ⟨by rw [HANS.out]; rfl, HB3.out.2⟩
            · have hNI : (N != 0) = true := by simpa using hN
              have hans : R = false := by
                rw [HR.out]
                simp [Tr.Hd.shape, Tr.Hd.num, Tr.isText, Tr.own, hV, hS1, hS2, hxz, hr, hN]
              have HANS := Lib.hid hans
              clear hans
              go_wp2_with fail
              go_ret
              exact ⟨by rw [HANS.out]; rfl, HB3.out.2⟩
          · have hr0 : 0 < raw.size := by omega
            have hrI : (raw.size : Int) > 0 := by omega
            have hans : R = false := by
              rw [HR.out]
              simp [Tr.Hd.shape, Tr.Hd.num, Tr.isText, Tr.own, hV, hS1, hS2, hxz, hr]
            have HANS := Lib.hid hans
            clear hans
            go_wp2_with fail
            go_ret
            exact ⟨by rw [HANS.out]; rfl, HB3.out.2⟩
end Go.Proofs.YtikmebkfdpbidaaGreatDoor
namespace Go.Proofs.YtikmebkfdpbidaaGreatDoor
open Go.RowKit
set_option linter.unusedVariables false
set_option linter.unusedSimpArgs false

set_option maxHeartbeats 1000000 in
set_option maxRecDepth 1000000 in
theorem Rd.shape7 (N : Int) (s1 s2 : Bool) (t1 b1 t2 b2 : List Nat) (x raw : ByteArray) (n : Nat) (a3 a4 a6 a7 a9 a10 : Option Addr) (c3 c4 c6 c7 c9 c10 : Nat) (w : World) (hx : x.size ≤ 1048576)
    (i3 : Nt.In w (.slice a3 t1.length c3) t1) (i4 : Nt.In w (.slice a4 b1.length c4) b1) (i6 : Nt.In w (.slice a6 t2.length c6) t2) (i7 : Nt.In w (.slice a7 b2.length c7) b2) (ok1 : Rt.GOk t1 b1) (ok2 : Rt.GOk t2 b2) :
    Calls Tryz.prog 75 #[.agg #[.int .i64 7, .int .i64 N, .bool s1, .slice a3 t1.length c3, .slice a4 b1.length c4, .bool s2, .slice a6 t2.length c6, .slice a7 b2.length c7, .string x, .slice a9 raw.size c9, .slice a10 n c10]] w fun e w' => e = .returned (.bool (Tr.Hd.shape ⟨7, N, s1, t1, b1, s2, t2, b2, x, raw⟩ n)) ∧ Below w.heap.size w w' := by
  obtain ⟨R, hR⟩ : ∃ z, z = Tr.Hd.shape ⟨7, N, s1, t1, b1, s2, t2, b2, x, raw⟩ n := ⟨_, rfl⟩
  rw [← hR]
  have HR := Lib.hid hR
  have hb0 : Below w.heap.size w (w.alloc (.cells #[.int .i64 7, .int .i64 N, .bool s1, .slice a3 t1.length c3, .slice a4 b1.length c4, .bool s2, .slice a6 t2.length c6, .slice a7 b2.length c7, .string x, .slice a9 raw.size c9, .slice a10 n c10] 30)) := (Below.refl _ _).alloc (Nat.le_refl _) _
  have hq0 : (w.alloc (.cells #[.int .i64 7, .int .i64 N, .bool s1, .slice a3 t1.length c3, .slice a4 b1.length c4, .bool s2, .slice a6 t2.length c6, .slice a7 b2.length c7, .string x, .slice a9 raw.size c9, .slice a10 n c10] 30)).heap[w.heap.size]? = some (.cells #[.int .i64 7, .int .i64 N, .bool s1, .slice a3 t1.length c3, .slice a4 b1.length c4, .bool s2, .slice a6 t2.length c6, .slice a7 b2.length c7, .string x, .slice a9 raw.size c9, .slice a10 n c10] 30 (0, 0)) := heap_alloc_new w _
  have hz0 : (w.alloc (.cells #[.int .i64 7, .int .i64 N, .bool s1, .slice a3 t1.length c3, .slice a4 b1.length c4, .bool s2, .slice a6 t2.length c6, .slice a7 b2.length c7, .string x, .slice a9 raw.size c9, .slice a10 n c10] 30)).heap.size = w.heap.size + 1 := by simp
  have HF : Hid (∀ w', Below (w.heap.size + 1) (w.alloc (.cells #[.int .i64 7, .int .i64 N, .bool s1, .slice a3 t1.length c3, .slice a4 b1.length c4, .bool s2, .slice a6 t2.length c6, .slice a7 b2.length c7, .string x, .slice a9 raw.size c9, .slice a10 n c10] 30)) w' → (∀ j, w'.cell? ⟨w.heap.size, j, none⟩ = (#[.int .i64 7, .int .i64 N, .bool s1, .slice a3 t1.length c3, .slice a4 b1.length c4, .bool s2, .slice a6 t2.length c6, .slice a7 b2.length c7, .string x, .slice a9 raw.size c9, .slice a10 n c10] : Array Value)[j]?) ∧ Below w.heap.size w w') := Lib.hid (fun w' hb => by
    have a0 := (hb.block w.heap.size (Nat.lt_succ_self _)).trans hq0
    exact ⟨fun j => by simp [World.cell?, a0], hb0.trans (hb.mono (Nat.le_succ _))⟩)
  have KV := Ru.valid_any x (w.alloc (.cells #[.int .i64 7, .int .i64 N, .bool s1, .slice a3 t1.length c3, .slice a4 b1.length c4, .bool s2, .slice a6 t2.length c6, .slice a7 b2.length c7, .string x, .slice a9 raw.size c9, .slice a10 n c10] 30)) (by omega)
  rw [hz0] at KV
  have HK1 := Lib.hid (fun w' (hb : Below w.heap.size w w') => Rn.noRat_any s1 t1 b1 _ _ w' (i3.below hb (Nat.le_refl _)) (i4.below hb (Nat.le_refl _)) ok1.l1 ok1.l2)
  have HK2 := Lib.hid (fun w' (hb : Below w.heap.size w w') => Rn.noRat_any s2 t2 b2 _ _ w' (i6.below hb (Nat.le_refl _)) (i7.below hb (Nat.le_refl _)) ok2.l1 ok2.l2)
  clear hb0 hq0 hz0 hR i3 i4 i6 i7 ok1 ok2 hx
  cases hV : Lib.validD x.data.toList
  all_goals
    rw [hV] at KV
    go_enter Tryz.func75, Tryz.ntmps75
    go_wp2_with fail
    refine KV.mono ?_
    rintro z w1 ⟨rfl, hb1⟩
    obtain ⟨d, hbw1⟩ := HF.out w1 hb1
    have d0 := d 0
    have d2 := d 2
    have d3 := d 3
    have d4 := d 4
    have d5 := d 5
    have d6 := d 6
    have d7 := d 7
    have HB1 := Lib.hid (And.intro hb1 hbw1)
    clear hb1 hbw1 d KV
  · have hans : R = false := by
      rw [HR.out]
      simp [Tr.Hd.shape, Tr.Hd.num, Tr.isText, Tr.own, hV]
    have HANS := Lib.hid hans
    clear hans
    go_wp2_with fail
    go_ret
    exact ⟨by rw [HANS.out]; rfl, HB1.out.2⟩
  · cases hS1 : Rt.noRat s1 t1 b1
    all_goals
      have KN := HK1.out w1 HB1.out.2
      rw [hS1] at KN
      go_wp2_with fail
      refine KN.mono ?_
      rintro z w2 ⟨rfl, hb2⟩
      have hb2' := HB1.out.1.trans (hb2.mono (by have := HB1.out.1.size; simp at this; omega))
      obtain ⟨d, hbw2⟩ := HF.out w2 hb2'
      clear d0 d2 d3 d4 d5 d6 d7
      have d0 := d 0
      have d2 := d 2
      have d5 := d 5
      have d6 := d 6
      have d7 := d 7
      have HB2 := Lib.hid (And.intro hb2' hbw2)
      clear hb2 hb2' hbw2 d
      clear KN
    · have hans : R = false := by
        rw [HR.out]
        simp [Tr.Hd.shape, Tr.Hd.num, Tr.isText, Tr.own, hV, hS1]
      have HANS := Lib.hid hans
      clear hans
      go_wp2_with fail
      go_ret
      exact ⟨by rw [HANS.out]; rfl, HB2.out.2⟩
    · cases hS2 : Rt.noRat s2 t2 b2
      all_goals
        have KN := HK2.out w2 HB2.out.2
        rw [hS2] at KN
        go_wp2_with fail
        refine KN.mono ?_
        rintro z w3 ⟨rfl, hb3⟩
        have hb3' := HB2.out.1.trans (hb3.mono (by have := HB2.out.1.size; simp at this; omega))
        obtain ⟨d, hbw3⟩ := HF.out w3 hb3'
        clear d0 d2 d5 d6 d7
        have d0 := d 0
        have d1 := d 1
        have d8 := d 8
        have d9 := d 9
        have d10 := d 10
        have HB3 := Lib.hid (And.intro hb3' hbw3)
        clear hb3 hb3' hbw3 d
        clear KN
      · have hans : R = false := by
          rw [HR.out]
          simp [Tr.Hd.shape, Tr.Hd.num, Tr.isText, Tr.own, hV, hS1, hS2]
        have HANS := Lib.hid hans
        clear hans
        go_wp2_with fail
        go_ret
        exact ⟨by rw [HANS.out]; rfl, HB3.out.2⟩
      · by_cases hxz : x.size = 0
        · have hxl : x.toList = [] := (Rd.empty x).2 hxz
          by_cases hr : raw.size = 0
          · have hr0 : ¬ 0 < raw.size := by omega
            have hrI : ¬ (raw.size : Int) > 0 := by omega
            by_cases hN : N = 0
            · subst hN
              by_cases hn : n = 0
              · have hnI : ((n : Int) == 0) = true := by subst hn; rfl
                have hans : R = true := by
                  rw [HR.out]
                  simp [Tr.Hd.shape, Tr.Hd.num, Tr.isText, Tr.own, hV, hS1, hS2, hxz, hr, hn]
                have HANS := Lib.hid hans
                clear hans
                go_wp2_with fail
                go_ret
                exact ⟨by rw [HANS.out]; rfl, HB3.out.2⟩
              · have hnI : ((n : Int) == 0) = false := beq_eq_false_iff_ne.2 (by omega)
                have hans : R = false := by
                  rw [HR.out]
                  simp [Tr.Hd.shape, Tr.Hd.num, Tr.isText, Tr.own, hV, hS1, hS2, hxz, hr, hn]
                have HANS := Lib.hid hans
                clear hans
                go_wp2_with fail
                go_ret
                exact ⟨by rw [HANS.out]; rfl, HB3.out.2⟩
            · have hNI : (N != 0) = true := by simpa using hN
              have hans : R = false := by
                rw [HR.out]
                simp [Tr.Hd.shape, Tr.Hd.num, Tr.isText, Tr.own, hV, hS1, hS2, hxz, hr, hN]
              have HANS := Lib.hid hans
              clear hans
              go_wp2_with fail
              go_ret
              exact ⟨by rw [HANS.out]; rfl, HB3.out.2⟩
          · have hr0 : 0 < raw.size := by omega
            have hrI : (raw.size : Int) > 0 := by omega
            by_cases hN : N = 0
            · subst hN
              by_cases hn : n = 0
              · have hnI : ((n : Int) == 0) = true := by subst hn; rfl
                have hans : R = true := by
                  rw [HR.out]
                  simp [Tr.Hd.shape, Tr.Hd.num, Tr.isText, Tr.own, hV, hS1, hS2, hxz, hr, hn]
                have HANS := Lib.hid hans
                clear hans
                go_wp2_with fail
                go_ret
                exact ⟨by rw [HANS.out]; rfl, HB3.out.2⟩
              · have hnI : ((n : Int) == 0) = false := beq_eq_false_iff_ne.2 (by omega)
                have hans : R = false := by
                  rw [HR.out]
                  simp [Tr.Hd.shape, Tr.Hd.num, Tr.isText, Tr.own, hV, hS1, hS2, hxz, hr, hn]
                have HANS := Lib.hid hans
                clear hans
                go_wp2_with fail
                go_ret
                exact ⟨by rw [HANS.out]; rfl, HB3.out.2⟩
            · have hNI : (N != 0) = true := by simpa using hN
              have hans : R = false := by
                rw [HR.out]
                simp [Tr.Hd.shape, Tr.Hd.num, Tr.isText, Tr.own, hV, hS1, hS2, hxz, hr, hN]
              have HANS := Lib.hid hans
              clear hans
              go_wp2_with fail
              go_ret
              exact ⟨by rw [HANS.out]; rfl, HB3.out.2⟩
        · have hxl : ¬ x.toList = [] := fun e => hxz ((Rd.empty x).1 e)
          have hxe : x.toList.isEmpty = false := by cases hh : x.toList with | nil => exact absurd hh hxl | cons a r => rfl
          have hans : R = false := by
            rw [HR.out]
            simp [Tr.Hd.shape, Tr.Hd.num, Tr.isText, Tr.own, hV, hS1, hS2, hxz]
          have HANS := Lib.hid hans
          clear hans
          go_wp2_with fail
          go_ret
          exact ⟨by rw [HANS.out]; rfl, HB3.out.2⟩
end Go.Proofs.YtikmebkfdpbidaaGreatDoor
namespace Go.Proofs.YtikmebkfdpbidaaGreatDoor
open Go.RowKit
set_option linter.unusedVariables false
set_option linter.unusedSimpArgs false

set_option maxHeartbeats 1000000 in
set_option maxRecDepth 1000000 in
theorem Rd.shape8 (N : Int) (s1 s2 : Bool) (t1 b1 t2 b2 : List Nat) (x raw : ByteArray) (n : Nat) (a3 a4 a6 a7 a9 a10 : Option Addr) (c3 c4 c6 c7 c9 c10 : Nat) (w : World) (hx : x.size ≤ 1048576)
    (i3 : Nt.In w (.slice a3 t1.length c3) t1) (i4 : Nt.In w (.slice a4 b1.length c4) b1) (i6 : Nt.In w (.slice a6 t2.length c6) t2) (i7 : Nt.In w (.slice a7 b2.length c7) b2) (ok1 : Rt.GOk t1 b1) (ok2 : Rt.GOk t2 b2) :
    Calls Tryz.prog 75 #[.agg #[.int .i64 8, .int .i64 N, .bool s1, .slice a3 t1.length c3, .slice a4 b1.length c4, .bool s2, .slice a6 t2.length c6, .slice a7 b2.length c7, .string x, .slice a9 raw.size c9, .slice a10 n c10]] w fun e w' => e = .returned (.bool (Tr.Hd.shape ⟨8, N, s1, t1, b1, s2, t2, b2, x, raw⟩ n)) ∧ Below w.heap.size w w' := by
  obtain ⟨R, hR⟩ : ∃ z, z = Tr.Hd.shape ⟨8, N, s1, t1, b1, s2, t2, b2, x, raw⟩ n := ⟨_, rfl⟩
  rw [← hR]
  have HR := Lib.hid hR
  have hb0 : Below w.heap.size w (w.alloc (.cells #[.int .i64 8, .int .i64 N, .bool s1, .slice a3 t1.length c3, .slice a4 b1.length c4, .bool s2, .slice a6 t2.length c6, .slice a7 b2.length c7, .string x, .slice a9 raw.size c9, .slice a10 n c10] 30)) := (Below.refl _ _).alloc (Nat.le_refl _) _
  have hq0 : (w.alloc (.cells #[.int .i64 8, .int .i64 N, .bool s1, .slice a3 t1.length c3, .slice a4 b1.length c4, .bool s2, .slice a6 t2.length c6, .slice a7 b2.length c7, .string x, .slice a9 raw.size c9, .slice a10 n c10] 30)).heap[w.heap.size]? = some (.cells #[.int .i64 8, .int .i64 N, .bool s1, .slice a3 t1.length c3, .slice a4 b1.length c4, .bool s2, .slice a6 t2.length c6, .slice a7 b2.length c7, .string x, .slice a9 raw.size c9, .slice a10 n c10] 30 (0, 0)) := heap_alloc_new w _
  have hz0 : (w.alloc (.cells #[.int .i64 8, .int .i64 N, .bool s1, .slice a3 t1.length c3, .slice a4 b1.length c4, .bool s2, .slice a6 t2.length c6, .slice a7 b2.length c7, .string x, .slice a9 raw.size c9, .slice a10 n c10] 30)).heap.size = w.heap.size + 1 := by simp
  have HF : Hid (∀ w', Below (w.heap.size + 1) (w.alloc (.cells #[.int .i64 8, .int .i64 N, .bool s1, .slice a3 t1.length c3, .slice a4 b1.length c4, .bool s2, .slice a6 t2.length c6, .slice a7 b2.length c7, .string x, .slice a9 raw.size c9, .slice a10 n c10] 30)) w' → (∀ j, w'.cell? ⟨w.heap.size, j, none⟩ = (#[.int .i64 8, .int .i64 N, .bool s1, .slice a3 t1.length c3, .slice a4 b1.length c4, .bool s2, .slice a6 t2.length c6, .slice a7 b2.length c7, .string x, .slice a9 raw.size c9, .slice a10 n c10] : Array Value)[j]?) ∧ Below w.heap.size w w') := Lib.hid (fun w' hb => by
    have a0 := (hb.block w.heap.size (Nat.lt_succ_self _)).trans hq0
    exact ⟨fun j => by simp [World.cell?, a0], hb0.trans (hb.mono (Nat.le_succ _))⟩)
  have KV := Ru.valid_any x (w.alloc (.cells #[.int .i64 8, .int .i64 N, .bool s1, .slice a3 t1.length c3, .slice a4 b1.length c4, .bool s2, .slice a6 t2.length c6, .slice a7 b2.length c7, .string x, .slice a9 raw.size c9, .slice a10 n c10] 30)) (by omega)
  rw [hz0] at KV
  have HK1 := Lib.hid (fun w' (hb : Below w.heap.size w w') => Rn.noRat_any s1 t1 b1 _ _ w' (i3.below hb (Nat.le_refl _)) (i4.below hb (Nat.le_refl _)) ok1.l1 ok1.l2)
  have HK2 := Lib.hid (fun w' (hb : Below w.heap.size w w') => Rn.noRat_any s2 t2 b2 _ _ w' (i6.below hb (Nat.le_refl _)) (i7.below hb (Nat.le_refl _)) ok2.l1 ok2.l2)
  clear hb0 hq0 hz0 hR i3 i4 i6 i7 ok1 ok2 hx
  cases hV : Lib.validD x.data.toList
  all_goals
    rw [hV] at KV
    go_enter Tryz.func75, Tryz.ntmps75
    go_wp2_with fail
    refine KV.mono ?_
    rintro z w1 ⟨rfl, hb1⟩
    obtain ⟨d, hbw1⟩ := HF.out w1 hb1
    have d0 := d 0
    have d2 := d 2
    have d3 := d 3
    have d4 := d 4
    have d5 := d 5
    have d6 := d 6
    have d7 := d 7
    have HB1 := Lib.hid (And.intro hb1 hbw1)
    clear hb1 hbw1 d KV
  · have hans : R = false := by
      rw [HR.out]
      simp [Tr.Hd.shape, Tr.Hd.num, Tr.isText, Tr.own, hV]
    have HANS := Lib.hid hans
    clear hans
    go_wp2_with fail
    go_ret
    exact ⟨by rw [HANS.out]; rfl, HB1.out.2⟩
  · cases hS1 : Rt.noRat s1 t1 b1
    all_goals
      have KN := HK1.out w1 HB1.out.2
      rw [hS1] at KN
      go_wp2_with fail
      refine KN.mono ?_
      rintro z w2 ⟨rfl, hb2⟩
      have hb2' := HB1.out.1.trans (hb2.mono (by have := HB1.out.1.size; simp at this; omega))
      obtain ⟨d, hbw2⟩ := HF.out w2 hb2'
      clear d0 d2 d3 d4 d5 d6 d7
      have d0 := d 0
      have d2 := d 2
      have d5 := d 5
      have d6 := d 6
      have d7 := d 7
      have HB2 := Lib.hid (And.intro hb2' hbw2)
      clear hb2 hb2' hbw2 d
      clear KN
    · have hans : R = false := by
        rw [HR.out]
        simp [Tr.Hd.shape, Tr.Hd.num, Tr.isText, Tr.own, hV, hS1]
      have HANS := Lib.hid hans
      clear hans
      go_wp2_with fail
      go_ret
      exact ⟨by rw [HANS.out]; rfl, HB2.out.2⟩
    · cases hS2 : Rt.noRat s2 t2 b2
      all_goals
        have KN := HK2.out w2 HB2.out.2
        rw [hS2] at KN
        go_wp2_with fail
        refine KN.mono ?_
        rintro z w3 ⟨rfl, hb3⟩
        have hb3' := HB2.out.1.trans (hb3.mono (by have := HB2.out.1.size; simp at this; omega))
        obtain ⟨d, hbw3⟩ := HF.out w3 hb3'
        clear d0 d2 d5 d6 d7
        have d0 := d 0
        have d1 := d 1
        have d8 := d 8
        have d9 := d 9
        have d10 := d 10
        have HB3 := Lib.hid (And.intro hb3' hbw3)
        clear hb3 hb3' hbw3 d
        clear KN
      · have hans : R = false := by
          rw [HR.out]
          simp [Tr.Hd.shape, Tr.Hd.num, Tr.isText, Tr.own, hV, hS1, hS2]
        have HANS := Lib.hid hans
        clear hans
        go_wp2_with fail
        go_ret
        exact ⟨by rw [HANS.out]; rfl, HB3.out.2⟩
      · by_cases hxz : x.size = 0
        · have hxl : x.toList = [] := (Rd.empty x).2 hxz
          by_cases hr : raw.size = 0
          · have hr0 : ¬ 0 < raw.size := by omega
            have hrI : ¬ (raw.size : Int) > 0 := by omega
            by_cases hN : N = 0
            · subst hN
              by_cases hn : n = 2
              · have hnI : ((n : Int) == 2) = true := by subst hn; rfl
                have hans : R = true := by
                  rw [HR.out]
                  simp [Tr.Hd.shape, Tr.Hd.num, Tr.isText, Tr.own, hV, hS1, hS2, hxz, hr, hn]
                have HANS := Lib.hid hans
                clear hans
                go_wp2_with fail
                go_ret
                exact ⟨by rw [HANS.out]; rfl, HB3.out.2⟩
              · have hnI : ((n : Int) == 2) = false := beq_eq_false_iff_ne.2 (by omega)
                have hans : R = false := by
                  rw [HR.out]
                  simp [Tr.Hd.shape, Tr.Hd.num, Tr.isText, Tr.own, hV, hS1, hS2, hxz, hr, hn]
                have HANS := Lib.hid hans
                clear hans
                go_wp2_with fail
                go_ret
                exact ⟨by rw [HANS.out]; rfl, HB3.out.2⟩
            · have hNI : (N != 0) = true := by simpa using hN
              have hans : R = false := by
                rw [HR.out]
                simp [Tr.Hd.shape, Tr.Hd.num, Tr.isText, Tr.own, hV, hS1, hS2, hxz, hr, hN]
              have HANS := Lib.hid hans
              clear hans
              go_wp2_with fail
              go_ret
              exact ⟨by rw [HANS.out]; rfl, HB3.out.2⟩
          · have hr0 : 0 < raw.size := by omega
            have hrI : (raw.size : Int) > 0 := by omega
            have hans : R = false := by
              rw [HR.out]
              simp [Tr.Hd.shape, Tr.Hd.num, Tr.isText, Tr.own, hV, hS1, hS2, hxz, hr]
            have HANS := Lib.hid hans
            clear hans
            go_wp2_with fail
            go_ret
            exact ⟨by rw [HANS.out]; rfl, HB3.out.2⟩
        · have hxl : ¬ x.toList = [] := fun e => hxz ((Rd.empty x).1 e)
          have hxe : x.toList.isEmpty = false := by cases hh : x.toList with | nil => exact absurd hh hxl | cons a r => rfl
          have hans : R = false := by
            rw [HR.out]
            simp [Tr.Hd.shape, Tr.Hd.num, Tr.isText, Tr.own, hV, hS1, hS2, hxz]
          have HANS := Lib.hid hans
          clear hans
          go_wp2_with fail
          go_ret
          exact ⟨by rw [HANS.out]; rfl, HB3.out.2⟩
end Go.Proofs.YtikmebkfdpbidaaGreatDoor
namespace Go.Proofs.YtikmebkfdpbidaaGreatDoor
open Go.RowKit
set_option linter.unusedVariables false
set_option linter.unusedSimpArgs false

set_option maxHeartbeats 1000000 in
set_option maxRecDepth 1000000 in
theorem Rd.shape9 (N : Int) (s1 s2 : Bool) (t1 b1 t2 b2 : List Nat) (x raw : ByteArray) (n : Nat) (a3 a4 a6 a7 a9 a10 : Option Addr) (c3 c4 c6 c7 c9 c10 : Nat) (w : World) (hx : x.size ≤ 1048576)
    (i3 : Nt.In w (.slice a3 t1.length c3) t1) (i4 : Nt.In w (.slice a4 b1.length c4) b1) (i6 : Nt.In w (.slice a6 t2.length c6) t2) (i7 : Nt.In w (.slice a7 b2.length c7) b2) (ok1 : Rt.GOk t1 b1) (ok2 : Rt.GOk t2 b2) :
    Calls Tryz.prog 75 #[.agg #[.int .i64 9, .int .i64 N, .bool s1, .slice a3 t1.length c3, .slice a4 b1.length c4, .bool s2, .slice a6 t2.length c6, .slice a7 b2.length c7, .string x, .slice a9 raw.size c9, .slice a10 n c10]] w fun e w' => e = .returned (.bool (Tr.Hd.shape ⟨9, N, s1, t1, b1, s2, t2, b2, x, raw⟩ n)) ∧ Below w.heap.size w w' := by
  obtain ⟨R, hR⟩ : ∃ z, z = Tr.Hd.shape ⟨9, N, s1, t1, b1, s2, t2, b2, x, raw⟩ n := ⟨_, rfl⟩
  rw [← hR]
  have HR := Lib.hid hR
  have hb0 : Below w.heap.size w (w.alloc (.cells #[.int .i64 9, .int .i64 N, .bool s1, .slice a3 t1.length c3, .slice a4 b1.length c4, .bool s2, .slice a6 t2.length c6, .slice a7 b2.length c7, .string x, .slice a9 raw.size c9, .slice a10 n c10] 30)) := (Below.refl _ _).alloc (Nat.le_refl _) _
  have hq0 : (w.alloc (.cells #[.int .i64 9, .int .i64 N, .bool s1, .slice a3 t1.length c3, .slice a4 b1.length c4, .bool s2, .slice a6 t2.length c6, .slice a7 b2.length c7, .string x, .slice a9 raw.size c9, .slice a10 n c10] 30)).heap[w.heap.size]? = some (.cells #[.int .i64 9, .int .i64 N, .bool s1, .slice a3 t1.length c3, .slice a4 b1.length c4, .bool s2, .slice a6 t2.length c6, .slice a7 b2.length c7, .string x, .slice a9 raw.size c9, .slice a10 n c10] 30 (0, 0)) := heap_alloc_new w _
  have hz0 : (w.alloc (.cells #[.int .i64 9, .int .i64 N, .bool s1, .slice a3 t1.length c3, .slice a4 b1.length c4, .bool s2, .slice a6 t2.length c6, .slice a7 b2.length c7, .string x, .slice a9 raw.size c9, .slice a10 n c10] 30)).heap.size = w.heap.size + 1 := by simp
  have HF : Hid (∀ w', Below (w.heap.size + 1) (w.alloc (.cells #[.int .i64 9, .int .i64 N, .bool s1, .slice a3 t1.length c3, .slice a4 b1.length c4, .bool s2, .slice a6 t2.length c6, .slice a7 b2.length c7, .string x, .slice a9 raw.size c9, .slice a10 n c10] 30)) w' → (∀ j, w'.cell? ⟨w.heap.size, j, none⟩ = (#[.int .i64 9, .int .i64 N, .bool s1, .slice a3 t1.length c3, .slice a4 b1.length c4, .bool s2, .slice a6 t2.length c6, .slice a7 b2.length c7, .string x, .slice a9 raw.size c9, .slice a10 n c10] : Array Value)[j]?) ∧ Below w.heap.size w w') := Lib.hid (fun w' hb => by
    have a0 := (hb.block w.heap.size (Nat.lt_succ_self _)).trans hq0
    exact ⟨fun j => by simp [World.cell?, a0], hb0.trans (hb.mono (Nat.le_succ _))⟩)
  have KV := Ru.valid_any x (w.alloc (.cells #[.int .i64 9, .int .i64 N, .bool s1, .slice a3 t1.length c3, .slice a4 b1.length c4, .bool s2, .slice a6 t2.length c6, .slice a7 b2.length c7, .string x, .slice a9 raw.size c9, .slice a10 n c10] 30)) (by omega)
  rw [hz0] at KV
  have HK1 := Lib.hid (fun w' (hb : Below w.heap.size w w') => Rn.noRat_any s1 t1 b1 _ _ w' (i3.below hb (Nat.le_refl _)) (i4.below hb (Nat.le_refl _)) ok1.l1 ok1.l2)
  have HK2 := Lib.hid (fun w' (hb : Below w.heap.size w w') => Rn.noRat_any s2 t2 b2 _ _ w' (i6.below hb (Nat.le_refl _)) (i7.below hb (Nat.le_refl _)) ok2.l1 ok2.l2)
  clear hb0 hq0 hz0 hR i3 i4 i6 i7 ok1 ok2 hx
  cases hV : Lib.validD x.data.toList
  all_goals
    rw [hV] at KV
    go_enter Tryz.func75, Tryz.ntmps75
    go_wp2_with fail
    refine KV.mono ?_
    rintro z w1 ⟨rfl, hb1⟩
    obtain ⟨d, hbw1⟩ := HF.out w1 hb1
    have d0 := d 0
    have d2 := d 2
    have d3 := d 3
    have d4 := d 4
    have d5 := d 5
    have d6 := d 6
    have d7 := d 7
    have HB1 := Lib.hid (And.intro hb1 hbw1)
    clear hb1 hbw1 d KV
  · have hans : R = false := by
      rw [HR.out]
      simp [Tr.Hd.shape, Tr.Hd.num, Tr.isText, Tr.own, hV]
    have HANS := Lib.hid hans
    clear hans
    go_wp2_with fail
    go_ret
    exact ⟨by rw [HANS.out]; rfl, HB1.out.2⟩
  · cases hS1 : Rt.noRat s1 t1 b1
    all_goals
      have KN := HK1.out w1 HB1.out.2
      rw [hS1] at KN
      go_wp2_with fail
      refine KN.mono ?_
      rintro z w2 ⟨rfl, hb2⟩
      have hb2' := HB1.out.1.trans (hb2.mono (by have := HB1.out.1.size; simp at this; omega))
      obtain ⟨d, hbw2⟩ := HF.out w2 hb2'
      clear d0 d2 d3 d4 d5 d6 d7
      have d0 := d 0
      have d2 := d 2
      have d5 := d 5
      have d6 := d 6
      have d7 := d 7
      have HB2 := Lib.hid (And.intro hb2' hbw2)
      clear hb2 hb2' hbw2 d
      clear KN
    · have hans : R = false := by
        rw [HR.out]
        simp [Tr.Hd.shape, Tr.Hd.num, Tr.isText, Tr.own, hV, hS1]
      have HANS := Lib.hid hans
      clear hans
      go_wp2_with fail
      go_ret
      exact ⟨by rw [HANS.out]; rfl, HB2.out.2⟩
    · cases hS2 : Rt.noRat s2 t2 b2
      all_goals
        have KN := HK2.out w2 HB2.out.2
        rw [hS2] at KN
        go_wp2_with fail
        refine KN.mono ?_
        rintro z w3 ⟨rfl, hb3⟩
        have hb3' := HB2.out.1.trans (hb3.mono (by have := HB2.out.1.size; simp at this; omega))
        obtain ⟨d, hbw3⟩ := HF.out w3 hb3'
        clear d0 d2 d5 d6 d7
        have d0 := d 0
        have d1 := d 1
        have d8 := d 8
        have d9 := d 9
        have d10 := d 10
        have HB3 := Lib.hid (And.intro hb3' hbw3)
        clear hb3 hb3' hbw3 d
        clear KN
      · have hans : R = false := by
          rw [HR.out]
          simp [Tr.Hd.shape, Tr.Hd.num, Tr.isText, Tr.own, hV, hS1, hS2]
        have HANS := Lib.hid hans
        clear hans
        go_wp2_with fail
        go_ret
        exact ⟨by rw [HANS.out]; rfl, HB3.out.2⟩
      · by_cases hxz : x.size = 0
        · have hxl : x.toList = [] := (Rd.empty x).2 hxz
          by_cases hr : raw.size = 0
          · have hr0 : ¬ 0 < raw.size := by omega
            have hrI : ¬ (raw.size : Int) > 0 := by omega
            by_cases hN : N = 0
            · subst hN
              have hans : R = true := by
                rw [HR.out]
                simp [Tr.Hd.shape, Tr.Hd.num, Tr.isText, Tr.own, hV, hS1, hS2, hxz, hr]
              have HANS := Lib.hid hans
              clear hans
              go_wp2_with fail
              go_ret
              exact ⟨by rw [HANS.out]; rfl, HB3.out.2⟩
            · have hNI : (N != 0) = true := by simpa using hN
              have hans : R = false := by
                rw [HR.out]
                simp [Tr.Hd.shape, Tr.Hd.num, Tr.isText, Tr.own, hV, hS1, hS2, hxz, hr, hN]
              have HANS := Lib.hid hans
              clear hans
              go_wp2_with fail
              go_ret
              exact ⟨by rw [HANS.out]; rfl, HB3.out.2⟩
          · have hr0 : 0 < raw.size := by omega
            have hrI : (raw.size : Int) > 0 := by omega
            have hans : R = false := by
              rw [HR.out]
              simp [Tr.Hd.shape, Tr.Hd.num, Tr.isText, Tr.own, hV, hS1, hS2, hxz, hr]
            have HANS := Lib.hid hans
            clear hans
            go_wp2_with fail
            go_ret
            exact ⟨by rw [HANS.out]; rfl, HB3.out.2⟩
        · have hxl : ¬ x.toList = [] := fun e => hxz ((Rd.empty x).1 e)
          have hxe : x.toList.isEmpty = false := by cases hh : x.toList with | nil => exact absurd hh hxl | cons a r => rfl
          have hans : R = false := by
            rw [HR.out]
            simp [Tr.Hd.shape, Tr.Hd.num, Tr.isText, Tr.own, hV, hS1, hS2, hxz]
          have HANS := Lib.hid hans
          clear hans
          go_wp2_with fail
          go_ret
          exact ⟨by rw [HANS.out]; rfl, HB3.out.2⟩
end Go.Proofs.YtikmebkfdpbidaaGreatDoor
namespace Go.Proofs.YtikmebkfdpbidaaGreatDoor
open Go.RowKit
set_option linter.unusedVariables false
set_option linter.unusedSimpArgs false

set_option maxHeartbeats 1000000 in
set_option maxRecDepth 1000000 in
theorem Rd.shape10 (N : Int) (s1 s2 : Bool) (t1 b1 t2 b2 : List Nat) (x raw : ByteArray) (n : Nat) (a3 a4 a6 a7 a9 a10 : Option Addr) (c3 c4 c6 c7 c9 c10 : Nat) (w : World) (hx : x.size ≤ 1048576)
    (i3 : Nt.In w (.slice a3 t1.length c3) t1) (i4 : Nt.In w (.slice a4 b1.length c4) b1) (i6 : Nt.In w (.slice a6 t2.length c6) t2) (i7 : Nt.In w (.slice a7 b2.length c7) b2) (ok1 : Rt.GOk t1 b1) (ok2 : Rt.GOk t2 b2) :
    Calls Tryz.prog 75 #[.agg #[.int .i64 10, .int .i64 N, .bool s1, .slice a3 t1.length c3, .slice a4 b1.length c4, .bool s2, .slice a6 t2.length c6, .slice a7 b2.length c7, .string x, .slice a9 raw.size c9, .slice a10 n c10]] w fun e w' => e = .returned (.bool (Tr.Hd.shape ⟨10, N, s1, t1, b1, s2, t2, b2, x, raw⟩ n)) ∧ Below w.heap.size w w' := by
  obtain ⟨R, hR⟩ : ∃ z, z = Tr.Hd.shape ⟨10, N, s1, t1, b1, s2, t2, b2, x, raw⟩ n := ⟨_, rfl⟩
  rw [← hR]
  have HR := Lib.hid hR
  have hb0 : Below w.heap.size w (w.alloc (.cells #[.int .i64 10, .int .i64 N, .bool s1, .slice a3 t1.length c3, .slice a4 b1.length c4, .bool s2, .slice a6 t2.length c6, .slice a7 b2.length c7, .string x, .slice a9 raw.size c9, .slice a10 n c10] 30)) := (Below.refl _ _).alloc (Nat.le_refl _) _
  have hq0 : (w.alloc (.cells #[.int .i64 10, .int .i64 N, .bool s1, .slice a3 t1.length c3, .slice a4 b1.length c4, .bool s2, .slice a6 t2.length c6, .slice a7 b2.length c7, .string x, .slice a9 raw.size c9, .slice a10 n c10] 30)).heap[w.heap.size]? = some (.cells #[.int .i64 10, .int .i64 N, .bool s1, .slice a3 t1.length c3, .slice a4 b1.length c4, .bool s2, .slice a6 t2.length c6, .slice a7 b2.length c7, .string x, .slice a9 raw.size c9, .slice a10 n c10] 30 (0, 0)) := heap_alloc_new w _
  have hz0 : (w.alloc (.cells #[.int .i64 10, .int .i64 N, .bool s1, .slice a3 t1.length c3, .slice a4 b1.length c4, .bool s2, .slice a6 t2.length c6, .slice a7 b2.length c7, .string x, .slice a9 raw.size c9, .slice a10 n c10] 30)).heap.size = w.heap.size + 1 := by simp
  have HF : Hid (∀ w', Below (w.heap.size + 1) (w.alloc (.cells #[.int .i64 10, .int .i64 N, .bool s1, .slice a3 t1.length c3, .slice a4 b1.length c4, .bool s2, .slice a6 t2.length c6, .slice a7 b2.length c7, .string x, .slice a9 raw.size c9, .slice a10 n c10] 30)) w' → (∀ j, w'.cell? ⟨w.heap.size, j, none⟩ = (#[.int .i64 10, .int .i64 N, .bool s1, .slice a3 t1.length c3, .slice a4 b1.length c4, .bool s2, .slice a6 t2.length c6, .slice a7 b2.length c7, .string x, .slice a9 raw.size c9, .slice a10 n c10] : Array Value)[j]?) ∧ Below w.heap.size w w') := Lib.hid (fun w' hb => by
    have a0 := (hb.block w.heap.size (Nat.lt_succ_self _)).trans hq0
    exact ⟨fun j => by simp [World.cell?, a0], hb0.trans (hb.mono (Nat.le_succ _))⟩)
  have KV := Ru.valid_any x (w.alloc (.cells #[.int .i64 10, .int .i64 N, .bool s1, .slice a3 t1.length c3, .slice a4 b1.length c4, .bool s2, .slice a6 t2.length c6, .slice a7 b2.length c7, .string x, .slice a9 raw.size c9, .slice a10 n c10] 30)) (by omega)
  rw [hz0] at KV
  have HK1 := Lib.hid (fun w' (hb : Below w.heap.size w w') => Rn.noRat_any s1 t1 b1 _ _ w' (i3.below hb (Nat.le_refl _)) (i4.below hb (Nat.le_refl _)) ok1.l1 ok1.l2)
  have HK2 := Lib.hid (fun w' (hb : Below w.heap.size w w') => Rn.noRat_any s2 t2 b2 _ _ w' (i6.below hb (Nat.le_refl _)) (i7.below hb (Nat.le_refl _)) ok2.l1 ok2.l2)
  clear hb0 hq0 hz0 hR i3 i4 i6 i7 ok1 ok2 hx
  cases hV : Lib.validD x.data.toList
  all_goals
    rw [hV] at KV
    go_enter Tryz.func75, Tryz.ntmps75
    go_wp2_with fail
    refine KV.mono ?_
    rintro z w1 ⟨rfl, hb1⟩
    obtain ⟨d, hbw1⟩ := HF.out w1 hb1
    have d0 := d 0
    have d2 := d 2
    have d3 := d 3
    have d4 := d 4
    have d5 := d 5
    have d6 := d 6
    have d7 := d 7
    have HB1 := Lib.hid (And.intro hb1 hbw1)
    clear hb1 hbw1 d KV
  · have hans : R = false := by
      rw [HR.out]
      simp [Tr.Hd.shape, Tr.Hd.num, Tr.isText, Tr.own, hV]
    have HANS := Lib.hid hans
    clear hans
    go_wp2_with fail
    go_ret
    exact ⟨by rw [HANS.out]; rfl, HB1.out.2⟩
  · cases hS1 : Rt.noRat s1 t1 b1
    all_goals
      have KN := HK1.out w1 HB1.out.2
      rw [hS1] at KN
      go_wp2_with fail
      refine KN.mono ?_
      rintro z w2 ⟨rfl, hb2⟩
      have hb2' := HB1.out.1.trans (hb2.mono (by have := HB1.out.1.size; simp at this; omega))
      obtain ⟨d, hbw2⟩ := HF.out w2 hb2'
      clear d0 d2 d3 d4 d5 d6 d7
      have d0 := d 0
      have d2 := d 2
      have d5 := d 5
      have d6 := d 6
      have d7 := d 7
      have HB2 := Lib.hid (And.intro hb2' hbw2)
      clear hb2 hb2' hbw2 d
      clear KN
    · have hans : R = false := by
        rw [HR.out]
        simp [Tr.Hd.shape, Tr.Hd.num, Tr.isText, Tr.own, hV, hS1]
      have HANS := Lib.hid hans
      clear hans
      go_wp2_with fail
      go_ret
      exact ⟨by rw [HANS.out]; rfl, HB2.out.2⟩
    · cases hS2 : Rt.noRat s2 t2 b2
      all_goals
        have KN := HK2.out w2 HB2.out.2
        rw [hS2] at KN
        go_wp2_with fail
        refine KN.mono ?_
        rintro z w3 ⟨rfl, hb3⟩
        have hb3' := HB2.out.1.trans (hb3.mono (by have := HB2.out.1.size; simp at this; omega))
        obtain ⟨d, hbw3⟩ := HF.out w3 hb3'
        clear d0 d2 d5 d6 d7
        have d0 := d 0
        have d1 := d 1
        have d8 := d 8
        have d9 := d 9
        have d10 := d 10
        have HB3 := Lib.hid (And.intro hb3' hbw3)
        clear hb3 hb3' hbw3 d
        clear KN
      · have hans : R = false := by
          rw [HR.out]
          simp [Tr.Hd.shape, Tr.Hd.num, Tr.isText, Tr.own, hV, hS1, hS2]
        have HANS := Lib.hid hans
        clear hans
        go_wp2_with fail
        go_ret
        exact ⟨by rw [HANS.out]; rfl, HB3.out.2⟩
      · by_cases hxz : x.size = 0
        · have hxl : x.toList = [] := (Rd.empty x).2 hxz
          by_cases hr : raw.size = 0
          · have hr0 : ¬ 0 < raw.size := by omega
            have hrI : ¬ (raw.size : Int) > 0 := by omega
            by_cases hN : N = 0
            · subst hN
              by_cases hn : n = 0
              · have hnI : ((n : Int) == 0) = true := by subst hn; rfl
                have hans : R = true := by
                  rw [HR.out]
                  simp [Tr.Hd.shape, Tr.Hd.num, Tr.isText, Tr.own, hV, hS1, hS2, hxz, hr, hn]
                have HANS := Lib.hid hans
                clear hans
                go_wp2_with fail
                go_ret
                exact ⟨by rw [HANS.out]; rfl, HB3.out.2⟩
              · have hnI : ((n : Int) == 0) = false := beq_eq_false_iff_ne.2 (by omega)
                have hans : R = false := by
                  rw [HR.out]
                  simp [Tr.Hd.shape, Tr.Hd.num, Tr.isText, Tr.own, hV, hS1, hS2, hxz, hr, hn]
                have HANS := Lib.hid hans
                clear hans
                go_wp2_with fail
                go_ret
                exact ⟨by rw [HANS.out]; rfl, HB3.out.2⟩
            · have hNI : (N != 0) = true := by simpa using hN
              have hans : R = false := by
                rw [HR.out]
                simp [Tr.Hd.shape, Tr.Hd.num, Tr.isText, Tr.own, hV, hS1, hS2, hxz, hr, hN]
              have HANS := Lib.hid hans
              clear hans
              go_wp2_with fail
              go_ret
              exact ⟨by rw [HANS.out]; rfl, HB3.out.2⟩
          · have hr0 : 0 < raw.size := by omega
            have hrI : (raw.size : Int) > 0 := by omega
            have hans : R = false := by
              rw [HR.out]
              simp [Tr.Hd.shape, Tr.Hd.num, Tr.isText, Tr.own, hV, hS1, hS2, hxz, hr]
            have HANS := Lib.hid hans
            clear hans
            go_wp2_with fail
            go_ret
            exact ⟨by rw [HANS.out]; rfl, HB3.out.2⟩
        · have hxl : ¬ x.toList = [] := fun e => hxz ((Rd.empty x).1 e)
          have hxe : x.toList.isEmpty = false := by cases hh : x.toList with | nil => exact absurd hh hxl | cons a r => rfl
          have hans : R = false := by
            rw [HR.out]
            simp [Tr.Hd.shape, Tr.Hd.num, Tr.isText, Tr.own, hV, hS1, hS2, hxz]
          have HANS := Lib.hid hans
          clear hans
          go_wp2_with fail
          go_ret
          exact ⟨by rw [HANS.out]; rfl, HB3.out.2⟩
end Go.Proofs.YtikmebkfdpbidaaGreatDoor
