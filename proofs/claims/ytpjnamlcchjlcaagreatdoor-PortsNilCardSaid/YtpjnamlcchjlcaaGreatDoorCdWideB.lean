/-
  codec.wide, where the text begins in one of three ways: this is way B.
-/
import Derived.Test.YtpjnamlcchjlcaaGreatDoorCdWide
namespace Go.Proofs.YtpjnamlcchjlcaaGreatDoor
open Go.RowKit
set_option linter.unusedVariables false

set_option maxHeartbeats 8000000 in
set_option maxRecDepth 1000000 in
theorem Cd.wide_B (s : ByteArray) (w : World) (B ob cb ab eb b off cap : Nat) (c l m a0 e0 : Int) (xs0 : List Int) (hs0 : 0 < s.size) (hbs : 2 ≤ s.size ∧ Cd.byt s 0 = 255 ∧ Cd.byt s 1 = 254 ∧ Cd.bom s = (2, 1)) (hs : s.size ≤ 1099511627000) (hl : xs0.length = 0) (hBo : B ≤ ob) (hBa : B ≤ ab) (hBe : B ≤ eb) (hbB : b < B)
    (h : Cd.St w B ob cb ab eb c l m xs0 a0 e0) (hc : ∀ j, j < s.size → w.cell? ⟨b, off + j, none⟩ = some (.int .u8 (Cd.byt s j))) (XS : List Int) (A E : Int) (hF : Cd.feed m (Cd.wideU s (Cd.bom s).2 (Cd.bom s).1) xs0 a0 e0 = (XS, A, E)) :
    Calls Tryz.prog 56 #[.slice (some ⟨b, off, none⟩) s.size cap, Cd.fv ob cb ab eb] w fun x w' => x = .returned (.tuple #[]) ∧ Cd.St w' B ob cb ab eb c l m XS A E ∧ Cd.Kept B ob ab eb w w' := by
  have hmf : ∀ (fn : Fn) (first cap : Array Value) (w : World), (Instr.makeFunc fn first cap).run Tryz.prog w = .ok (.func fn first cap) w := fun _ _ _ _ => rfl
  have hsz := lt_of_block h.place
  have hbd0 := Cd.byt_bd s 0
  have hbd1 := Cd.byt_bd s 1
  unfold Cd.fv
  obtain ⟨low, hlow⟩ : ∃ low, low = (Cd.bom s).2 := ⟨_, rfl⟩
  obtain ⟨at0, hat⟩ : ∃ at0, at0 = (Cd.bom s).1 := ⟨_, rfl⟩
  rw [← hlow, ← hat] at hF
  have c0 : w.cell? ⟨b, off, none⟩ = some (.int .u8 (Cd.byt s 0)) := hc 0 hs0
  have hbw : b < w.heap.size := by omega
  have HC := Lib.hid hc
  have hso := lt_of_block h.out.choose_spec.1
  have hse := lt_of_block h.err
  have hnb : w.heap.size ≠ ob ∧ w.heap.size ≠ ab ∧ w.heap.size ≠ eb := by omega
  have hnl : w.heap.size + 1 ≠ ob ∧ w.heap.size + 1 ≠ ab ∧ w.heap.size + 1 ≠ eb := by omega
  have HNB := Lib.hid hnb; clear hnb
  have HNL := Lib.hid hnl; clear hnl
  have HH := Lib.hid h; clear h
  have HF := Lib.hid hF; clear hF
  obtain ⟨h2, hx, hy, hbom⟩ := hbs
  rw [hx] at c0
  have c1 := hc 1 (by omega)
  rw [hy] at c1
  rw [hbom] at hlow hat
  clear hx hy hbom hbd0 hbd1 hc
  have HLOW := Lib.hid hlow; clear hlow
  have HAT := Lib.hid hat; clear hat
  have HL1 := Lib.hid (show low ≤ 1 by have := HLOW.out; omega)
  go_enter Tryz.func56, Tryz.ntmps56
  go_wp2
  go_loopw [5] (fun s5 wr => ∃ (k : Nat) (xs : List Int) (a e : Int), s5 = .int .i64 k ∧ k ≤ s.size + 4 ∧ Cd.WR w wr B ob cb ab eb w.heap.size (w.heap.size + 1) (.slice (some ⟨b, off, none⟩) s.size cap) c l m (Cd.wideU s low) low (XS, A, E) k xs a e) (fun s5 _ => s.size + 4 - (intOf s5).toNat)
  case atStart =>
    refine ⟨at0, xs0, a0, e0, ?_, ?_, ⟨HH.out.of_below ?_, Cd.Kept.of_below ?_ (by omega), ?_, ?_, HF.out, by omega⟩⟩
    · rw [HAT.out]; rfl
    · have := HAT.out; omega
    · exact ((Below.refl _ _).alloc (Nat.le_refl _) _).alloc (by simp) _
    · exact ((Below.refl _ _).alloc (Nat.le_refl _) _).alloc (by simp) _
    · rw [Lib.alloc_old _ _ _ (by simp)]; exact heap_alloc_new _ _
    · rw [HLOW.out]
      have := heap_alloc_new (w.alloc (Obj.cells #[Value.slice (some ⟨b, off, none⟩) s.size cap] 34)) (Obj.cells #[.int .i64 1] 3)
      simpa using this
  case round =>
    obtain ⟨k, xs, a, e, rfl, hk4, hrel⟩ := hrel
    have hlen := hrel.len
    by_cases hp : k < s.size
    · have hcw : ∀ j, j < s.size → wr.cell? ⟨b, off + j, none⟩ = some (.int .u8 (Cd.byt s j)) := fun j hj => (hrel.kept.below.cell (p := ⟨b, off + j, none⟩) hbB).trans (HC.out j hj)
      have HCW := Lib.hid hcw; clear hcw
      have fbb := cell_of_one hrel.bbox
      have HREL := Lib.hid hrel; clear hrel
      have hU1 := Cd.wideU_one s low k hp
      have hU2 := Cd.wideU_pair s low k hp
      have hbr := Cd.num_bd s low k
      have hbq := Cd.num_bd s low (k + 2)
      have K1 := Lib.hid (fun w => Cd.wide1_any s low k w w.heap.size)
      have HU1 := Lib.hid hU1; clear hU1
      have HU2 := Lib.hid hU2; clear hU2
      go_wp2_with fail
      refine (Cd.wide1_any s low k wr _ _ b off cap HL1.out (by omega) (by omega) HREL.out.bbox HREL.out.lbox HCW.out).mono ?_; rintro x w1 ⟨rfl, hb1⟩
      have r1 := HREL.out.of_below hBa hb1
      have R1 := Lib.hid r1; clear r1
      have hcw1 : ∀ j, j < s.size → w1.cell? ⟨b, off + j, none⟩ = some (.int .u8 (Cd.byt s j)) := fun j hj => (R1.out.kept.below.cell (p := ⟨b, off + j, none⟩) hbB).trans (HC.out j hj)
      have HCW1 := Lib.hid hcw1; clear hcw1 HCW HREL hb1 K1 fbb
      go_wp2_with fail
      refine (Cd.wide1_any s low (k + 2) w1 _ _ b off cap HL1.out (by omega) (by omega) R1.out.bbox R1.out.lbox HCW1.out).mono ?_; rintro x w2 ⟨rfl, hb2⟩
      have r2 := R1.out.of_below hBa hb2
      clear R1 HCW1 hb2
      have HR2 := Lib.hid r2
      have hU1 := HU1.out; clear HU1
      have hU2 := HU2.out; clear HU2
      generalize Cd.num s low k = r at *
      generalize Cd.num s low (k + 2) = q at *
      rcases (show (55296 ≤ r ∧ r ≤ 56319 ∧ 56320 ≤ q ∧ q ≤ 57343) ∨ r < 0 ∨ (0 ≤ r ∧ r < 55296) ∨ 57343 < r ∨ (56320 ≤ r ∧ r ≤ 57343) ∨ (55296 ≤ r ∧ r ≤ 56319 ∧ q < 56320) ∨ (55296 ≤ r ∧ r ≤ 56319 ∧ 57343 < q) by omega) with hw | hw | hw | hw | hw | hw | hw
      · obtain ⟨p1, p2, p3, p4⟩ := hw
        have HU := Lib.hid (hU2 (by unfold Cd.pair; omega)); clear hU1 hU2
        go_wp2_with fail
        refine (Cd.decode1_any ((r - 55296) * 1024 + q - 56320 + 65536) k true w2 B ob cb ab eb c l m xs a e r2.st (by omega) hBo hBa hBe).mono ?_; rintro x w3 ⟨rfl, hst, hkp⟩
        have r3 := HR2.out.step HU.out (by omega) rfl HNB.out HNL.out hst hkp
        have R3 := Lib.hid r3
        clear r3 hst hkp r2
        go_wp2
        go_roundw
        case rel => exact ⟨k + 2 + 2, _, _, _, by first | rfl | (simp; try omega), by omega, R3.out⟩
        case measure => simp [intOf]; omega
      · skip
        have hok : Cd.plainR r = false := by simp [Cd.plainR]; omega
        have HU := Lib.hid (hU1 (by unfold Cd.pair; omega)); clear hU1 hU2
        rw [hok] at HU
        clear hok
        go_wp2_with fail
        refine (Cd.decode1_any r k false w2 B ob cb ab eb c l m xs a e r2.st (by omega) hBo hBa hBe).mono ?_; rintro x w3 ⟨rfl, hst, hkp⟩
        clear r2
        by_cases hm : m = 0
        · have hg : Cd.goS m false = false := by simp [Cd.goS, hm]
          have r3 := HR2.out.stop HU.out hg hst hkp
          have R3 := Lib.hid r3
          rw [hg]
          clear r3 hst hkp
          go_wp2
          first | go_end0 | refine bodyPost_ret (results_none rfl _ _ _) rfl ?_
          exact ⟨rfl, R3.out⟩
        · have hg : Cd.goS m false = true := by simp [Cd.goS, hm]
          have r3 := HR2.out.step HU.out (by omega) hg HNB.out HNL.out hst hkp
          have R3 := Lib.hid r3
          rw [hg]
          clear r3 hst hkp
          go_wp2
          go_roundw
          case rel => exact ⟨k+2, _, _, _, by first | rfl | (simp; try omega), by omega, R3.out⟩
          case measure => simp [intOf]; omega
      · skip
        have hok : Cd.plainR r = true := by simp [Cd.plainR]; omega
        have HU := Lib.hid (hU1 (by unfold Cd.pair; omega)); clear hU1 hU2
        rw [hok] at HU
        clear hok
        go_wp2_with fail
        refine (Cd.decode1_any r k true w2 B ob cb ab eb c l m xs a e r2.st (by omega) hBo hBa hBe).mono ?_; rintro x w3 ⟨rfl, hst, hkp⟩
        have r3 := HR2.out.step HU.out (by omega) rfl HNB.out HNL.out hst hkp
        have R3 := Lib.hid r3
        clear r3 hst hkp r2
        go_wp2
        go_roundw
        case rel => exact ⟨k+2, _, _, _, by first | rfl | (simp; try omega), by omega, R3.out⟩
        case measure => simp [intOf]; omega
      · skip
        have hok : Cd.plainR r = true := by simp [Cd.plainR]; omega
        have HU := Lib.hid (hU1 (by unfold Cd.pair; omega)); clear hU1 hU2
        rw [hok] at HU
        clear hok
        go_wp2_with fail
        refine (Cd.decode1_any r k true w2 B ob cb ab eb c l m xs a e r2.st (by omega) hBo hBa hBe).mono ?_; rintro x w3 ⟨rfl, hst, hkp⟩
        have r3 := HR2.out.step HU.out (by omega) rfl HNB.out HNL.out hst hkp
        have R3 := Lib.hid r3
        clear r3 hst hkp r2
        go_wp2
        go_roundw
        case rel => exact ⟨k+2, _, _, _, by first | rfl | (simp; try omega), by omega, R3.out⟩
        case measure => simp [intOf]; omega
      · skip
        have t1 : decide ((57343 : Int) < r) = false := decide_eq_false (by omega)
        have t2 : ¬ (57343 : Int) < r := by omega
        have t3 : decide (r < (55296 : Int)) = false := decide_eq_false (by omega)
        have t4 : ¬ r < (55296 : Int) := by omega
        have hok : Cd.plainR r = false := by simp [Cd.plainR]; omega
        have HU := Lib.hid (hU1 (by unfold Cd.pair; omega)); clear hU1 hU2
        rw [hok] at HU
        clear hok
        go_wp2_with fail
        refine (Cd.decode1_any r k false w2 B ob cb ab eb c l m xs a e r2.st (by omega) hBo hBa hBe).mono ?_; rintro x w3 ⟨rfl, hst, hkp⟩
        clear r2
        by_cases hm : m = 0
        · have hg : Cd.goS m false = false := by simp [Cd.goS, hm]
          have r3 := HR2.out.stop HU.out hg hst hkp
          have R3 := Lib.hid r3
          rw [hg]
          clear r3 hst hkp
          go_wp2
          first | go_end0 | refine bodyPost_ret (results_none rfl _ _ _) rfl ?_
          exact ⟨rfl, R3.out⟩
        · have hg : Cd.goS m false = true := by simp [Cd.goS, hm]
          have r3 := HR2.out.step HU.out (by omega) hg HNB.out HNL.out hst hkp
          have R3 := Lib.hid r3
          rw [hg]
          clear r3 hst hkp
          go_wp2
          go_roundw
          case rel => exact ⟨k+2, _, _, _, by first | rfl | (simp; try omega), by omega, R3.out⟩
          case measure => simp [intOf]; omega
      · obtain ⟨p1, p2, p3⟩ := hw
        have t1 : decide ((57343 : Int) < r) = false := decide_eq_false (by omega)
        have t2 : ¬ (57343 : Int) < r := by omega
        have t3 : decide (r < (55296 : Int)) = false := decide_eq_false (by omega)
        have t4 : ¬ r < (55296 : Int) := by omega
        have hok : Cd.plainR r = false := by simp [Cd.plainR]; omega
        have HU := Lib.hid (hU1 (by unfold Cd.pair; omega)); clear hU1 hU2
        rw [hok] at HU
        clear hok
        go_wp2_with fail
        refine (Cd.decode1_any r k false w2 B ob cb ab eb c l m xs a e r2.st (by omega) hBo hBa hBe).mono ?_; rintro x w3 ⟨rfl, hst, hkp⟩
        clear r2
        by_cases hm : m = 0
        · have hg : Cd.goS m false = false := by simp [Cd.goS, hm]
          have r3 := HR2.out.stop HU.out hg hst hkp
          have R3 := Lib.hid r3
          rw [hg]
          clear r3 hst hkp
          go_wp2
          first | go_end0 | refine bodyPost_ret (results_none rfl _ _ _) rfl ?_
          exact ⟨rfl, R3.out⟩
        · have hg : Cd.goS m false = true := by simp [Cd.goS, hm]
          have r3 := HR2.out.step HU.out (by omega) hg HNB.out HNL.out hst hkp
          have R3 := Lib.hid r3
          rw [hg]
          clear r3 hst hkp
          go_wp2
          go_roundw
          case rel => exact ⟨k+2, _, _, _, by first | rfl | (simp; try omega), by omega, R3.out⟩
          case measure => simp [intOf]; omega
      · obtain ⟨p1, p2, p3⟩ := hw
        have t1 : decide ((57343 : Int) < r) = false := decide_eq_false (by omega)
        have t2 : ¬ (57343 : Int) < r := by omega
        have t3 : decide (r < (55296 : Int)) = false := decide_eq_false (by omega)
        have t4 : ¬ r < (55296 : Int) := by omega
        have hok : Cd.plainR r = false := by simp [Cd.plainR]; omega
        have HU := Lib.hid (hU1 (by unfold Cd.pair; omega)); clear hU1 hU2
        rw [hok] at HU
        clear hok
        go_wp2_with fail
        refine (Cd.decode1_any r k false w2 B ob cb ab eb c l m xs a e r2.st (by omega) hBo hBa hBe).mono ?_; rintro x w3 ⟨rfl, hst, hkp⟩
        clear r2
        by_cases hm : m = 0
        · have hg : Cd.goS m false = false := by simp [Cd.goS, hm]
          have r3 := HR2.out.stop HU.out hg hst hkp
          have R3 := Lib.hid r3
          rw [hg]
          clear r3 hst hkp
          go_wp2
          first | go_end0 | refine bodyPost_ret (results_none rfl _ _ _) rfl ?_
          exact ⟨rfl, R3.out⟩
        · have hg : Cd.goS m false = true := by simp [Cd.goS, hm]
          have r3 := HR2.out.step HU.out (by omega) hg HNB.out HNL.out hst hkp
          have R3 := Lib.hid r3
          rw [hg]
          clear r3 hst hkp
          go_wp2
          go_roundw
          case rel => exact ⟨k+2, _, _, _, by first | rfl | (simp; try omega), by omega, R3.out⟩
          case measure => simp [intOf]; omega
    · have hdone := hrel.done (Cd.wideU_end s low k hp)
      have HD := Lib.hid hdone; clear hdone
      have fbb := cell_of_one hrel.bbox
      clear hrel
      go_wp2
      first | go_end0 | refine bodyPost_ret (results_none rfl _ _ _) rfl ?_
      exact ⟨rfl, HD.out⟩
end Go.Proofs.YtpjnamlcchjlcaaGreatDoor
