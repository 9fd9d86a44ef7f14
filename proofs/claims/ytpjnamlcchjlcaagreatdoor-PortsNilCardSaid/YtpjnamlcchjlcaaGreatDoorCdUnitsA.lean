/-
  The walk of codec.units, its two ways through bytes and UTF-8: it feeds the closure with the units of the bytes. Conditions: as the closure's; package utf8's tables.
-/
import Derived.Test.YtpjnamlcchjlcaaGreatDoorCdWide
import Derived.Test.YtpjnamlcchjlcaaGreatDoorShelf
import Derived.Lib.RuneCountTail
namespace Go.Proofs.YtpjnamlcchjlcaaGreatDoor
open Go.RowKit
set_option linter.unusedVariables false

theorem Cd.decodeGo_at (s : ByteArray) (q : Nat) (h : q < s.size) : Lib.decodeGo (s.extract q s.size) = Utf8.decode s q := by
  have hz : (s.extract q s.size).size = s.size - q := by simp
  unfold Lib.decodeGo
  rw [if_neg (by omega), Ru.decode_drop, Ru.decode_drop, List.drop_zero, Lib.extract_data, List.take_of_length_le (by simp)]
theorem Cd.tabs_below {g3 g4 B : Nat} {w w' : World} (h : Lib.Utf8Tabs g3 g4 w) (hb : Below B w w') (h1 : g3 < B) (h2 : g4 < B) : Lib.Utf8Tabs g3 g4 w' := by
  exact ⟨fun c hc => (hb.cell (p := ⟨g3, c, none⟩) h1).trans (h.1 c hc), fun i hi => ⟨(hb.cell (p := ⟨g4, 2 * i, none⟩) h2).trans (h.2 i hi).1, (hb.cell (p := ⟨g4, 2 * i + 1, none⟩) h2).trans (h.2 i hi).2⟩⟩
theorem Cd.decode_fits (s : ByteArray) (k : Nat) (h : k < s.size) : k + (Utf8.decode s k).2 ≤ s.size := by
  have hl : s.data.toList.length = s.size := by simp
  have := Ru.width_le (s.data.toList.drop k) (by intro e; have := congrArg List.length e; rw [List.length_drop, hl] at this; simp at this; omega)
  rw [← Ru.decode_drop, List.length_drop, hl] at this
  omega

structure Cd.UR (w wr : World) (B ob cb ab eb : Nat) (c l m : Int) (U : Nat → List Cd.U) (F : List Int × Int × Int) (at_ : Nat) (xs : List Int) (a e : Int) : Prop where
  st : Cd.St wr B ob cb ab eb c l m xs a e
  kept : Cd.Kept B ob ab eb w wr
  left : Cd.feed m (U at_) xs a e = F
  len : xs.length ≤ at_
theorem Cd.UR.of_below {w wr w2 : World} {B ob cb ab eb : Nat} {c l m : Int} {U : Nat → List Cd.U} {F : List Int × Int × Int} {at_ : Nat} {xs : List Int} {a e : Int} (h : Cd.UR w wr B ob cb ab eb c l m U F at_ xs a e) (hBa : B ≤ ab) (hb : Below wr.heap.size wr w2) : Cd.UR w w2 B ob cb ab eb c l m U F at_ xs a e :=
  ⟨h.st.of_below hb, h.kept.trans (.of_below hb (by have := lt_of_block h.st.place; omega)), h.left, h.len⟩
theorem Cd.UR.step {w w2 w3 : World} {B ob cb ab eb : Nat} {c l m : Int} {U : Nat → List Cd.U} {F : List Int × Int × Int} {k k' : Nat} {xs : List Int} {a e R : Int} {ok : Bool} (h : Cd.UR w w2 B ob cb ab eb c l m U F k xs a e) (hu : U k = (R, ok, (k : Int)) :: U k') (hk : k < k') (hg : Cd.goS m ok = true)
    (hst : Cd.St w3 B ob cb ab eb c l m (Cd.xsS m R ok xs) (Cd.atS m k ok a) (Cd.erS m ok e)) (hkept : Cd.Kept B ob ab eb w2 w3) :
    Cd.UR w w3 B ob cb ab eb c l m U F k' (Cd.xsS m R ok xs) (Cd.atS m k ok a) (Cd.erS m ok e) := by
  refine ⟨hst, h.kept.trans hkept, ?_, ?_⟩
  · rw [← h.left, hu, Cd.feed, if_pos hg]
  · have := Cd.xsS_len m R ok xs
    have := h.len
    omega
theorem Cd.UR.stop {w w2 w3 : World} {B ob cb ab eb : Nat} {c l m : Int} {U : Nat → List Cd.U} {XS : List Int} {A E : Int} {k : Nat} {us : List Cd.U} {xs : List Int} {a e R : Int} {ok : Bool} (h : Cd.UR w w2 B ob cb ab eb c l m U (XS, A, E) k xs a e) (hu : U k = (R, ok, (k : Int)) :: us) (hg : Cd.goS m ok = false)
    (hst : Cd.St w3 B ob cb ab eb c l m (Cd.xsS m R ok xs) (Cd.atS m k ok a) (Cd.erS m ok e)) (hkept : Cd.Kept B ob ab eb w2 w3) :
    Cd.St w3 B ob cb ab eb c l m XS A E ∧ Cd.Kept B ob ab eb w w3 := by
  have := h.left
  rw [hu, Cd.feed, if_neg (by rw [hg]; decide)] at this
  simp only [Prod.mk.injEq] at this
  obtain ⟨rfl, rfl, rfl⟩ := this
  exact ⟨hst, h.kept.trans hkept⟩
theorem Cd.UR.done {w w2 : World} {B ob cb ab eb : Nat} {c l m : Int} {U : Nat → List Cd.U} {XS : List Int} {A E : Int} {k : Nat} {xs : List Int} {a e : Int} (h : Cd.UR w w2 B ob cb ab eb c l m U (XS, A, E) k xs a e) (hu : U k = []) :
    Cd.St w2 B ob cb ab eb c l m XS A E ∧ Cd.Kept B ob ab eb w w2 := by
  have := h.left
  rw [hu, Cd.feed] at this
  simp only [Prod.mk.injEq] at this
  obtain ⟨rfl, rfl, rfl⟩ := this
  exact ⟨h.st, h.kept⟩

set_option maxHeartbeats 400000 in
set_option maxRecDepth 1000000 in
theorem Cd.units_latin (s : ByteArray) (w : World) (B ob cb ab eb b off cap : Nat) (c l m a0 e0 : Int) (xs0 : List Int) (hs0 : 0 < s.size) (hs : s.size ≤ 1099511627000) (hl : xs0.length = 0) (hBo : B ≤ ob) (hBa : B ≤ ab) (hBe : B ≤ eb) (hbB : b < B)
    (h : Cd.St w B ob cb ab eb c l m xs0 a0 e0) (hc : ∀ j, j < s.size → w.cell? ⟨b, off + j, none⟩ = some (.int .u8 (Cd.byt s j))) (XS : List Int) (A E : Int) (hF : Cd.feed m (Cd.latinU s 0) xs0 a0 e0 = (XS, A, E)) :
    Calls Tryz.prog 31 #[.int .i64 2, .slice (some ⟨b, off, none⟩) s.size cap, Cd.fv ob cb ab eb] w fun x w' => x = .returned (.tuple #[]) ∧ Cd.St w' B ob cb ab eb c l m XS A E ∧ Cd.Kept B ob ab eb w w' := by
  unfold Cd.fv
  have HC := Lib.hid hc; clear hc
  have HH := Lib.hid h; clear h
  have HF := Lib.hid hF; clear hF
  go_enter Tryz.func31, Tryz.ntmps31
  go_wp2
  go_loopw [46] (fun i wr => ∃ (k : Nat) (xs : List Int) (a e : Int), i = .int .i64 k ∧ k ≤ s.size ∧ Cd.UR w wr B ob cb ab eb c l m (Cd.latinU s) (XS, A, E) k xs a e) (fun i _ => s.size - (intOf i).toNat)
  case atStart =>
    exact ⟨0, xs0, a0, e0, rfl, Nat.zero_le _, HH.out, Cd.Kept.refl _ _ _ _ _, HF.out, by omega⟩
  case round =>
    obtain ⟨k, xs, a, e, rfl, hk4, hrel⟩ := hrel
    have hlen := hrel.len
    by_cases hp : k < s.size
    · have hck := (hrel.kept.below.cell (p := ⟨b, off + k, none⟩) hbB).trans (HC.out k hp)
      have HU := Lib.hid (Cd.latinU_one s k hp)
      have hbd := Cd.byt_bd s k
      have HR := Lib.hid hrel; clear hrel
      generalize Cd.byt s k = r at *
      go_wp2_with fail
      refine (Cd.decode1_any r k true wr B ob cb ab eb c l m xs a e HR.out.st (by omega) hBo hBa hBe).mono ?_; rintro x w3 ⟨rfl, hst, hkp⟩
      have r3 := HR.out.step HU.out (by omega) rfl hst hkp
      have R3 := Lib.hid r3
      clear r3 hst hkp
      go_wp2
      go_roundw
      case rel => exact ⟨k + 1, _, _, _, by first | rfl | (simp; try omega), by omega, R3.out⟩
      case measure => simp [intOf]; omega
    · have hdone := hrel.done (Cd.latinU_end s k hp)
      have HD := Lib.hid hdone; clear hdone hrel
      go_wp2
      first | go_end0 | refine bodyPost_ret (results_none rfl _ _ _) rfl ?_
      exact ⟨rfl, HD.out⟩

set_option maxHeartbeats 400000 in
set_option maxRecDepth 1000000 in
theorem Cd.units_utf8 (s : ByteArray) (w : World) (B ob cb ab eb b off cap : Nat) (c l m a0 e0 : Int) (xs0 : List Int) (hs0 : 0 < s.size) (hcap : s.size ≤ cap) (hs : s.size ≤ 1099511627000) (hl : xs0.length = 0) (hBo : B ≤ ob) (hBa : B ≤ ab) (hBe : B ≤ eb) (hbB : b < B) (hT : Lib.Utf8Tabs 0 1 w) (hTB : 0 < B ∧ 1 < B)
    (h : Cd.St w B ob cb ab eb c l m xs0 a0 e0) (hc : ∀ j, j < s.size → w.cell? ⟨b, off + j, none⟩ = some (.int .u8 (Cd.byt s j))) (XS : List Int) (A E : Int) (hF : Cd.feed m (Cd.utf8U s 0) xs0 a0 e0 = (XS, A, E)) :
    Calls Tryz.prog 31 #[.int .i64 1, .slice (some ⟨b, off, none⟩) s.size cap, Cd.fv ob cb ab eb] w fun x w' => x = .returned (.tuple #[]) ∧ Cd.St w' B ob cb ab eb c l m XS A E ∧ Cd.Kept B ob ab eb w w' := by
  unfold Cd.fv
  have HC := Lib.hid hc; clear hc
  have HH := Lib.hid h; clear h
  have HF := Lib.hid hF; clear hF
  have HT := Lib.hid hT; clear hT
  go_enter Tryz.func31, Tryz.ntmps31
  go_wp2
  go_loopw [6] (fun i wr => ∃ (k : Nat) (xs : List Int) (a e : Int), i = .int .i64 k ∧ k ≤ s.size ∧ Cd.UR w wr B ob cb ab eb c l m (Cd.utf8U s) (XS, A, E) k xs a e) (fun i _ => s.size - (intOf i).toNat)
  case atStart =>
    exact ⟨0, xs0, a0, e0, rfl, Nat.zero_le _, HH.out, Cd.Kept.refl _ _ _ _ _, HF.out, by omega⟩
  case round =>
    obtain ⟨k, xs, a, e, rfl, hk4, hrel⟩ := hrel
    have hlen := hrel.len
    by_cases hp : k < s.size
    · have HU := Lib.hid (Cd.utf8U_one s k hp)
      have HR := Lib.hid hrel; clear hrel
      have hcell := fun j (hj : j < s.size) => (HR.out.kept.below.cell (p := ⟨b, off + j, none⟩) hbB).trans (HC.out j hj)
      have hdc := Tryz.utf8_DecodeRune (s.extract k s.size) b (off + k) (cap - k) wr (Cd.tabs_below HT.out HR.out.kept.below hTB.1 hTB.2) (fun j hj => by
        have hz : (s.extract k s.size).size = s.size - k := by simp
        rw [Lib.tail_get!, Nat.add_assoc]
        exact hcell (k + j) (by omega))
      rw [show (s.extract k s.size).size = s.size - k by simp, Cd.decodeGo_at s k hp] at hdc
      have HDC := Lib.hid hdc; clear hdc hcell
      have hw1 := Lib.decode_width_pos s k hp
      have hw2 := decode_le s k
      have hw3 := Cd.decode_fits s k hp
      generalize (Utf8.decode s k).1 = V at *
      generalize (Utf8.decode s k).2 = W at *
      go_wp2_with fail
      refine HDC.out.mono ?_; rintro x w1 ⟨rfl, hb1⟩
      have HR1 := Lib.hid (HR.out.of_below hBa hb1)
      clear HDC HR hb1
      by_cases hV : V = 65533
      · subst hV
        by_cases hW : 1 < W
        · have hok : decide ((65533 : Nat) ≠ 65533 ∨ 1 < W) = true := decide_eq_true (.inr hW)
          rw [hok] at HU
          clear hok
          have hWb : decide ((1 : Int) < (W : Int)) = true := decide_eq_true (by omega)
          have hWc : (1 : Int) < (W : Int) := by omega
          go_wp2_with fail
          refine (Cd.decode1_any 65533 k true w1 B ob cb ab eb c l m xs a e HR1.out.st (by omega) hBo hBa hBe).mono ?_; rintro x w3 ⟨rfl, hst, hkp⟩
          have R3 := Lib.hid (HR1.out.step HU.out (by omega) rfl hst hkp)
          clear hst hkp HR1
          go_wp2
          go_roundw
          case rel => exact ⟨k + W, _, _, _, by first | rfl | (simp; try omega), by omega, R3.out⟩
          case measure => simp [intOf]; omega
        · obtain rfl : W = 1 := by omega
          have hok : decide ((65533 : Nat) ≠ 65533 ∨ 1 < 1) = false := by decide
          rw [hok] at HU
          clear hok
          go_wp2_with fail
          refine (Cd.decode1_any 65533 k false w1 B ob cb ab eb c l m xs a e HR1.out.st (by omega) hBo hBa hBe).mono ?_; rintro x w3 ⟨rfl, hst, hkp⟩
          by_cases hm : m = 0
          · have hg : Cd.goS m false = false := by simp [Cd.goS, hm]
            have R3 := Lib.hid (HR1.out.stop HU.out hg hst hkp)
            rw [hg]
            clear hst hkp HR1
            go_wp2
            first | go_end0 | refine bodyPost_ret (results_none rfl _ _ _) rfl ?_
            exact ⟨rfl, R3.out⟩
          · have hg : Cd.goS m false = true := by simp [Cd.goS, hm]
            have R3 := Lib.hid (HR1.out.step HU.out (by omega) hg hst hkp)
            rw [hg]
            clear hst hkp HR1
            go_wp2
            go_roundw
            case rel => exact ⟨k + 1, _, _, _, by first | rfl | (simp; try omega), by omega, R3.out⟩
            case measure => simp [intOf]; omega
      · have hok : decide (V ≠ 65533 ∨ 1 < W) = true := decide_eq_true (.inl hV)
        rw [hok] at HU
        clear hok
        have hVb : ((V : Int) != 65533) = true := by simp; omega
        go_wp2_with fail
        refine (Cd.decode1_any V k true w1 B ob cb ab eb c l m xs a e HR1.out.st (by omega) hBo hBa hBe).mono ?_; rintro x w3 ⟨rfl, hst, hkp⟩
        have R3 := Lib.hid (HR1.out.step HU.out (by omega) rfl hst hkp)
        clear hst hkp HR1
        go_wp2
        go_roundw
        case rel => exact ⟨k + W, _, _, _, by first | rfl | (simp; try omega), by omega, R3.out⟩
        case measure => simp [intOf]; omega
    · have hdone := hrel.done (Cd.utf8U_end s k hp)
      have HD := Lib.hid hdone; clear hdone hrel
      go_wp2
      first | go_end0 | refine bodyPost_ret (results_none rfl _ _ _) rfl ?_
      exact ⟨rfl, HD.out⟩
end Go.Proofs.YtpjnamlcchjlcaaGreatDoor
