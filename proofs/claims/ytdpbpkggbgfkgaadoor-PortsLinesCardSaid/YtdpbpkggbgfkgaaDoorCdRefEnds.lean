/-
  The walk of sextantref06.Ends. Condition: at most 2^40 characters.
-/
import Derived.Test.YtdpbpkggbgfkgaaDoorProg
import Derived.Test.YtdpbpkggbgfkgaaDoorCdPlain
import Derived.Test.YtdpbpkggbgfkgaaDoorSl
import Derived.WalkKit
import Derived.WalkSpells
import Derived.WalkLawsBesides
import Derived.Handy
import Derived.BigCall
import Derived.Lib.Hide
namespace Go.Proofs.YtdpbpkggbgfkgaaDoor
open Go.RowKit
set_option linter.unusedVariables false

theorem Cd.infoRune3 : (Tryd.prog.info? 21).map (fun i => (i.zero, i.size, i.bytes)) = some (some (.int .i32 0), 1, 4) := by kernel_rfl

def Cd.sec (xs : List Int) (k : Nat) : Prop := 0 < k ∧ xs.getD (k - 1) 0 = 13 ∧ (xs.getD k 0 = 10 ∨ xs.getD k 0 = 133)
instance (xs : List Int) (k : Nat) : Decidable (Cd.sec xs k) := by unfold Cd.sec; infer_instance
def Cd.nl (l r : Int) : Int := if l ≠ 0 ∧ (r = 13 ∨ r = 133 ∨ r = 8232) then 10 else r
def Cd.endsR (l : Int) (xs : List Int) (k : Nat) : List Int :=
  if _h : k < xs.length then
    if l ≠ 0 ∧ Cd.sec xs k then Cd.endsR l xs (k + 1) else Cd.nl l (xs.getD k 0) :: Cd.endsR l xs (k + 1)
  else []
termination_by xs.length - k

theorem Cd.endsR_end (l : Int) (xs : List Int) (k : Nat) (h : ¬ k < xs.length) : Cd.endsR l xs k = [] := by rw [Cd.endsR, dif_neg h]
theorem Cd.endsR_skip (l : Int) (xs : List Int) (k : Nat) (h : k < xs.length) (h1 : l ≠ 0) (p r : Int) (hk : 0 < k) (hp : xs.getD (k - 1) 0 = p) (hr : xs.getD k 0 = r) (hp2 : p = 13) (hr2 : r = 10 ∨ r = 133) : Cd.endsR l xs k = Cd.endsR l xs (k + 1) := by
  rw [Cd.endsR, dif_pos h, if_pos ⟨h1, hk, hp.trans hp2, by rw [hr]; exact hr2⟩]
theorem Cd.endsR_put (l : Int) (xs : List Int) (k : Nat) (h : k < xs.length) (p r : Int) (hp : 0 < k → xs.getD (k - 1) 0 = p) (hr : xs.getD k 0 = r) (hs : l = 0 ∨ k = 0 ∨ p ≠ 13 ∨ (r ≠ 10 ∧ r ≠ 133)) : Cd.endsR l xs k = Cd.nl l r :: Cd.endsR l xs (k + 1) := by
  rw [Cd.endsR, dif_pos h, if_neg ?_, hr]
  rintro ⟨h1, h2, h3, h4⟩
  rw [hp h2] at h3
  rw [hr] at h4
  omega

set_option maxHeartbeats 8000000 in
set_option maxRecDepth 1000000 in
theorem Cd.endsRef_some (l : Int) (b off cap : Nat) (xs : List Int) (w : World) (hlen : xs.length ≤ 1099511627776) (hb : b < w.heap.size) (hc : ∀ i, i < xs.length → w.cell? ⟨b, off + i, none⟩ = some (.int .i32 (xs.getD i 0))) :
    Calls Tryd.prog 30 #[.int .i64 l, .slice (some ⟨b, off, none⟩) xs.length cap] w fun x w' => ∃ v', x = .returned v' ∧ Sl.IntsAt .i32 w' v' (Cd.endsR l xs 0) ∧ Below w.heap.size w w' := by
  obtain ⟨i0, hi, hz0, hz1, hz2⟩ := info_parts Cd.infoRune3
  have HC := Lib.hid hc; clear hc
  go_enter Tryd.func30, Tryd.ntmps30
  go_wp2
  go_loopw [5, 6] (fun v i wr => ∃ (k : Nat) (acc : List Int), k ≤ xs.length ∧ i = .int .i64 k ∧ wr.ownsRow w.heap.size 21 1 v acc.length (acc.map (Value.int .i32)) ∧ Below w.heap.size w wr ∧ acc ++ Cd.endsR l xs k = Cd.endsR l xs 0 ∧ acc.length ≤ k) (fun _ i _ => xs.length - (intOf i).toNat)
  case atStart => exact ⟨0, [], Nat.zero_le _, rfl, Sl.own_empty w 21, (Below.refl _ _).alloc (Nat.le_refl _) _, by simp, by simp⟩
  case round =>
    obtain ⟨k, acc, hk, rfl, hown, hbw, hacc, hal⟩ := hrel
    have HACC := Lib.hid hacc; clear hacc
    have HAL := Lib.hid hal
    have hsw := hbw.size
    by_cases hlt : k < xs.length
    · have c0 := (hbw.cell (p := ⟨b, off + k, none⟩) hb).trans (HC.out k hlt)
      have HL1 := Lib.hid (Cd.endsR_skip l xs k hlt)
      have HL2 := Lib.hid (Cd.endsR_put l xs k hlt)
      obtain ⟨r, hr⟩ : ∃ r, xs.getD k 0 = r := ⟨_, rfl⟩
      rw [hr] at c0
      have HRR := Lib.hid hr; clear hr
      obtain ⟨p, hp⟩ : ∃ p, 0 < k → xs.getD (k - 1) 0 = p := ⟨_, fun _ => rfl⟩
      have HPP := Lib.hid hp; clear hp
      by_cases hl : l = 0
      · subst hl
        have hlb : ((0 : Int) != 0) = false := rfl
        rcases Nat.eq_zero_or_pos k with rfl | hk0
        · have c00 : wr.cell? ⟨b, off, none⟩ = some (.int .i32 r) := c0
          clear c0
          skip
          have hnl : Cd.nl 0 (r) = r := by unfold Cd.nl; first | rw [if_pos (by omega)] | rw [if_neg (by omega)]
          have hst := HL2.out (p) (r) HPP.out HRR.out (by omega)
          rw [hnl] at hst
          have HST := Lib.hid hst; clear hst hnl HL1 HL2 HRR HPP
          go_wp2_with (at_builtin; refine wpList_append_own _ rfl _ _ 47 rfl w.heap.size 21 i0 (.int .i32 0) 1 4 Tryd.underlying47 hi hz0 hz1 hz2 rfl (by decide) _ _ _ rfl (hown.alloc _) ⟨wr.heap.size, 0, none⟩ 1 1 [.int .i32 (r)] rfl rfl (Sl.one_new _ _ _) ?c2 ?c3 ?c4 ?c5 ?_)
          case c2 => first | rfl | (intro u hu; simp at hu; subst hu; rfl)
          case c3 => unfold maxLen; omega
          case c4 => omega
          case c5 => first | omega | (simp; omega)
          intro v' w1 hown' hgrow _
          have hbw3 := Sl.below_own (hbw.alloc (by omega) _) (hown.alloc _) hgrow (Nat.le_refl _) (by simp; omega)
          clear hown hgrow hbw
          go_wp2
          go_roundw
          case rel =>
            refine ⟨0 + 1, acc ++ [r], by omega, by first | rfl | (simp; try omega), by simpa using hown', hbw3, ?_, by have := HAL.out; rw [List.length_append]; show acc.length + 1 ≤ _; omega⟩
            rw [← HACC.out, HST.out, List.append_assoc]
            rfl
          case measure => simp [intOf]; omega
        · obtain ⟨j, rfl⟩ : ∃ j, k = j + 1 := ⟨k - 1, by omega⟩
          have cp := (hbw.cell (p := ⟨b, off + j, none⟩) hb).trans (HC.out j (by omega))
          rw [show xs.getD j 0 = p from HPP.out hk0] at cp
          rcases (show p ≠ 13 ∨ (p = 13 ∧ r = 10) ∨ (p = 13 ∧ r = 133) ∨ (p = 13 ∧ r ≠ 10 ∧ r ≠ 133) by omega) with hw | ⟨rfl, rfl⟩ | ⟨rfl, rfl⟩ | ⟨rfl, e1, e2⟩
          · have q0 : (p == 13) = false := by simp; omega

            have hnl : Cd.nl 0 (r) = r := by unfold Cd.nl; first | rw [if_pos (by omega)] | rw [if_neg (by omega)]
            have hst := HL2.out (p) (r) HPP.out HRR.out (by omega)
            rw [hnl] at hst
            have HST := Lib.hid hst; clear hst hnl HL1 HL2 HRR HPP
            go_wp2_with (at_builtin; refine wpList_append_own _ rfl _ _ 47 rfl w.heap.size 21 i0 (.int .i32 0) 1 4 Tryd.underlying47 hi hz0 hz1 hz2 rfl (by decide) _ _ _ rfl (hown.alloc _) ⟨wr.heap.size, 0, none⟩ 1 1 [.int .i32 (r)] rfl rfl (Sl.one_new _ _ _) ?c2 ?c3 ?c4 ?c5 ?_)
            case c2 => first | rfl | (intro u hu; simp at hu; subst hu; rfl)
            case c3 => unfold maxLen; omega
            case c4 => omega
            case c5 => first | omega | (simp; omega)
            intro v' w1 hown' hgrow _
            have hbw3 := Sl.below_own (hbw.alloc (by omega) _) (hown.alloc _) hgrow (Nat.le_refl _) (by simp; omega)
            clear hown hgrow hbw
            go_wp2
            go_roundw
            case rel =>
              refine ⟨(j + 1) + 1, acc ++ [r], by omega, by first | rfl | (simp; try omega), by simpa using hown', hbw3, ?_, by have := HAL.out; rw [List.length_append]; show acc.length + 1 ≤ _; omega⟩
              rw [← HACC.out, HST.out, List.append_assoc]
              rfl
            case measure => simp [intOf]; omega
          · skip
            have hnl : Cd.nl 0 (10) = 10 := by unfold Cd.nl; first | rw [if_pos (by omega)] | rw [if_neg (by omega)]
            have hst := HL2.out (13) (10) HPP.out HRR.out (by omega)
            rw [hnl] at hst
            have HST := Lib.hid hst; clear hst hnl HL1 HL2 HRR HPP
            go_wp2_with (at_builtin; refine wpList_append_own _ rfl _ _ 47 rfl w.heap.size 21 i0 (.int .i32 0) 1 4 Tryd.underlying47 hi hz0 hz1 hz2 rfl (by decide) _ _ _ rfl (hown.alloc _) ⟨wr.heap.size, 0, none⟩ 1 1 [.int .i32 (10)] rfl rfl (Sl.one_new _ _ _) ?c2 ?c3 ?c4 ?c5 ?_)
            case c2 => first | rfl | (intro u hu; simp at hu; subst hu; rfl)
            case c3 => unfold maxLen; omega
            case c4 => omega
            case c5 => first | omega | (simp; omega)
            intro v' w1 hown' hgrow _
            have hbw3 := Sl.below_own (hbw.alloc (by omega) _) (hown.alloc _) hgrow (Nat.le_refl _) (by simp; omega)
            clear hown hgrow hbw
            go_wp2
            go_roundw
            case rel =>
              refine ⟨(j + 1) + 1, acc ++ [10], by omega, by first | rfl | (simp; try omega), by simpa using hown', hbw3, ?_, by have := HAL.out; rw [List.length_append]; show acc.length + 1 ≤ _; omega⟩
              rw [← HACC.out, HST.out, List.append_assoc]
              rfl
            case measure => simp [intOf]; omega
          · skip
            have hnl : Cd.nl 0 (133) = 133 := by unfold Cd.nl; first | rw [if_pos (by omega)] | rw [if_neg (by omega)]
            have hst := HL2.out (13) (133) HPP.out HRR.out (by omega)
            rw [hnl] at hst
            have HST := Lib.hid hst; clear hst hnl HL1 HL2 HRR HPP
            go_wp2_with (at_builtin; refine wpList_append_own _ rfl _ _ 47 rfl w.heap.size 21 i0 (.int .i32 0) 1 4 Tryd.underlying47 hi hz0 hz1 hz2 rfl (by decide) _ _ _ rfl (hown.alloc _) ⟨wr.heap.size, 0, none⟩ 1 1 [.int .i32 (133)] rfl rfl (Sl.one_new _ _ _) ?c2 ?c3 ?c4 ?c5 ?_)
            case c2 => first | rfl | (intro u hu; simp at hu; subst hu; rfl)
            case c3 => unfold maxLen; omega
            case c4 => omega
            case c5 => first | omega | (simp; omega)
            intro v' w1 hown' hgrow _
            have hbw3 := Sl.below_own (hbw.alloc (by omega) _) (hown.alloc _) hgrow (Nat.le_refl _) (by simp; omega)
            clear hown hgrow hbw
            go_wp2
            go_roundw
            case rel =>
              refine ⟨(j + 1) + 1, acc ++ [133], by omega, by first | rfl | (simp; try omega), by simpa using hown', hbw3, ?_, by have := HAL.out; rw [List.length_append]; show acc.length + 1 ≤ _; omega⟩
              rw [← HACC.out, HST.out, List.append_assoc]
              rfl
            case measure => simp [intOf]; omega
          · have q1 : (r == 10) = false := by simp; omega
            have q2 : (r == 133) = false := by simp; omega

            have hnl : Cd.nl 0 (r) = r := by unfold Cd.nl; first | rw [if_pos (by omega)] | rw [if_neg (by omega)]
            have hst := HL2.out (13) (r) HPP.out HRR.out (by omega)
            rw [hnl] at hst
            have HST := Lib.hid hst; clear hst hnl HL1 HL2 HRR HPP
            go_wp2_with (at_builtin; refine wpList_append_own _ rfl _ _ 47 rfl w.heap.size 21 i0 (.int .i32 0) 1 4 Tryd.underlying47 hi hz0 hz1 hz2 rfl (by decide) _ _ _ rfl (hown.alloc _) ⟨wr.heap.size, 0, none⟩ 1 1 [.int .i32 (r)] rfl rfl (Sl.one_new _ _ _) ?c2 ?c3 ?c4 ?c5 ?_)
            case c2 => first | rfl | (intro u hu; simp at hu; subst hu; rfl)
            case c3 => unfold maxLen; omega
            case c4 => omega
            case c5 => first | omega | (simp; omega)
            intro v' w1 hown' hgrow _
            have hbw3 := Sl.below_own (hbw.alloc (by omega) _) (hown.alloc _) hgrow (Nat.le_refl _) (by simp; omega)
            clear hown hgrow hbw
            go_wp2
            go_roundw
            case rel =>
              refine ⟨(j + 1) + 1, acc ++ [r], by omega, by first | rfl | (simp; try omega), by simpa using hown', hbw3, ?_, by have := HAL.out; rw [List.length_append]; show acc.length + 1 ≤ _; omega⟩
              rw [← HACC.out, HST.out, List.append_assoc]
              rfl
            case measure => simp [intOf]; omega
      · have hlb : (l != 0) = true := by simp [hl]
        rcases Nat.eq_zero_or_pos k with rfl | hk0
        · have c00 : wr.cell? ⟨b, off, none⟩ = some (.int .i32 r) := c0
          clear c0
          rcases (show r = 13 ∨ r = 133 ∨ r = 8232 ∨ (r ≠ 13 ∧ r ≠ 133 ∧ r ≠ 8232) by omega) with rfl | rfl | rfl | ⟨e1, e2, e3⟩
          · skip
            have hnl : Cd.nl l (13) = 10 := by unfold Cd.nl; first | rw [if_pos (by omega)] | rw [if_neg (by omega)]
            have hst := HL2.out (p) (13) HPP.out HRR.out (by omega)
            rw [hnl] at hst
            have HST := Lib.hid hst; clear hst hnl HL1 HL2 HRR HPP
            go_wp2_with (at_builtin; refine wpList_append_own _ rfl _ _ 47 rfl w.heap.size 21 i0 (.int .i32 0) 1 4 Tryd.underlying47 hi hz0 hz1 hz2 rfl (by decide) _ _ _ rfl (hown.alloc _) ⟨wr.heap.size, 0, none⟩ 1 1 [.int .i32 (10)] rfl rfl (Sl.one_new _ _ _) ?c2 ?c3 ?c4 ?c5 ?_)
            case c2 => first | rfl | (intro u hu; simp at hu; subst hu; rfl)
            case c3 => unfold maxLen; omega
            case c4 => omega
            case c5 => first | omega | (simp; omega)
            intro v' w1 hown' hgrow _
            have hbw3 := Sl.below_own (hbw.alloc (by omega) _) (hown.alloc _) hgrow (Nat.le_refl _) (by simp; omega)
            clear hown hgrow hbw
            go_wp2
            go_roundw
            case rel =>
              refine ⟨0 + 1, acc ++ [10], by omega, by first | rfl | (simp; try omega), by simpa using hown', hbw3, ?_, by have := HAL.out; rw [List.length_append]; show acc.length + 1 ≤ _; omega⟩
              rw [← HACC.out, HST.out, List.append_assoc]
              rfl
            case measure => simp [intOf]; omega
          · skip
            have hnl : Cd.nl l (133) = 10 := by unfold Cd.nl; first | rw [if_pos (by omega)] | rw [if_neg (by omega)]
            have hst := HL2.out (p) (133) HPP.out HRR.out (by omega)
            rw [hnl] at hst
            have HST := Lib.hid hst; clear hst hnl HL1 HL2 HRR HPP
            go_wp2_with (at_builtin; refine wpList_append_own _ rfl _ _ 47 rfl w.heap.size 21 i0 (.int .i32 0) 1 4 Tryd.underlying47 hi hz0 hz1 hz2 rfl (by decide) _ _ _ rfl (hown.alloc _) ⟨wr.heap.size, 0, none⟩ 1 1 [.int .i32 (10)] rfl rfl (Sl.one_new _ _ _) ?c2 ?c3 ?c4 ?c5 ?_)
            case c2 => first | rfl | (intro u hu; simp at hu; subst hu; rfl)
            case c3 => unfold maxLen; omega
            case c4 => omega
            case c5 => first | omega | (simp; omega)
            intro v' w1 hown' hgrow _
            have hbw3 := Sl.below_own (hbw.alloc (by omega) _) (hown.alloc _) hgrow (Nat.le_refl _) (by simp; omega)
            clear hown hgrow hbw
            go_wp2
            go_roundw
            case rel =>
              refine ⟨0 + 1, acc ++ [10], by omega, by first | rfl | (simp; try omega), by simpa using hown', hbw3, ?_, by have := HAL.out; rw [List.length_append]; show acc.length + 1 ≤ _; omega⟩
              rw [← HACC.out, HST.out, List.append_assoc]
              rfl
            case measure => simp [intOf]; omega
          · skip
            have hnl : Cd.nl l (8232) = 10 := by unfold Cd.nl; first | rw [if_pos (by omega)] | rw [if_neg (by omega)]
            have hst := HL2.out (p) (8232) HPP.out HRR.out (by omega)
            rw [hnl] at hst
            have HST := Lib.hid hst; clear hst hnl HL1 HL2 HRR HPP
            go_wp2_with (at_builtin; refine wpList_append_own _ rfl _ _ 47 rfl w.heap.size 21 i0 (.int .i32 0) 1 4 Tryd.underlying47 hi hz0 hz1 hz2 rfl (by decide) _ _ _ rfl (hown.alloc _) ⟨wr.heap.size, 0, none⟩ 1 1 [.int .i32 (10)] rfl rfl (Sl.one_new _ _ _) ?c2 ?c3 ?c4 ?c5 ?_)
            case c2 => first | rfl | (intro u hu; simp at hu; subst hu; rfl)
            case c3 => unfold maxLen; omega
            case c4 => omega
            case c5 => first | omega | (simp; omega)
            intro v' w1 hown' hgrow _
            have hbw3 := Sl.below_own (hbw.alloc (by omega) _) (hown.alloc _) hgrow (Nat.le_refl _) (by simp; omega)
            clear hown hgrow hbw
            go_wp2
            go_roundw
            case rel =>
              refine ⟨0 + 1, acc ++ [10], by omega, by first | rfl | (simp; try omega), by simpa using hown', hbw3, ?_, by have := HAL.out; rw [List.length_append]; show acc.length + 1 ≤ _; omega⟩
              rw [← HACC.out, HST.out, List.append_assoc]
              rfl
            case measure => simp [intOf]; omega
          · have q2 : (r == 133) = false := by simp; omega
            have q3 : (r == 13) = false := by simp; omega
            have q4 : (r == 8232) = false := by simp; omega

            have hnl : Cd.nl l (r) = r := by unfold Cd.nl; first | rw [if_pos (by omega)] | rw [if_neg (by omega)]
            have hst := HL2.out (p) (r) HPP.out HRR.out (by omega)
            rw [hnl] at hst
            have HST := Lib.hid hst; clear hst hnl HL1 HL2 HRR HPP
            go_wp2_with (at_builtin; refine wpList_append_own _ rfl _ _ 47 rfl w.heap.size 21 i0 (.int .i32 0) 1 4 Tryd.underlying47 hi hz0 hz1 hz2 rfl (by decide) _ _ _ rfl (hown.alloc _) ⟨wr.heap.size, 0, none⟩ 1 1 [.int .i32 (r)] rfl rfl (Sl.one_new _ _ _) ?c2 ?c3 ?c4 ?c5 ?_)
            case c2 => first | rfl | (intro u hu; simp at hu; subst hu; rfl)
            case c3 => unfold maxLen; omega
            case c4 => omega
            case c5 => first | omega | (simp; omega)
            intro v' w1 hown' hgrow _
            have hbw3 := Sl.below_own (hbw.alloc (by omega) _) (hown.alloc _) hgrow (Nat.le_refl _) (by simp; omega)
            clear hown hgrow hbw
            go_wp2
            go_roundw
            case rel =>
              refine ⟨0 + 1, acc ++ [r], by omega, by first | rfl | (simp; try omega), by simpa using hown', hbw3, ?_, by have := HAL.out; rw [List.length_append]; show acc.length + 1 ≤ _; omega⟩
              rw [← HACC.out, HST.out, List.append_assoc]
              rfl
            case measure => simp [intOf]; omega
        · obtain ⟨j, rfl⟩ : ∃ j, k = j + 1 := ⟨k - 1, by omega⟩
          have cp := (hbw.cell (p := ⟨b, off + j, none⟩) hb).trans (HC.out j (by omega))
          rw [show xs.getD j 0 = p from HPP.out hk0] at cp
          by_cases hp13 : p = 13
          · subst hp13
            have HPPE := HPP.out hk0
            rcases (show r = 10 ∨ r = 133 ∨ r = 13 ∨ r = 8232 ∨ (r ≠ 10 ∧ r ≠ 133 ∧ r ≠ 13 ∧ r ≠ 8232) by omega) with rfl | rfl | rfl | rfl | ⟨e1, e2, e3, e4⟩
            · skip
              have hst := HL1.out hl 13 (10) (by omega) HPPE HRR.out rfl (by omega)
              have HST := Lib.hid hst; clear hst HL1 HL2 HRR HPP
              go_wp2
              go_roundw
              case rel =>
                refine ⟨j + 1 + 1, acc, by omega, by first | rfl | (simp; try omega), hown, hbw, ?_, by omega⟩
                rw [← HACC.out, HST.out]
              case measure => simp [intOf]; omega
            · skip
              have hst := HL1.out hl 13 (133) (by omega) HPPE HRR.out rfl (by omega)
              have HST := Lib.hid hst; clear hst HL1 HL2 HRR HPP
              go_wp2
              go_roundw
              case rel =>
                refine ⟨j + 1 + 1, acc, by omega, by first | rfl | (simp; try omega), hown, hbw, ?_, by omega⟩
                rw [← HACC.out, HST.out]
              case measure => simp [intOf]; omega
            · clear HPPE

              have hnl : Cd.nl l (13) = 10 := by unfold Cd.nl; first | rw [if_pos (by omega)] | rw [if_neg (by omega)]
              have hst := HL2.out (13) (13) HPP.out HRR.out (by omega)
              rw [hnl] at hst
              have HST := Lib.hid hst; clear hst hnl HL1 HL2 HRR HPP
              go_wp2_with (at_builtin; refine wpList_append_own _ rfl _ _ 47 rfl w.heap.size 21 i0 (.int .i32 0) 1 4 Tryd.underlying47 hi hz0 hz1 hz2 rfl (by decide) _ _ _ rfl (hown.alloc _) ⟨wr.heap.size, 0, none⟩ 1 1 [.int .i32 (10)] rfl rfl (Sl.one_new _ _ _) ?c2 ?c3 ?c4 ?c5 ?_)
              case c2 => first | rfl | (intro u hu; simp at hu; subst hu; rfl)
              case c3 => unfold maxLen; omega
              case c4 => omega
              case c5 => first | omega | (simp; omega)
              intro v' w1 hown' hgrow _
              have hbw3 := Sl.below_own (hbw.alloc (by omega) _) (hown.alloc _) hgrow (Nat.le_refl _) (by simp; omega)
              clear hown hgrow hbw
              go_wp2
              go_roundw
              case rel =>
                refine ⟨(j + 1) + 1, acc ++ [10], by omega, by first | rfl | (simp; try omega), by simpa using hown', hbw3, ?_, by have := HAL.out; rw [List.length_append]; show acc.length + 1 ≤ _; omega⟩
                rw [← HACC.out, HST.out, List.append_assoc]
                rfl
              case measure => simp [intOf]; omega
            · clear HPPE

              have hnl : Cd.nl l (8232) = 10 := by unfold Cd.nl; first | rw [if_pos (by omega)] | rw [if_neg (by omega)]
              have hst := HL2.out (13) (8232) HPP.out HRR.out (by omega)
              rw [hnl] at hst
              have HST := Lib.hid hst; clear hst hnl HL1 HL2 HRR HPP
              go_wp2_with (at_builtin; refine wpList_append_own _ rfl _ _ 47 rfl w.heap.size 21 i0 (.int .i32 0) 1 4 Tryd.underlying47 hi hz0 hz1 hz2 rfl (by decide) _ _ _ rfl (hown.alloc _) ⟨wr.heap.size, 0, none⟩ 1 1 [.int .i32 (10)] rfl rfl (Sl.one_new _ _ _) ?c2 ?c3 ?c4 ?c5 ?_)
              case c2 => first | rfl | (intro u hu; simp at hu; subst hu; rfl)
              case c3 => unfold maxLen; omega
              case c4 => omega
              case c5 => first | omega | (simp; omega)
              intro v' w1 hown' hgrow _
              have hbw3 := Sl.below_own (hbw.alloc (by omega) _) (hown.alloc _) hgrow (Nat.le_refl _) (by simp; omega)
              clear hown hgrow hbw
              go_wp2
              go_roundw
              case rel =>
                refine ⟨(j + 1) + 1, acc ++ [10], by omega, by first | rfl | (simp; try omega), by simpa using hown', hbw3, ?_, by have := HAL.out; rw [List.length_append]; show acc.length + 1 ≤ _; omega⟩
                rw [← HACC.out, HST.out, List.append_assoc]
                rfl
              case measure => simp [intOf]; omega
            · clear HPPE
              have q1 : (r == 10) = false := by simp; omega
              have q2 : (r == 133) = false := by simp; omega
              have q3 : (r == 13) = false := by simp; omega
              have q4 : (r == 8232) = false := by simp; omega

              have hnl : Cd.nl l (r) = r := by unfold Cd.nl; first | rw [if_pos (by omega)] | rw [if_neg (by omega)]
              have hst := HL2.out (13) (r) HPP.out HRR.out (by omega)
              rw [hnl] at hst
              have HST := Lib.hid hst; clear hst hnl HL1 HL2 HRR HPP
              go_wp2_with (at_builtin; refine wpList_append_own _ rfl _ _ 47 rfl w.heap.size 21 i0 (.int .i32 0) 1 4 Tryd.underlying47 hi hz0 hz1 hz2 rfl (by decide) _ _ _ rfl (hown.alloc _) ⟨wr.heap.size, 0, none⟩ 1 1 [.int .i32 (r)] rfl rfl (Sl.one_new _ _ _) ?c2 ?c3 ?c4 ?c5 ?_)
              case c2 => first | rfl | (intro u hu; simp at hu; subst hu; rfl)
              case c3 => unfold maxLen; omega
              case c4 => omega
              case c5 => first | omega | (simp; omega)
              intro v' w1 hown' hgrow _
              have hbw3 := Sl.below_own (hbw.alloc (by omega) _) (hown.alloc _) hgrow (Nat.le_refl _) (by simp; omega)
              clear hown hgrow hbw
              go_wp2
              go_roundw
              case rel =>
                refine ⟨(j + 1) + 1, acc ++ [r], by omega, by first | rfl | (simp; try omega), by simpa using hown', hbw3, ?_, by have := HAL.out; rw [List.length_append]; show acc.length + 1 ≤ _; omega⟩
                rw [← HACC.out, HST.out, List.append_assoc]
                rfl
              case measure => simp [intOf]; omega
          · have q0 : (p == 13) = false := by simp; omega
            rcases (show r = 13 ∨ r = 133 ∨ r = 8232 ∨ (r ≠ 13 ∧ r ≠ 133 ∧ r ≠ 8232) by omega) with rfl | rfl | rfl | ⟨e1, e2, e3⟩
            · skip
              have hnl : Cd.nl l (13) = 10 := by unfold Cd.nl; first | rw [if_pos (by omega)] | rw [if_neg (by omega)]
              have hst := HL2.out (p) (13) HPP.out HRR.out (by omega)
              rw [hnl] at hst
              have HST := Lib.hid hst; clear hst hnl HL1 HL2 HRR HPP
              go_wp2_with (at_builtin; refine wpList_append_own _ rfl _ _ 47 rfl w.heap.size 21 i0 (.int .i32 0) 1 4 Tryd.underlying47 hi hz0 hz1 hz2 rfl (by decide) _ _ _ rfl (hown.alloc _) ⟨wr.heap.size, 0, none⟩ 1 1 [.int .i32 (10)] rfl rfl (Sl.one_new _ _ _) ?c2 ?c3 ?c4 ?c5 ?_)
              case c2 => first | rfl | (intro u hu; simp at hu; subst hu; rfl)
              case c3 => unfold maxLen; omega
              case c4 => omega
              case c5 => first | omega | (simp; omega)
              intro v' w1 hown' hgrow _
              have hbw3 := Sl.below_own (hbw.alloc (by omega) _) (hown.alloc _) hgrow (Nat.le_refl _) (by simp; omega)
              clear hown hgrow hbw
              go_wp2
              go_roundw
              case rel =>
                refine ⟨(j + 1) + 1, acc ++ [10], by omega, by first | rfl | (simp; try omega), by simpa using hown', hbw3, ?_, by have := HAL.out; rw [List.length_append]; show acc.length + 1 ≤ _; omega⟩
                rw [← HACC.out, HST.out, List.append_assoc]
                rfl
              case measure => simp [intOf]; omega
            · skip
              have hnl : Cd.nl l (133) = 10 := by unfold Cd.nl; first | rw [if_pos (by omega)] | rw [if_neg (by omega)]
              have hst := HL2.out (p) (133) HPP.out HRR.out (by omega)
              rw [hnl] at hst
              have HST := Lib.hid hst; clear hst hnl HL1 HL2 HRR HPP
              go_wp2_with (at_builtin; refine wpList_append_own _ rfl _ _ 47 rfl w.heap.size 21 i0 (.int .i32 0) 1 4 Tryd.underlying47 hi hz0 hz1 hz2 rfl (by decide) _ _ _ rfl (hown.alloc _) ⟨wr.heap.size, 0, none⟩ 1 1 [.int .i32 (10)] rfl rfl (Sl.one_new _ _ _) ?c2 ?c3 ?c4 ?c5 ?_)
              case c2 => first | rfl | (intro u hu; simp at hu; subst hu; rfl)
              case c3 => unfold maxLen; omega
              case c4 => omega
              case c5 => first | omega | (simp; omega)
              intro v' w1 hown' hgrow _
              have hbw3 := Sl.below_own (hbw.alloc (by omega) _) (hown.alloc _) hgrow (Nat.le_refl _) (by simp; omega)
              clear hown hgrow hbw
              go_wp2
              go_roundw
              case rel =>
                refine ⟨(j + 1) + 1, acc ++ [10], by omega, by first | rfl | (simp; try omega), by simpa using hown', hbw3, ?_, by have := HAL.out; rw [List.length_append]; show acc.length + 1 ≤ _; omega⟩
                rw [← HACC.out, HST.out, List.append_assoc]
                rfl
              case measure => simp [intOf]; omega
            · skip
              have hnl : Cd.nl l (8232) = 10 := by unfold Cd.nl; first | rw [if_pos (by omega)] | rw [if_neg (by omega)]
              have hst := HL2.out (p) (8232) HPP.out HRR.out (by omega)
              rw [hnl] at hst
              have HST := Lib.hid hst; clear hst hnl HL1 HL2 HRR HPP
              go_wp2_with (at_builtin; refine wpList_append_own _ rfl _ _ 47 rfl w.heap.size 21 i0 (.int .i32 0) 1 4 Tryd.underlying47 hi hz0 hz1 hz2 rfl (by decide) _ _ _ rfl (hown.alloc _) ⟨wr.heap.size, 0, none⟩ 1 1 [.int .i32 (10)] rfl rfl (Sl.one_new _ _ _) ?c2 ?c3 ?c4 ?c5 ?_)
              case c2 => first | rfl | (intro u hu; simp at hu; subst hu; rfl)
              case c3 => unfold maxLen; omega
              case c4 => omega
              case c5 => first | omega | (simp; omega)
              intro v' w1 hown' hgrow _
              have hbw3 := Sl.below_own (hbw.alloc (by omega) _) (hown.alloc _) hgrow (Nat.le_refl _) (by simp; omega)
              clear hown hgrow hbw
              go_wp2
              go_roundw
              case rel =>
                refine ⟨(j + 1) + 1, acc ++ [10], by omega, by first | rfl | (simp; try omega), by simpa using hown', hbw3, ?_, by have := HAL.out; rw [List.length_append]; show acc.length + 1 ≤ _; omega⟩
                rw [← HACC.out, HST.out, List.append_assoc]
                rfl
              case measure => simp [intOf]; omega
            · have q2 : (r == 133) = false := by simp; omega
              have q3 : (r == 13) = false := by simp; omega
              have q4 : (r == 8232) = false := by simp; omega

              have hnl : Cd.nl l (r) = r := by unfold Cd.nl; first | rw [if_pos (by omega)] | rw [if_neg (by omega)]
              have hst := HL2.out (p) (r) HPP.out HRR.out (by omega)
              rw [hnl] at hst
              have HST := Lib.hid hst; clear hst hnl HL1 HL2 HRR HPP
              go_wp2_with (at_builtin; refine wpList_append_own _ rfl _ _ 47 rfl w.heap.size 21 i0 (.int .i32 0) 1 4 Tryd.underlying47 hi hz0 hz1 hz2 rfl (by decide) _ _ _ rfl (hown.alloc _) ⟨wr.heap.size, 0, none⟩ 1 1 [.int .i32 (r)] rfl rfl (Sl.one_new _ _ _) ?c2 ?c3 ?c4 ?c5 ?_)
              case c2 => first | rfl | (intro u hu; simp at hu; subst hu; rfl)
              case c3 => unfold maxLen; omega
              case c4 => omega
              case c5 => first | omega | (simp; omega)
              intro v' w1 hown' hgrow _
              have hbw3 := Sl.below_own (hbw.alloc (by omega) _) (hown.alloc _) hgrow (Nat.le_refl _) (by simp; omega)
              clear hown hgrow hbw
              go_wp2
              go_roundw
              case rel =>
                refine ⟨(j + 1) + 1, acc ++ [r], by omega, by first | rfl | (simp; try omega), by simpa using hown', hbw3, ?_, by have := HAL.out; rw [List.length_append]; show acc.length + 1 ≤ _; omega⟩
                rw [← HACC.out, HST.out, List.append_assoc]
                rfl
              case measure => simp [intOf]; omega
    · have hacc2 := HACC.out
      rw [Cd.endsR_end l xs k hlt, List.append_nil] at hacc2
      have HACC2 := Lib.hid hacc2; clear hacc2
      go_wp2
      go_ret
      rw [← HACC2.out]
      exact ⟨_, rfl, Sl.IntsAt.of_own hown, hbw⟩

theorem Cd.endsRef_nil (l : Int) (w : World) :
    Calls Tryd.prog 30 #[.int .i64 l, .slice none 0 0] w fun x w' => ∃ v', x = .returned v' ∧ Sl.IntsAt .i32 w' v' [] ∧ Below w.heap.size w w' := by
  go_enter Tryd.func30, Tryd.ntmps30
  go_wp2
  refine wp_loop_rounds 1 ?_
  rw [rounds_succ]
  go_wp2
  go_ret
  exact ⟨_, rfl, Sl.IntsAt.of_own (Sl.own_empty w 21), (Below.refl _ _).alloc (Nat.le_refl _) _⟩
theorem Cd.endsRef_any (l : Int) (v : Value) (xs : List Int) (w : World) (hlen : xs.length ≤ 1099511627776) (hv : Sl.IntsAt .i32 w v xs) :
    Calls Tryd.prog 30 #[.int .i64 l, v] w fun x w' => ∃ v', x = .returned v' ∧ Sl.IntsAt .i32 w' v' (Cd.endsR l xs 0) ∧ Below w.heap.size w w' := by
  rcases hv with ⟨rfl, rfl⟩ | ⟨b, off, cap, rfl, hb, hc⟩
  · rw [Cd.endsR_end l [] 0 (by simp)]
    exact Cd.endsRef_nil l w
  · exact Cd.endsRef_some l b off cap xs w hlen hb hc
end Go.Proofs.YtdpbpkggbgfkgaaDoor
