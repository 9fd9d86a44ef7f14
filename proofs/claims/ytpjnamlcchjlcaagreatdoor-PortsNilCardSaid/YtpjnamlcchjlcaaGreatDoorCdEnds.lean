/-
  The walk of codec.ends: characters whose line ends are U+000A. Condition: at most 2^40 characters.
-/
import Derived.Test.YtpjnamlcchjlcaaGreatDoorProg
import Derived.Test.YtpjnamlcchjlcaaGreatDoorCdPlain
import Derived.Test.YtpjnamlcchjlcaaGreatDoorSl
import Derived.WalkKit
import Derived.WalkSpells
import Derived.WalkLawsBesides
import Derived.Handy
import Derived.BigCall
import Derived.Lib.Hide
namespace Go.Proofs.YtpjnamlcchjlcaaGreatDoor
open Go.RowKit

theorem Cd.infoRune2 : (Tryz.prog.info? 21).map (fun i => (i.zero, i.size, i.bytes)) = some (some (.int .i32 0), 1, 4) := by kernel_rfl

def Cd.endsI (xs : List Int) (k : Nat) : List Int :=
  if _h : k < xs.length then
    if xs.getD k 0 = 13 then (if k + 1 < xs.length ∧ (xs.getD (k + 1) 0 = 10 ∨ xs.getD (k + 1) 0 = 133) then 10 :: Cd.endsI xs (k + 1 + 1) else 10 :: Cd.endsI xs (k + 1))
    else if xs.getD k 0 = 133 ∨ xs.getD k 0 = 8232 then 10 :: Cd.endsI xs (k + 1) else xs.getD k 0 :: Cd.endsI xs (k + 1)
  else []
termination_by xs.length - k
def Cd.endsL (l : Int) (xs : List Int) : List Int := if l = 0 then xs else Cd.endsI xs 0

theorem Cd.endsI_end (xs : List Int) (k : Nat) (h : ¬ k < xs.length) : Cd.endsI xs k = [] := by rw [Cd.endsI, dif_neg h]
theorem Cd.endsI_two (xs : List Int) (k : Nat) (h : k < xs.length) (r q : Int) (hr : xs.getD k 0 = r) (hq : xs.getD (k + 1) 0 = q) (h1 : r = 13) (h2 : k + 1 < xs.length) (h3 : q = 10 ∨ q = 133) : Cd.endsI xs k = 10 :: Cd.endsI xs (k + 1 + 1) := by
  rw [Cd.endsI, dif_pos h, if_pos (by rw [hr]; exact h1), if_pos (by rw [hq]; exact ⟨h2, h3⟩)]
theorem Cd.endsI_cr (xs : List Int) (k : Nat) (h : k < xs.length) (r q : Int) (hr : xs.getD k 0 = r) (hq : xs.getD (k + 1) 0 = q) (h1 : r = 13) (h2 : ¬ (k + 1 < xs.length ∧ (q = 10 ∨ q = 133))) : Cd.endsI xs k = 10 :: Cd.endsI xs (k + 1) := by
  rw [Cd.endsI, dif_pos h, if_pos (by rw [hr]; exact h1), if_neg (by rw [hq]; exact h2)]
theorem Cd.endsI_nl (xs : List Int) (k : Nat) (h : k < xs.length) (r : Int) (hr : xs.getD k 0 = r) (h1 : ¬ r = 13) (h2 : r = 133 ∨ r = 8232) : Cd.endsI xs k = 10 :: Cd.endsI xs (k + 1) := by
  rw [Cd.endsI, dif_pos h, if_neg (by rw [hr]; exact h1), if_pos (by rw [hr]; exact h2)]
theorem Cd.endsI_id (xs : List Int) (k : Nat) (h : k < xs.length) (r : Int) (hr : xs.getD k 0 = r) (h1 : ¬ r = 13) (h2 : ¬ (r = 133 ∨ r = 8232)) : Cd.endsI xs k = r :: Cd.endsI xs (k + 1) := by
  rw [Cd.endsI, dif_pos h, if_neg (by rw [hr]; exact h1), if_neg (by rw [hr]; exact h2), hr]

theorem Cd.ends_zero (v : Value) (xs : List Int) (w : World) (hv : Sl.IntsAt .i32 w v xs) :
    Calls Tryz.prog 33 #[.int .i64 0, v] w fun x w' => ∃ v', x = .returned v' ∧ Sl.IntsAt .i32 w' v' xs ∧ Below w.heap.size w w' := by
  have HV := Lib.hid hv; clear hv
  go_enter Tryz.func33, Tryz.ntmps33
  go_wp2
  go_ret
  exact ⟨_, rfl, HV.out, Below.refl _ _⟩
theorem Cd.ends_nil (l : Int) (hl : l ≠ 0) (w : World) :
    Calls Tryz.prog 33 #[.int .i64 l, .slice none 0 0] w fun x w' => ∃ v', x = .returned v' ∧ Sl.IntsAt .i32 w' v' [] ∧ Below w.heap.size w w' := by
  go_enter Tryz.func33, Tryz.ntmps33
  go_wp2
  refine wp_loop_rounds 1 ?_
  rw [rounds_succ]
  go_wp2
  go_ret
  exact ⟨_, rfl, .inl ⟨rfl, rfl⟩, Below.refl _ _⟩

set_option maxHeartbeats 4000000 in
set_option maxRecDepth 1000000 in
theorem Cd.ends_some (l : Int) (hl : l ≠ 0) (b off cap : Nat) (xs : List Int) (w : World) (hlen : xs.length ≤ 1099511627776) (hb : b < w.heap.size) (hc : ∀ i, i < xs.length → w.cell? ⟨b, off + i, none⟩ = some (.int .i32 (xs.getD i 0))) :
    Calls Tryz.prog 33 #[.int .i64 l, .slice (some ⟨b, off, none⟩) xs.length cap] w fun x w' => ∃ v', x = .returned v' ∧ Sl.IntsAt .i32 w' v' (Cd.endsI xs 0) ∧ Below w.heap.size w w' := by
  obtain ⟨i0, hi, hz0, hz1, hz2⟩ := info_parts Cd.infoRune2
  have hlb : (l == 0) = false := by simp [hl]
  have HC := Lib.hid hc; clear hc
  go_enter Tryz.func33, Tryz.ntmps33
  go_wp2
  go_loopw [5, 6] (fun v i wr => ∃ (k : Nat) (acc : List Int), k ≤ xs.length + 1 ∧ i = .int .i64 k ∧ wr.ownsRow w.heap.size 21 1 v acc.length (acc.map (Value.int .i32)) ∧ Below w.heap.size w wr ∧ acc ++ Cd.endsI xs k = Cd.endsI xs 0 ∧ acc.length ≤ k) (fun _ i _ => xs.length + 1 - (intOf i).toNat)
  case atStart => exact ⟨0, [], Nat.zero_le _, rfl, ⟨by simp, .inl ⟨rfl, rfl⟩⟩, Below.refl _ _, by simp, by simp⟩
  case round =>
    obtain ⟨k, acc, hk, rfl, hown, hbw, hacc, hal⟩ := hrel
    have HACC := Lib.hid hacc; clear hacc
    have hsw := hbw.size
    by_cases hlt : k < xs.length
    · have c0 := (hbw.cell (p := ⟨b, off + k, none⟩) hb).trans (HC.out k hlt)
      have HL1 := Lib.hid (Cd.endsI_two xs k hlt)
      have HL2 := Lib.hid (Cd.endsI_cr xs k hlt)
      have HL3 := Lib.hid (Cd.endsI_nl xs k hlt)
      have HL4 := Lib.hid (Cd.endsI_id xs k hlt)
      obtain ⟨r, hr⟩ : ∃ r, xs.getD k 0 = r := ⟨_, rfl⟩
      obtain ⟨q, hq⟩ : ∃ q, xs.getD (k + 1) 0 = q := ⟨_, rfl⟩
      rw [hr] at c0
      have HRR := Lib.hid hr; clear hr
      by_cases hlt2 : k + 1 < xs.length
      · have c1 := (hbw.cell (p := ⟨b, off + (k + 1), none⟩) hb).trans (HC.out (k + 1) hlt2)
        rw [hq] at c1
        have HQQ := Lib.hid hq; clear hq
        rcases (show (r = 13 ∧ q = 10) ∨ (r = 13 ∧ q = 133) ∨ (r = 13 ∧ q ≠ 10 ∧ q ≠ 133) ∨ r = 133 ∨ r = 8232 ∨ (r ≠ 13 ∧ r ≠ 133 ∧ r ≠ 8232) by omega) with hw | hw | hw | hw | hw | hw
        · obtain ⟨rfl, rfl⟩ := hw
          have HST := Lib.hid (HL1.out _ _ HRR.out HQQ.out rfl hlt2 (.inl rfl)); clear HL1 HL2 HL3 HL4 HRR HQQ
          go_wp2_with (at_builtin; refine wpList_append_own _ rfl _ _ 84 rfl w.heap.size 21 i0 (.int .i32 0) 1 4 Tryz.underlying84 hi hz0 hz1 hz2 rfl (by decide) _ _ _ rfl (hown.alloc _) ⟨wr.heap.size, 0, none⟩ 1 1 [.int .i32 10] rfl rfl (Sl.one_new _ _ _) ?c2 ?c3 ?c4 ?c5 ?_)
          case c2 => first | rfl | (intro u hu; simp at hu; subst hu; rfl)
          case c3 => unfold maxLen; omega
          case c4 => omega
          case c5 => first | omega | (simp; omega)
          intro v' w1 hown' hgrow _
          have hbw3 := Sl.below_own (hbw.alloc (by omega) _) (hown.alloc _) hgrow (Nat.le_refl _) (by simp; omega)
          clear hown hgrow hbw
          go_wp2
          go_roundw
          case rel =>
            refine ⟨k + 1 + 1, acc ++ [10], by omega, by first | rfl | (simp; try omega), by simpa using hown', hbw3, ?_, by simp; omega⟩
            rw [← HACC.out, HST.out, List.append_assoc]
            rfl
          case measure => simp [intOf]; omega
        · obtain ⟨rfl, rfl⟩ := hw
          have HST := Lib.hid (HL1.out _ _ HRR.out HQQ.out rfl hlt2 (.inr rfl)); clear HL1 HL2 HL3 HL4 HRR HQQ
          go_wp2_with (at_builtin; refine wpList_append_own _ rfl _ _ 84 rfl w.heap.size 21 i0 (.int .i32 0) 1 4 Tryz.underlying84 hi hz0 hz1 hz2 rfl (by decide) _ _ _ rfl (hown.alloc _) ⟨wr.heap.size, 0, none⟩ 1 1 [.int .i32 10] rfl rfl (Sl.one_new _ _ _) ?c2 ?c3 ?c4 ?c5 ?_)
          case c2 => first | rfl | (intro u hu; simp at hu; subst hu; rfl)
          case c3 => unfold maxLen; omega
          case c4 => omega
          case c5 => first | omega | (simp; omega)
          intro v' w1 hown' hgrow _
          have hbw3 := Sl.below_own (hbw.alloc (by omega) _) (hown.alloc _) hgrow (Nat.le_refl _) (by simp; omega)
          clear hown hgrow hbw
          go_wp2
          go_roundw
          case rel =>
            refine ⟨k + 1 + 1, acc ++ [10], by omega, by first | rfl | (simp; try omega), by simpa using hown', hbw3, ?_, by simp; omega⟩
            rw [← HACC.out, HST.out, List.append_assoc]
            rfl
          case measure => simp [intOf]; omega
        · obtain ⟨rfl, q1, q2⟩ := hw
          have HST := Lib.hid (HL2.out _ _ HRR.out HQQ.out rfl (fun h => h.2.elim q1 q2)); clear HL1 HL2 HL3 HL4 HRR HQQ
          have q3 : (q == 10) = false := by simp [q1]
          have q4 : (q == 133) = false := by simp [q2]
          go_wp2_with (at_builtin; refine wpList_append_own _ rfl _ _ 84 rfl w.heap.size 21 i0 (.int .i32 0) 1 4 Tryz.underlying84 hi hz0 hz1 hz2 rfl (by decide) _ _ _ rfl (hown.alloc _) ⟨wr.heap.size, 0, none⟩ 1 1 [.int .i32 10] rfl rfl (Sl.one_new _ _ _) ?c2 ?c3 ?c4 ?c5 ?_)
          case c2 => first | rfl | (intro u hu; simp at hu; subst hu; rfl)
          case c3 => unfold maxLen; omega
          case c4 => omega
          case c5 => first | omega | (simp; omega)
          intro v' w1 hown' hgrow _
          have hbw3 := Sl.below_own (hbw.alloc (by omega) _) (hown.alloc _) hgrow (Nat.le_refl _) (by simp; omega)
          clear hown hgrow hbw
          go_wp2
          go_roundw
          case rel =>
            refine ⟨k + 1, acc ++ [10], by omega, by first | rfl | (simp; try omega), by simpa using hown', hbw3, ?_, by simp; omega⟩
            rw [← HACC.out, HST.out, List.append_assoc]
            rfl
          case measure => simp [intOf]; omega
        · subst hw
          have HST := Lib.hid (HL3.out _ HRR.out (by decide) (.inl rfl)); clear HL1 HL2 HL3 HL4 HRR HQQ c1
          go_wp2_with (at_builtin; refine wpList_append_own _ rfl _ _ 84 rfl w.heap.size 21 i0 (.int .i32 0) 1 4 Tryz.underlying84 hi hz0 hz1 hz2 rfl (by decide) _ _ _ rfl (hown.alloc _) ⟨wr.heap.size, 0, none⟩ 1 1 [.int .i32 10] rfl rfl (Sl.one_new _ _ _) ?c2 ?c3 ?c4 ?c5 ?_)
          case c2 => first | rfl | (intro u hu; simp at hu; subst hu; rfl)
          case c3 => unfold maxLen; omega
          case c4 => omega
          case c5 => first | omega | (simp; omega)
          intro v' w1 hown' hgrow _
          have hbw3 := Sl.below_own (hbw.alloc (by omega) _) (hown.alloc _) hgrow (Nat.le_refl _) (by simp; omega)
          clear hown hgrow hbw
          go_wp2
          go_roundw
          case rel =>
            refine ⟨k + 1, acc ++ [10], by omega, by first | rfl | (simp; try omega), by simpa using hown', hbw3, ?_, by simp; omega⟩
            rw [← HACC.out, HST.out, List.append_assoc]
            rfl
          case measure => simp [intOf]; omega
        · subst hw
          have HST := Lib.hid (HL3.out _ HRR.out (by decide) (.inr rfl)); clear HL1 HL2 HL3 HL4 HRR HQQ c1
          go_wp2_with (at_builtin; refine wpList_append_own _ rfl _ _ 84 rfl w.heap.size 21 i0 (.int .i32 0) 1 4 Tryz.underlying84 hi hz0 hz1 hz2 rfl (by decide) _ _ _ rfl (hown.alloc _) ⟨wr.heap.size, 0, none⟩ 1 1 [.int .i32 10] rfl rfl (Sl.one_new _ _ _) ?c2 ?c3 ?c4 ?c5 ?_)
          case c2 => first | rfl | (intro u hu; simp at hu; subst hu; rfl)
          case c3 => unfold maxLen; omega
          case c4 => omega
          case c5 => first | omega | (simp; omega)
          intro v' w1 hown' hgrow _
          have hbw3 := Sl.below_own (hbw.alloc (by omega) _) (hown.alloc _) hgrow (Nat.le_refl _) (by simp; omega)
          clear hown hgrow hbw
          go_wp2
          go_roundw
          case rel =>
            refine ⟨k + 1, acc ++ [10], by omega, by first | rfl | (simp; try omega), by simpa using hown', hbw3, ?_, by simp; omega⟩
            rw [← HACC.out, HST.out, List.append_assoc]
            rfl
          case measure => simp [intOf]; omega
        · obtain ⟨r1, r2, r3⟩ := hw
          have HST := Lib.hid (HL4.out _ HRR.out r1 (fun h => h.elim r2 r3)); clear HL1 HL2 HL3 HL4 HRR HQQ c1
          go_wp2_with (at_builtin; refine wpList_append_own _ rfl _ _ 84 rfl w.heap.size 21 i0 (.int .i32 0) 1 4 Tryz.underlying84 hi hz0 hz1 hz2 rfl (by decide) _ _ _ rfl (hown.alloc _) ⟨wr.heap.size, 0, none⟩ 1 1 [.int .i32 r] rfl rfl (Sl.one_new _ _ _) ?c2 ?c3 ?c4 ?c5 ?_)
          case c2 => first | rfl | (intro u hu; simp at hu; subst hu; rfl)
          case c3 => unfold maxLen; omega
          case c4 => omega
          case c5 => first | omega | (simp; omega)
          intro v' w1 hown' hgrow _
          have hbw3 := Sl.below_own (hbw.alloc (by omega) _) (hown.alloc _) hgrow (Nat.le_refl _) (by simp; omega)
          clear hown hgrow hbw
          go_wp2
          go_roundw
          case rel =>
            refine ⟨k + 1, acc ++ [r], by omega, by first | rfl | (simp; try omega), by simpa using hown', hbw3, ?_, by simp; omega⟩
            rw [← HACC.out, HST.out, List.append_assoc]
            rfl
          case measure => simp [intOf]; omega
      · rcases (show r = 13 ∨ r = 133 ∨ r = 8232 ∨ (r ≠ 13 ∧ r ≠ 133 ∧ r ≠ 8232) by omega) with hw | hw | hw | hw
        · subst hw
          have HST := Lib.hid (HL2.out _ _ HRR.out hq rfl (fun h => hlt2 h.1)); clear HL1 HL2 HL3 HL4 HRR hq
          go_wp2_with (at_builtin; refine wpList_append_own _ rfl _ _ 84 rfl w.heap.size 21 i0 (.int .i32 0) 1 4 Tryz.underlying84 hi hz0 hz1 hz2 rfl (by decide) _ _ _ rfl (hown.alloc _) ⟨wr.heap.size, 0, none⟩ 1 1 [.int .i32 10] rfl rfl (Sl.one_new _ _ _) ?c2 ?c3 ?c4 ?c5 ?_)
          case c2 => first | rfl | (intro u hu; simp at hu; subst hu; rfl)
          case c3 => unfold maxLen; omega
          case c4 => omega
          case c5 => first | omega | (simp; omega)
          intro v' w1 hown' hgrow _
          have hbw3 := Sl.below_own (hbw.alloc (by omega) _) (hown.alloc _) hgrow (Nat.le_refl _) (by simp; omega)
          clear hown hgrow hbw
          go_wp2
          go_roundw
          case rel =>
            refine ⟨k + 1, acc ++ [10], by omega, by first | rfl | (simp; try omega), by simpa using hown', hbw3, ?_, by simp; omega⟩
            rw [← HACC.out, HST.out, List.append_assoc]
            rfl
          case measure => simp [intOf]; omega
        · subst hw
          have HST := Lib.hid (HL3.out _ HRR.out (by decide) (.inl rfl)); clear HL1 HL2 HL3 HL4 HRR hq
          go_wp2_with (at_builtin; refine wpList_append_own _ rfl _ _ 84 rfl w.heap.size 21 i0 (.int .i32 0) 1 4 Tryz.underlying84 hi hz0 hz1 hz2 rfl (by decide) _ _ _ rfl (hown.alloc _) ⟨wr.heap.size, 0, none⟩ 1 1 [.int .i32 10] rfl rfl (Sl.one_new _ _ _) ?c2 ?c3 ?c4 ?c5 ?_)
          case c2 => first | rfl | (intro u hu; simp at hu; subst hu; rfl)
          case c3 => unfold maxLen; omega
          case c4 => omega
          case c5 => first | omega | (simp; omega)
          intro v' w1 hown' hgrow _
          have hbw3 := Sl.below_own (hbw.alloc (by omega) _) (hown.alloc _) hgrow (Nat.le_refl _) (by simp; omega)
          clear hown hgrow hbw
          go_wp2
          go_roundw
          case rel =>
            refine ⟨k + 1, acc ++ [10], by omega, by first | rfl | (simp; try omega), by simpa using hown', hbw3, ?_, by simp; omega⟩
            rw [← HACC.out, HST.out, List.append_assoc]
            rfl
          case measure => simp [intOf]; omega
        · subst hw
          have HST := Lib.hid (HL3.out _ HRR.out (by decide) (.inr rfl)); clear HL1 HL2 HL3 HL4 HRR hq
          go_wp2_with (at_builtin; refine wpList_append_own _ rfl _ _ 84 rfl w.heap.size 21 i0 (.int .i32 0) 1 4 Tryz.underlying84 hi hz0 hz1 hz2 rfl (by decide) _ _ _ rfl (hown.alloc _) ⟨wr.heap.size, 0, none⟩ 1 1 [.int .i32 10] rfl rfl (Sl.one_new _ _ _) ?c2 ?c3 ?c4 ?c5 ?_)
          case c2 => first | rfl | (intro u hu; simp at hu; subst hu; rfl)
          case c3 => unfold maxLen; omega
          case c4 => omega
          case c5 => first | omega | (simp; omega)
          intro v' w1 hown' hgrow _
          have hbw3 := Sl.below_own (hbw.alloc (by omega) _) (hown.alloc _) hgrow (Nat.le_refl _) (by simp; omega)
          clear hown hgrow hbw
          go_wp2
          go_roundw
          case rel =>
            refine ⟨k + 1, acc ++ [10], by omega, by first | rfl | (simp; try omega), by simpa using hown', hbw3, ?_, by simp; omega⟩
            rw [← HACC.out, HST.out, List.append_assoc]
            rfl
          case measure => simp [intOf]; omega
        · obtain ⟨r1, r2, r3⟩ := hw
          have HST := Lib.hid (HL4.out _ HRR.out r1 (fun h => h.elim r2 r3)); clear HL1 HL2 HL3 HL4 HRR hq
          go_wp2_with (at_builtin; refine wpList_append_own _ rfl _ _ 84 rfl w.heap.size 21 i0 (.int .i32 0) 1 4 Tryz.underlying84 hi hz0 hz1 hz2 rfl (by decide) _ _ _ rfl (hown.alloc _) ⟨wr.heap.size, 0, none⟩ 1 1 [.int .i32 r] rfl rfl (Sl.one_new _ _ _) ?c2 ?c3 ?c4 ?c5 ?_)
          case c2 => first | rfl | (intro u hu; simp at hu; subst hu; rfl)
          case c3 => unfold maxLen; omega
          case c4 => omega
          case c5 => first | omega | (simp; omega)
          intro v' w1 hown' hgrow _
          have hbw3 := Sl.below_own (hbw.alloc (by omega) _) (hown.alloc _) hgrow (Nat.le_refl _) (by simp; omega)
          clear hown hgrow hbw
          go_wp2
          go_roundw
          case rel =>
            refine ⟨k + 1, acc ++ [r], by omega, by first | rfl | (simp; try omega), by simpa using hown', hbw3, ?_, by simp; omega⟩
            rw [← HACC.out, HST.out, List.append_assoc]
            rfl
          case measure => simp [intOf]; omega
    · have hacc2 := HACC.out
      rw [Cd.endsI_end xs k hlt, List.append_nil] at hacc2
      have HACC2 := Lib.hid hacc2; clear hacc2
      go_wp2
      go_ret
      rw [← HACC2.out]
      exact ⟨_, rfl, Sl.IntsAt.of_own hown, hbw⟩

theorem Cd.ends_any (l : Int) (v : Value) (xs : List Int) (w : World) (hlen : xs.length ≤ 1099511627776) (hv : Sl.IntsAt .i32 w v xs) :
    Calls Tryz.prog 33 #[.int .i64 l, v] w fun x w' => ∃ v', x = .returned v' ∧ Sl.IntsAt .i32 w' v' (Cd.endsL l xs) ∧ Below w.heap.size w w' := by
  unfold Cd.endsL
  by_cases hl : l = 0
  · subst hl
    exact Cd.ends_zero v xs w hv
  rw [if_neg hl]
  rcases hv with ⟨rfl, rfl⟩ | ⟨b, off, cap, rfl, hb, hc⟩
  · rw [Cd.endsI_end [] 0 (by simp)]
    exact Cd.ends_nil l hl w
  · exact Cd.ends_some l hl b off cap xs w hlen hb hc
end Go.Proofs.YtpjnamlcchjlcaaGreatDoor
