/-
  The walk of sextantref01.downs: each character of a list as Downcase makes of it; what it makes lies above all that was there. Conditions: the characters are int32s, and at most 2^43.
-/
import Derived.Test.YtnkbeaeopcemjaaDoorChRefText
import Derived.WalkKit
import Derived.WalkSpells
import Derived.WalkLawsBesides
import Derived.Handy
import Derived.BigCall
import Derived.Lib.Hide
namespace Go.Proofs.YtnkbeaeopcemjaaDoor
open Go.RowKit

theorem Ch.downs_nil (w : World) :
    Calls Tryd.prog 22 #[.slice none 0 0] w fun e w' => ∃ v, e = .returned v ∧ w'.ownsRow w.heap.size 21 1 v 0 [] ∧ Below w.heap.size w w' := by
  go_enter Tryd.func22, Tryd.ntmps22
  go_wp2
  refine wp_loop_rounds 1 ?_
  rw [rounds_succ]
  go_wp2
  go_ret
  exact ⟨_, rfl, Sl.own_empty w 21, (Below.refl _ _).alloc (Nat.le_refl _) _⟩

/-- What the k-th of downs is, by cases. -/
theorem Ch.small_of {b : Bool} {r : Int} {o : Option Int} {V : Int} (h : Ch.smallR b r o = V) : V = Ch.smallR b r o := h.symm

set_option maxHeartbeats 8000000 in
set_option maxRecDepth 1000000 in
theorem Ch.downs_some (b off cap : Nat) (xs : List Int) (w : World) (hlen : xs.length ≤ 8796093022208) (hb : b < w.heap.size) (hc : ∀ i, i < xs.length → w.cell? ⟨b, off + i, none⟩ = some (.int .i32 (xs.getD i 0))) (hok : ∀ i, i < xs.length → -2147483648 ≤ xs.getD i 0 ∧ xs.getD i 0 ≤ 2147483647) :
    Calls Tryd.prog 22 #[.slice (some ⟨b, off, none⟩) xs.length cap] w fun e w' => ∃ v, e = .returned v ∧ w'.ownsRow w.heap.size 21 1 v (Ch.downF false xs).length ((Ch.downF false xs).map (Value.int .i32)) ∧ Below w.heap.size w w' := by
  obtain ⟨i0, hi, hz0, hz1, hz2⟩ := info_parts Ch.infoRune
  have HC := Lib.hid hc; clear hc
  have HOK := Lib.hid hok; clear hok
  go_enter Tryd.func22, Tryd.ntmps22
  go_wp2
  go_loopw [3, 4] (fun v i wr => ∃ (k : Nat) (acc : List Int), k ≤ xs.length ∧ i = .int .i64 k ∧ wr.ownsRow w.heap.size 21 1 v acc.length (acc.map (Value.int .i32)) ∧ Below w.heap.size w wr ∧ acc ++ (Ch.downF false xs).drop k = Ch.downF false xs ∧ acc.length = k) (fun _ i _ => xs.length - (intOf i).toNat)
  case atStart => exact ⟨0, [], Nat.zero_le _, rfl, Sl.own_empty w 21, (Below.refl _ _).alloc (Nat.le_refl _) _, by simp, rfl⟩
  case round =>
    obtain ⟨k, acc, hk, rfl, hown, hbw, hacc, hal⟩ := hrel
    have HAL := Lib.hid hal; clear hal
    have HACC := Lib.hid hacc; clear hacc
    by_cases hlt : k < xs.length
    · have hstep := Ch.downF_drop false xs k hlt
      have hgo : ∀ i, i < xs.length → wr.cell? ⟨b, off + i, none⟩ = some (.int .i32 (xs.getD i 0)) := fun i hi => (hbw.cell (p := ⟨b, off + i, none⟩) hb).trans (HC.out i hi)
      have hsw := hbw.size
      have c0 := hgo k hlt
      have d0 := Ch.down_eq _ (HOK.out k hlt).1 (HOK.out k hlt).2
      have HGO := Lib.hid hgo; clear hgo
      generalize xs.getD k 0 = r at c0 d0 hstep
      have D0 := Lib.hid d0; clear d0
      have HSTEP := Lib.hid hstep; clear hstep
      by_cases h931 : (r == 931) = true
      · obtain rfl : r = 931 := by simpa using h931
        clear h931
        rcases Nat.eq_zero_or_pos k with hk0 | hk0
        · subst hk0
          rw [Nat.add_zero] at c0
          by_cases hk1 : (0 : Int) + 1 < (xs.length : Int)
          · have cn : wr.cell? ⟨b, off + 1, none⟩ = some (.int .i32 (xs.getD (0 + 1) 0)) := HGO.out (0 + 1) (by omega)
            have dn := Ch.letter_eq _ (HOK.out (0 + 1) (by omega)).1 (HOK.out (0 + 1) (by omega)).2
            have hnn : xs[0 + 1]? = some (xs.getD (0 + 1) 0) := by simp [List.getElem?_eq_getElem (show 0 + 1 < xs.length by omega)]
            generalize xs.getD (0 + 1) 0 = q at cn dn hnn
            have DN := Lib.hid dn; clear dn
            have HNN := Lib.hid hnn; clear hnn
            cases hnx : Ch.letterR q
            · go_wp2_with fail
              refine (Ch.downR_any _ _).mono ?_; rintro e w1 ⟨rfl, hb1⟩
              have bw1 := hbw.trans (hb1.mono (by omega))
              have sz1 := hb1.size
              have own1 := Sl.own_below hown hb1 (Nat.le_refl _)
              have c1 := (hb1.cell (p := ⟨b, off, none⟩) (by show b < _; omega)).trans c0
              have n1 := (hb1.cell (p := ⟨b, off + 1, none⟩) (by show b < _; omega)).trans cn
              clear hown hbw hb1 c0 cn
              go_wp2_with fail
              refine (Ch.letterR_any _ _).mono ?_; rintro e w2 ⟨rfl, hb2⟩
              have bw2 := bw1.trans (hb2.mono (by omega))
              have sz2 := hb2.size
              have own2 := Sl.own_below own1 hb2 (Nat.le_refl _)
              clear own1 bw1 hb2
              go_wp2_with (at_builtin; refine wpList_append_own _ rfl _ _ 25 rfl w.heap.size 21 i0 (.int .i32 0) 1 4 Tryd.underlying25 hi hz0 hz1 hz2 rfl (by decide) _ _ _ rfl (own2.alloc _) ⟨w2.heap.size, 0, none⟩ 1 1 [.int .i32 (963)] rfl rfl (Sl.one_new _ _ _) ?c2 ?c3 ?c4 ?c5 ?_)
              case c2 => first | rfl | (intro u hu; simp at hu; subst hu; rfl)
              case c3 => have := HAL.out; unfold maxLen; omega
              case c4 => have := HAL.out; omega
              case c5 => first | omega | (simp; omega)
              intro v' wz hown' hgrow _
              have hbz := Sl.below_own (bw2.alloc (by omega) _) (own2.alloc _) hgrow (Nat.le_refl _) (by simp; omega)
              clear own2 bw2 hgrow
              go_wp2
              go_roundw
              case rel =>
                refine ⟨0 + 1, acc ++ [963], by omega, by go_num, by simpa using hown', hbz, ?_, by have := HAL.out; simp only [List.length_append, List.length_cons, List.length_nil]; omega⟩
                have hs := HSTEP.out
                have ha := HACC.out
                rw [List.append_assoc]
                refine Eq.trans ?_ ha
                rw [hs]
                refine congrArg (acc ++ ·) ?_
                simp only [Ch.smallR, Ch.sig, if_true]
                rfl
              case measure => simp [intOf]; omega
            · go_wp2_with fail
              refine (Ch.downR_any _ _).mono ?_; rintro e w1 ⟨rfl, hb1⟩
              have bw1 := hbw.trans (hb1.mono (by omega))
              have sz1 := hb1.size
              have own1 := Sl.own_below hown hb1 (Nat.le_refl _)
              have c1 := (hb1.cell (p := ⟨b, off, none⟩) (by show b < _; omega)).trans c0
              have n1 := (hb1.cell (p := ⟨b, off + 1, none⟩) (by show b < _; omega)).trans cn
              clear hown hbw hb1 c0 cn
              go_wp2_with fail
              refine (Ch.letterR_any _ _).mono ?_; rintro e w2 ⟨rfl, hb2⟩
              have bw2 := bw1.trans (hb2.mono (by omega))
              have sz2 := hb2.size
              have own2 := Sl.own_below own1 hb2 (Nat.le_refl _)
              clear own1 bw1 hb2
              go_wp2_with (at_builtin; refine wpList_append_own _ rfl _ _ 25 rfl w.heap.size 21 i0 (.int .i32 0) 1 4 Tryd.underlying25 hi hz0 hz1 hz2 rfl (by decide) _ _ _ rfl (own2.alloc _) ⟨w2.heap.size, 0, none⟩ 1 1 [.int .i32 (963)] rfl rfl (Sl.one_new _ _ _) ?c2 ?c3 ?c4 ?c5 ?_)
              case c2 => first | rfl | (intro u hu; simp at hu; subst hu; rfl)
              case c3 => have := HAL.out; unfold maxLen; omega
              case c4 => have := HAL.out; omega
              case c5 => first | omega | (simp; omega)
              intro v' wz hown' hgrow _
              have hbz := Sl.below_own (bw2.alloc (by omega) _) (own2.alloc _) hgrow (Nat.le_refl _) (by simp; omega)
              clear own2 bw2 hgrow
              go_wp2
              go_roundw
              case rel =>
                refine ⟨0 + 1, acc ++ [963], by omega, by go_num, by simpa using hown', hbz, ?_, by have := HAL.out; simp only [List.length_append, List.length_cons, List.length_nil]; omega⟩
                have hs := HSTEP.out
                have ha := HACC.out
                rw [List.append_assoc]
                refine Eq.trans ?_ ha
                rw [hs]
                refine congrArg (acc ++ ·) ?_
                simp only [Ch.smallR, Ch.sig, if_true]
                rfl
              case measure => simp [intOf]; omega
          · have hk2 : ¬ (0 + 1 < xs.length) := by omega
            go_wp2_with fail
            refine (Ch.downR_any _ _).mono ?_; rintro e w1 ⟨rfl, hb1⟩
            have bw1 := hbw.trans (hb1.mono (by omega))
            have sz1 := hb1.size
            have own1 := Sl.own_below hown hb1 (Nat.le_refl _)
            have c1 := (hb1.cell (p := ⟨b, off, none⟩) (by show b < _; omega)).trans c0
            clear hown hbw hb1 c0
            go_wp2_with (at_builtin; refine wpList_append_own _ rfl _ _ 25 rfl w.heap.size 21 i0 (.int .i32 0) 1 4 Tryd.underlying25 hi hz0 hz1 hz2 rfl (by decide) _ _ _ rfl (own1.alloc _) ⟨w1.heap.size, 0, none⟩ 1 1 [.int .i32 (963)] rfl rfl (Sl.one_new _ _ _) ?c2 ?c3 ?c4 ?c5 ?_)
            case c2 => first | rfl | (intro u hu; simp at hu; subst hu; rfl)
            case c3 => have := HAL.out; unfold maxLen; omega
            case c4 => have := HAL.out; omega
            case c5 => first | omega | (simp; omega)
            intro v' wz hown' hgrow _
            have hbz := Sl.below_own (bw1.alloc (by omega) _) (own1.alloc _) hgrow (Nat.le_refl _) (by simp; omega)
            clear own1 bw1 hgrow
            go_wp2
            go_roundw
            case rel =>
              refine ⟨0 + 1, acc ++ [963], by omega, by go_num, by simpa using hown', hbz, ?_, by have := HAL.out; simp only [List.length_append, List.length_cons, List.length_nil]; omega⟩
              have hs := HSTEP.out
              have ha := HACC.out
              rw [List.append_assoc]
              refine Eq.trans ?_ ha
              rw [hs]
              refine congrArg (acc ++ ·) ?_
              simp only [Ch.smallR, Ch.sig, if_true]
              rfl
            case measure => simp [intOf]; omega
        · obtain ⟨j, rfl⟩ : ∃ j, k = j + 1 := ⟨k - 1, by omega⟩
          clear hk0
          have hstep := HSTEP.out
          clear HSTEP
          have cp := HGO.out j (by omega)
          have dp := Ch.letter_eq _ (HOK.out j (by omega)).1 (HOK.out j (by omega)).2
          have hpp : xs.getD (j + 1 - 1) 0 = xs.getD j 0 := rfl
          rw [hpp] at hstep
          clear hpp
          generalize xs.getD j 0 = p at cp dp hstep
          have DP := Lib.hid dp; clear dp
          have HSTEP := Lib.hid hstep; clear hstep
          by_cases hk1 : ((j + 1 : Nat) : Int) + 1 < (xs.length : Int)
          · have cn := HGO.out ((j + 1) + 1) (by omega)
            have dn := Ch.letter_eq _ (HOK.out ((j + 1) + 1) (by omega)).1 (HOK.out ((j + 1) + 1) (by omega)).2
            have hnn : xs[(j + 1) + 1]? = some (xs.getD ((j + 1) + 1) 0) := by simp [List.getElem?_eq_getElem (show (j + 1) + 1 < xs.length by omega)]
            generalize xs.getD ((j + 1) + 1) 0 = q at cn dn hnn
            have DN := Lib.hid dn; clear dn
            have HNN := Lib.hid hnn; clear hnn
            cases hpv : Ch.letterR p
            · cases hnx : Ch.letterR q
              · go_wp2_with fail
                refine (Ch.downR_any _ _).mono ?_; rintro e w1 ⟨rfl, hb1⟩
                have bw1 := hbw.trans (hb1.mono (by omega))
                have sz1 := hb1.size
                have own1 := Sl.own_below hown hb1 (Nat.le_refl _)
                have c1 := (hb1.cell (p := ⟨b, off + (j + 1), none⟩) (by show b < _; omega)).trans c0
                have p1 := (hb1.cell (p := ⟨b, off + j, none⟩) (by show b < _; omega)).trans cp
                have n1 := (hb1.cell (p := ⟨b, off + (j + 1 + 1), none⟩) (by show b < _; omega)).trans cn
                clear hown hbw hb1 c0 cp cn
                go_wp2_with fail
                refine (Ch.letterR_any _ _).mono ?_; rintro e w2 ⟨rfl, hb2⟩
                have bw2 := bw1.trans (hb2.mono (by omega))
                have sz2 := hb2.size
                have own2 := Sl.own_below own1 hb2 (Nat.le_refl _)
                have n2 := (hb2.cell (p := ⟨b, off + (j + 1 + 1), none⟩) (by show b < _; omega)).trans n1
                clear own1 bw1 hb2
                go_wp2_with fail
                refine (Ch.letterR_any _ _).mono ?_; rintro e w3 ⟨rfl, hb3⟩
                have bw3 := bw2.trans (hb3.mono (by omega))
                have sz3 := hb3.size
                have own3 := Sl.own_below own2 hb3 (Nat.le_refl _)
                clear own2 bw2 hb3
                go_wp2_with (at_builtin; refine wpList_append_own _ rfl _ _ 25 rfl w.heap.size 21 i0 (.int .i32 0) 1 4 Tryd.underlying25 hi hz0 hz1 hz2 rfl (by decide) _ _ _ rfl (own3.alloc _) ⟨w3.heap.size, 0, none⟩ 1 1 [.int .i32 (963)] rfl rfl (Sl.one_new _ _ _) ?c2 ?c3 ?c4 ?c5 ?_)
                case c2 => first | rfl | (intro u hu; simp at hu; subst hu; rfl)
                case c3 => have := HAL.out; unfold maxLen; omega
                case c4 => have := HAL.out; omega
                case c5 => first | omega | (simp; omega)
                intro v' wz hown' hgrow _
                have hbz := Sl.below_own (bw3.alloc (by omega) _) (own3.alloc _) hgrow (Nat.le_refl _) (by simp; omega)
                clear own3 bw3 hgrow
                go_wp2
                go_roundw
                case rel =>
                  refine ⟨(j + 1) + 1, acc ++ [963], by omega, by go_num, by simpa using hown', hbz, ?_, by have := HAL.out; simp only [List.length_append, List.length_cons, List.length_nil]; omega⟩
                  have hs := HSTEP.out
                  have ha := HACC.out
                  rw [List.append_assoc]
                  refine Eq.trans ?_ ha
                  rw [hs]
                  refine congrArg (acc ++ ·) ?_
                  simp only [Ch.smallR, Ch.sig, if_true, if_neg (Nat.succ_ne_zero j), HNN.out, DP.out, hpv, Option.any_some, DN.out, hnx]
                  rfl
                case measure => simp [intOf]; omega
              · go_wp2_with fail
                refine (Ch.downR_any _ _).mono ?_; rintro e w1 ⟨rfl, hb1⟩
                have bw1 := hbw.trans (hb1.mono (by omega))
                have sz1 := hb1.size
                have own1 := Sl.own_below hown hb1 (Nat.le_refl _)
                have c1 := (hb1.cell (p := ⟨b, off + (j + 1), none⟩) (by show b < _; omega)).trans c0
                have p1 := (hb1.cell (p := ⟨b, off + j, none⟩) (by show b < _; omega)).trans cp
                have n1 := (hb1.cell (p := ⟨b, off + (j + 1 + 1), none⟩) (by show b < _; omega)).trans cn
                clear hown hbw hb1 c0 cp cn
                go_wp2_with fail
                refine (Ch.letterR_any _ _).mono ?_; rintro e w2 ⟨rfl, hb2⟩
                have bw2 := bw1.trans (hb2.mono (by omega))
                have sz2 := hb2.size
                have own2 := Sl.own_below own1 hb2 (Nat.le_refl _)
                have n2 := (hb2.cell (p := ⟨b, off + (j + 1 + 1), none⟩) (by show b < _; omega)).trans n1
                clear own1 bw1 hb2
                go_wp2_with fail
                refine (Ch.letterR_any _ _).mono ?_; rintro e w3 ⟨rfl, hb3⟩
                have bw3 := bw2.trans (hb3.mono (by omega))
                have sz3 := hb3.size
                have own3 := Sl.own_below own2 hb3 (Nat.le_refl _)
                clear own2 bw2 hb3
                go_wp2_with (at_builtin; refine wpList_append_own _ rfl _ _ 25 rfl w.heap.size 21 i0 (.int .i32 0) 1 4 Tryd.underlying25 hi hz0 hz1 hz2 rfl (by decide) _ _ _ rfl (own3.alloc _) ⟨w3.heap.size, 0, none⟩ 1 1 [.int .i32 (963)] rfl rfl (Sl.one_new _ _ _) ?c2 ?c3 ?c4 ?c5 ?_)
                case c2 => first | rfl | (intro u hu; simp at hu; subst hu; rfl)
                case c3 => have := HAL.out; unfold maxLen; omega
                case c4 => have := HAL.out; omega
                case c5 => first | omega | (simp; omega)
                intro v' wz hown' hgrow _
                have hbz := Sl.below_own (bw3.alloc (by omega) _) (own3.alloc _) hgrow (Nat.le_refl _) (by simp; omega)
                clear own3 bw3 hgrow
                go_wp2
                go_roundw
                case rel =>
                  refine ⟨(j + 1) + 1, acc ++ [963], by omega, by go_num, by simpa using hown', hbz, ?_, by have := HAL.out; simp only [List.length_append, List.length_cons, List.length_nil]; omega⟩
                  have hs := HSTEP.out
                  have ha := HACC.out
                  rw [List.append_assoc]
                  refine Eq.trans ?_ ha
                  rw [hs]
                  refine congrArg (acc ++ ·) ?_
                  simp only [Ch.smallR, Ch.sig, if_true, if_neg (Nat.succ_ne_zero j), HNN.out, DP.out, hpv, Option.any_some, DN.out, hnx]
                  rfl
                case measure => simp [intOf]; omega
            · cases hnx : Ch.letterR q
              · go_wp2_with fail
                refine (Ch.downR_any _ _).mono ?_; rintro e w1 ⟨rfl, hb1⟩
                have bw1 := hbw.trans (hb1.mono (by omega))
                have sz1 := hb1.size
                have own1 := Sl.own_below hown hb1 (Nat.le_refl _)
                have c1 := (hb1.cell (p := ⟨b, off + (j + 1), none⟩) (by show b < _; omega)).trans c0
                have p1 := (hb1.cell (p := ⟨b, off + j, none⟩) (by show b < _; omega)).trans cp
                have n1 := (hb1.cell (p := ⟨b, off + (j + 1 + 1), none⟩) (by show b < _; omega)).trans cn
                clear hown hbw hb1 c0 cp cn
                go_wp2_with fail
                refine (Ch.letterR_any _ _).mono ?_; rintro e w2 ⟨rfl, hb2⟩
                have bw2 := bw1.trans (hb2.mono (by omega))
                have sz2 := hb2.size
                have own2 := Sl.own_below own1 hb2 (Nat.le_refl _)
                have n2 := (hb2.cell (p := ⟨b, off + (j + 1 + 1), none⟩) (by show b < _; omega)).trans n1
                clear own1 bw1 hb2
                go_wp2_with fail
                refine (Ch.letterR_any _ _).mono ?_; rintro e w3 ⟨rfl, hb3⟩
                have bw3 := bw2.trans (hb3.mono (by omega))
                have sz3 := hb3.size
                have own3 := Sl.own_below own2 hb3 (Nat.le_refl _)
                clear own2 bw2 hb3
                go_wp2_with (at_builtin; refine wpList_append_own _ rfl _ _ 25 rfl w.heap.size 21 i0 (.int .i32 0) 1 4 Tryd.underlying25 hi hz0 hz1 hz2 rfl (by decide) _ _ _ rfl (own3.alloc _) ⟨w3.heap.size, 0, none⟩ 1 1 [.int .i32 (962)] rfl rfl (Sl.one_new _ _ _) ?c2 ?c3 ?c4 ?c5 ?_)
                case c2 => first | rfl | (intro u hu; simp at hu; subst hu; rfl)
                case c3 => have := HAL.out; unfold maxLen; omega
                case c4 => have := HAL.out; omega
                case c5 => first | omega | (simp; omega)
                intro v' wz hown' hgrow _
                have hbz := Sl.below_own (bw3.alloc (by omega) _) (own3.alloc _) hgrow (Nat.le_refl _) (by simp; omega)
                clear own3 bw3 hgrow
                go_wp2
                go_roundw
                case rel =>
                  refine ⟨(j + 1) + 1, acc ++ [962], by omega, by go_num, by simpa using hown', hbz, ?_, by have := HAL.out; simp only [List.length_append, List.length_cons, List.length_nil]; omega⟩
                  have hs := HSTEP.out
                  have ha := HACC.out
                  rw [List.append_assoc]
                  refine Eq.trans ?_ ha
                  rw [hs]
                  refine congrArg (acc ++ ·) ?_
                  simp only [Ch.smallR, Ch.sig, if_true, if_neg (Nat.succ_ne_zero j), HNN.out, DP.out, hpv, Option.any_some, DN.out, hnx]
                  rfl
                case measure => simp [intOf]; omega
              · go_wp2_with fail
                refine (Ch.downR_any _ _).mono ?_; rintro e w1 ⟨rfl, hb1⟩
                have bw1 := hbw.trans (hb1.mono (by omega))
                have sz1 := hb1.size
                have own1 := Sl.own_below hown hb1 (Nat.le_refl _)
                have c1 := (hb1.cell (p := ⟨b, off + (j + 1), none⟩) (by show b < _; omega)).trans c0
                have p1 := (hb1.cell (p := ⟨b, off + j, none⟩) (by show b < _; omega)).trans cp
                have n1 := (hb1.cell (p := ⟨b, off + (j + 1 + 1), none⟩) (by show b < _; omega)).trans cn
                clear hown hbw hb1 c0 cp cn
                go_wp2_with fail
                refine (Ch.letterR_any _ _).mono ?_; rintro e w2 ⟨rfl, hb2⟩
                have bw2 := bw1.trans (hb2.mono (by omega))
                have sz2 := hb2.size
                have own2 := Sl.own_below own1 hb2 (Nat.le_refl _)
                have n2 := (hb2.cell (p := ⟨b, off + (j + 1 + 1), none⟩) (by show b < _; omega)).trans n1
                clear own1 bw1 hb2
                go_wp2_with fail
                refine (Ch.letterR_any _ _).mono ?_; rintro e w3 ⟨rfl, hb3⟩
                have bw3 := bw2.trans (hb3.mono (by omega))
                have sz3 := hb3.size
                have own3 := Sl.own_below own2 hb3 (Nat.le_refl _)
                clear own2 bw2 hb3
                go_wp2_with (at_builtin; refine wpList_append_own _ rfl _ _ 25 rfl w.heap.size 21 i0 (.int .i32 0) 1 4 Tryd.underlying25 hi hz0 hz1 hz2 rfl (by decide) _ _ _ rfl (own3.alloc _) ⟨w3.heap.size, 0, none⟩ 1 1 [.int .i32 (963)] rfl rfl (Sl.one_new _ _ _) ?c2 ?c3 ?c4 ?c5 ?_)
                case c2 => first | rfl | (intro u hu; simp at hu; subst hu; rfl)
                case c3 => have := HAL.out; unfold maxLen; omega
                case c4 => have := HAL.out; omega
                case c5 => first | omega | (simp; omega)
                intro v' wz hown' hgrow _
                have hbz := Sl.below_own (bw3.alloc (by omega) _) (own3.alloc _) hgrow (Nat.le_refl _) (by simp; omega)
                clear own3 bw3 hgrow
                go_wp2
                go_roundw
                case rel =>
                  refine ⟨(j + 1) + 1, acc ++ [963], by omega, by go_num, by simpa using hown', hbz, ?_, by have := HAL.out; simp only [List.length_append, List.length_cons, List.length_nil]; omega⟩
                  have hs := HSTEP.out
                  have ha := HACC.out
                  rw [List.append_assoc]
                  refine Eq.trans ?_ ha
                  rw [hs]
                  refine congrArg (acc ++ ·) ?_
                  simp only [Ch.smallR, Ch.sig, if_true, if_neg (Nat.succ_ne_zero j), HNN.out, DP.out, hpv, Option.any_some, DN.out, hnx]
                  rfl
                case measure => simp [intOf]; omega
          · have hnn : xs[j + 1 + 1]? = none := by simp; omega
            have HNN := Lib.hid hnn; clear hnn
            cases hpv : Ch.letterR p
            · go_wp2_with fail
              refine (Ch.downR_any _ _).mono ?_; rintro e w1 ⟨rfl, hb1⟩
              have bw1 := hbw.trans (hb1.mono (by omega))
              have sz1 := hb1.size
              have own1 := Sl.own_below hown hb1 (Nat.le_refl _)
              have c1 := (hb1.cell (p := ⟨b, off + (j + 1), none⟩) (by show b < _; omega)).trans c0
              have p1 := (hb1.cell (p := ⟨b, off + j, none⟩) (by show b < _; omega)).trans cp
              clear hown hbw hb1 c0 cp
              go_wp2_with fail
              refine (Ch.letterR_any _ _).mono ?_; rintro e w2 ⟨rfl, hb2⟩
              have bw2 := bw1.trans (hb2.mono (by omega))
              have sz2 := hb2.size
              have own2 := Sl.own_below own1 hb2 (Nat.le_refl _)
              clear own1 bw1 hb2
              go_wp2_with (at_builtin; refine wpList_append_own _ rfl _ _ 25 rfl w.heap.size 21 i0 (.int .i32 0) 1 4 Tryd.underlying25 hi hz0 hz1 hz2 rfl (by decide) _ _ _ rfl (own2.alloc _) ⟨w2.heap.size, 0, none⟩ 1 1 [.int .i32 (963)] rfl rfl (Sl.one_new _ _ _) ?c2 ?c3 ?c4 ?c5 ?_)
              case c2 => first | rfl | (intro u hu; simp at hu; subst hu; rfl)
              case c3 => have := HAL.out; unfold maxLen; omega
              case c4 => have := HAL.out; omega
              case c5 => first | omega | (simp; omega)
              intro v' wz hown' hgrow _
              have hbz := Sl.below_own (bw2.alloc (by omega) _) (own2.alloc _) hgrow (Nat.le_refl _) (by simp; omega)
              clear own2 bw2 hgrow
              go_wp2
              go_roundw
              case rel =>
                refine ⟨(j + 1) + 1, acc ++ [963], by omega, by go_num, by simpa using hown', hbz, ?_, by have := HAL.out; simp only [List.length_append, List.length_cons, List.length_nil]; omega⟩
                have hs := HSTEP.out
                have ha := HACC.out
                rw [List.append_assoc]
                refine Eq.trans ?_ ha
                rw [hs]
                refine congrArg (acc ++ ·) ?_
                simp only [Ch.smallR, Ch.sig, if_true, if_neg (Nat.succ_ne_zero j), HNN.out, DP.out, hpv, Option.any_none]
                rfl
              case measure => simp [intOf]; omega
            · go_wp2_with fail
              refine (Ch.downR_any _ _).mono ?_; rintro e w1 ⟨rfl, hb1⟩
              have bw1 := hbw.trans (hb1.mono (by omega))
              have sz1 := hb1.size
              have own1 := Sl.own_below hown hb1 (Nat.le_refl _)
              have c1 := (hb1.cell (p := ⟨b, off + (j + 1), none⟩) (by show b < _; omega)).trans c0
              have p1 := (hb1.cell (p := ⟨b, off + j, none⟩) (by show b < _; omega)).trans cp
              clear hown hbw hb1 c0 cp
              go_wp2_with fail
              refine (Ch.letterR_any _ _).mono ?_; rintro e w2 ⟨rfl, hb2⟩
              have bw2 := bw1.trans (hb2.mono (by omega))
              have sz2 := hb2.size
              have own2 := Sl.own_below own1 hb2 (Nat.le_refl _)
              clear own1 bw1 hb2
              go_wp2_with (at_builtin; refine wpList_append_own _ rfl _ _ 25 rfl w.heap.size 21 i0 (.int .i32 0) 1 4 Tryd.underlying25 hi hz0 hz1 hz2 rfl (by decide) _ _ _ rfl (own2.alloc _) ⟨w2.heap.size, 0, none⟩ 1 1 [.int .i32 (962)] rfl rfl (Sl.one_new _ _ _) ?c2 ?c3 ?c4 ?c5 ?_)
              case c2 => first | rfl | (intro u hu; simp at hu; subst hu; rfl)
              case c3 => have := HAL.out; unfold maxLen; omega
              case c4 => have := HAL.out; omega
              case c5 => first | omega | (simp; omega)
              intro v' wz hown' hgrow _
              have hbz := Sl.below_own (bw2.alloc (by omega) _) (own2.alloc _) hgrow (Nat.le_refl _) (by simp; omega)
              clear own2 bw2 hgrow
              go_wp2
              go_roundw
              case rel =>
                refine ⟨(j + 1) + 1, acc ++ [962], by omega, by go_num, by simpa using hown', hbz, ?_, by have := HAL.out; simp only [List.length_append, List.length_cons, List.length_nil]; omega⟩
                have hs := HSTEP.out
                have ha := HACC.out
                rw [List.append_assoc]
                refine Eq.trans ?_ ha
                rw [hs]
                refine congrArg (acc ++ ·) ?_
                simp only [Ch.smallR, Ch.sig, if_true, if_neg (Nat.succ_ne_zero j), HNN.out, DP.out, hpv, Option.any_none]
                rfl
              case measure => simp [intOf]; omega
      · have hne : ¬ r = 931 := by simpa using h931
        have h931 : (r == 931) = false := by simpa using hne
        have HNE := Lib.hid hne; clear hne
        go_wp2_with fail
        refine (Ch.downR_any _ _).mono ?_; rintro e w1 ⟨rfl, hb1⟩
        have bw1 := hbw.trans (hb1.mono (by omega))
        have sz1 := hb1.size
        have own1 := Sl.own_below hown hb1 (Nat.le_refl _)
        have c1 := (hb1.cell (p := ⟨b, off + k, none⟩) (by show b < _; omega)).trans c0
        clear hown hbw hb1 c0
        go_wp2_with (at_builtin; refine wpList_append_own _ rfl _ _ 25 rfl w.heap.size 21 i0 (.int .i32 0) 1 4 Tryd.underlying25 hi hz0 hz1 hz2 rfl (by decide) _ _ _ rfl (own1.alloc _) ⟨w1.heap.size, 0, none⟩ 1 1 [.int .i32 (Ch.downR r)] rfl rfl (Sl.one_new _ _ _) ?c2 ?c3 ?c4 ?c5 ?_)
        case c2 => first | rfl | (intro u hu; simp at hu; subst hu; rfl)
        case c3 => have := HAL.out; unfold maxLen; omega
        case c4 => have := HAL.out; omega
        case c5 => first | omega | (simp; omega)
        intro v' wz hown' hgrow _
        have hbz := Sl.below_own (bw1.alloc (by omega) _) (own1.alloc _) hgrow (Nat.le_refl _) (by simp; omega)
        clear own1 bw1 hgrow
        go_wp2
        go_roundw
        case rel =>
          refine ⟨k + 1, acc ++ [Ch.downR r], by omega, by go_num, by simpa using hown', hbz, ?_, by have := HAL.out; simp only [List.length_append, List.length_cons, List.length_nil]; omega⟩
          have hs := HSTEP.out
          have ha := HACC.out
          rw [List.append_assoc]
          refine Eq.trans ?_ ha
          rw [hs]
          refine congrArg (acc ++ ·) ?_
          simp only [Ch.smallR, if_neg HNE.out, D0.out]
          rfl
        case measure => simp [intOf]; omega
    · go_wp2
      go_ret
      have hacc2 := HACC.out
      have : (Ch.downF false xs).drop k = [] := List.drop_eq_nil_of_le (by rw [Ch.downF_length]; omega)
      rw [this, List.append_nil] at hacc2
      rw [← hacc2]
      exact ⟨_, rfl, hown, hbw⟩

theorem Ch.downs_any (v : Value) (xs : List Int) (w : World) (hlen : xs.length ≤ 8796093022208) (hv : Sl.IntsAt .i32 w v xs) (hok : ∀ r ∈ xs, Ru.okR r) :
    Calls Tryd.prog 22 #[v] w fun e w' => ∃ v, e = .returned v ∧ w'.ownsRow w.heap.size 21 1 v (Ch.downF false xs).length ((Ch.downF false xs).map (Value.int .i32)) ∧ Below w.heap.size w w' := by
  rcases hv with ⟨rfl, rfl⟩ | ⟨b, off, cap, rfl, hb, hc⟩
  · exact Ch.downs_nil w
  · refine Ch.downs_some b off cap xs w hlen hb hc (fun i hi => ?_)
    have h := hok (xs.getD i 0) (by simp [List.getElem?_eq_getElem hi])
    unfold Ru.okR at h
    omega
end Go.Proofs.YtnkbeaeopcemjaaDoor
