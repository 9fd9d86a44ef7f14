/-
  The walks of sextantref01.Downcase and Titlecase: the document's texts; what they make lies above all that was there. Condition: the text has at most 2^40 bytes.
-/
import Derived.Test.YtnkbeaeopcemjaaDoorChDowns
import Derived.WalkKit
import Derived.WalkSpells
import Derived.WalkLawsBesides
import Derived.Handy
import Derived.BigCall
import Derived.Lib.Hide
namespace Go.Proofs.YtnkbeaeopcemjaaDoor
open Go.RowKit

theorem Ch.down_nth (xs : List Int) (k : Nat) (h : k < xs.length) : (Ch.downF false xs).getD k 0 = Ch.smallR (if k = 0 then false else Ch.letterB (xs.getD (k - 1) 0)) (xs.getD k 0) (xs[k + 1]?) := by
  have := congrArg List.head? (Ch.downF_drop false xs k h)
  simp only [List.head?_drop, List.head?_cons] at this
  simp [this]

theorem Ch.runes_short (l : List UInt8) : (Ru.runes l).length ≤ l.length := Ch.runes_len l.length l (Nat.le_refl _)

set_option maxHeartbeats 4000000 in
set_option maxRecDepth 1000000 in
theorem Ch.downcaseR_any (s : ByteArray) (w : World) (hs : s.size ≤ 8796093022208) :
    Calls Tryd.prog 9 #[.string s] w fun e w' => e = .returned (.string ⟨(Ch.downL s.data.toList).toArray⟩) ∧ Below w.heap.size w w' := by
  have hl := Ch.runes_short s.data.toList
  have hok := Lib.hid (Ru.runes_okR s.data.toList)
  have hz : s.data.toList.length = s.size := by simp
  unfold Ch.downL
  have k1 := Lib.hid (Ch.runes_any s w hs)
  generalize Ru.runes s.data.toList = xs at *
  go_enter Tryd.func9, Tryd.ntmps9
  go_wp2_with fail
  refine k1.out.mono ?_; rintro e w1 ⟨v1, rfl, own1, hb1⟩
  go_wp2_with fail
  refine (Ch.downs_any v1 xs w1 (by omega) (Sl.IntsAt.of_own own1) hok.out).mono ?_; rintro e w2 ⟨v2, rfl, own2, hb2⟩
  have hcv := Sl.run_string (P := Tryd.prog) w2 25 9 21 _ _ Tryd.underlying25 Tryd.underlying21 Tryd.underlying9 (Sl.IntsAt.of_own own2)
  have hz1 := hb1.size
  go_wp2
  go_ret
  exact ⟨rfl, hb1.trans (hb2.mono hz1)⟩

set_option maxHeartbeats 8000000 in
set_option maxRecDepth 1000000 in
theorem Ch.titlecaseR_any (s : ByteArray) (w : World) (hs : s.size ≤ 1099511627776) :
    Calls Tryd.prog 13 #[.string s] w fun e w' => e = .returned (.string ⟨(Ch.titleL s.data.toList).toArray⟩) ∧ Below w.heap.size w w' := by
  obtain ⟨i0, hi, hz0, hz1, hz2⟩ := info_parts Ch.infoRune
  have hl := Ch.runes_short s.data.toList
  have hok := Lib.hid (Ru.runes_okR s.data.toList)
  have hz : s.data.toList.length = s.size := by simp
  unfold Ch.titleL
  have k1 := Lib.hid (Ch.runes_any s w (by omega))
  generalize Ru.runes s.data.toList = xs at *
  go_enter Tryd.func13, Tryd.ntmps13
  go_wp2_with fail
  refine k1.out.mono ?_; rintro e w1 ⟨v1, rfl, own1, hb1⟩
  go_wp2_with fail
  refine (Ch.downs_any v1 xs w1 (by omega) (Sl.IntsAt.of_own own1) hok.out).mono ?_; rintro e w2 ⟨v2, rfl, own2, hb2⟩
  have hzz := hb1.size
  have I1 := (Sl.IntsAt.of_own own1).below hb2 (Nat.le_refl _)
  have I2 := Sl.IntsAt.of_own own2
  have hbw0 := hb1.trans (hb2.mono hzz)
  have hsz0 := hbw0.size
  clear own1 own2 hb1 hb2 k1 hzz
  by_cases hx0 : xs = []
  · subst hx0
    rcases I1 with ⟨rfl, _⟩ | ⟨b, off, cap, rfl, _, _⟩
    all_goals
      go_wp2
      refine wp_loop_rounds 1 ?_
      rw [rounds_succ]
      have hcv := Sl.run_string (P := Tryd.prog) (w2.alloc (.cells #[] 21)) 25 9 21 (.slice (some ⟨w2.heap.size, 0, none⟩) 0 0) [] Tryd.underlying25 Tryd.underlying21 Tryd.underlying9 (Sl.IntsAt.of_own (Sl.own_empty w2 21))
      go_wp2
      go_ret
      exact ⟨rfl, hbw0.alloc hsz0 _⟩
  · rcases I1 with ⟨rfl, hxx⟩ | ⟨b, off, cap, rfl, hb, hc⟩
    · exact absurd hxx hx0
    rcases I2 with ⟨rfl, hxx⟩ | ⟨b2, off2, cap2, rfl, hb2, hc2⟩
    · exact absurd (List.length_eq_zero_iff.1 (by rw [← Ch.downF_length false xs, hxx]; rfl)) hx0
    rw [Ch.downF_length] at hc2
    rw [Ch.downF_length]
    have HC := Lib.hid hc; clear hc
    have HC2 := Lib.hid hc2; clear hc2
    clear hx0
    go_wp2
    go_loopw [5, 6] (fun v i wr => ∃ (k : Nat) (acc : List Int), k ≤ xs.length ∧ i = .int .i64 k ∧ wr.ownsRow w2.heap.size 21 1 v acc.length (acc.map (Value.int .i32)) ∧ Below w2.heap.size w2 wr ∧ acc ++ Ch.titleF (if k = 0 then false else Ch.letterB (xs.getD (k - 1) 0)) (xs.drop k) = Ch.titleF false xs ∧ acc.length ≤ 2 * k) (fun _ i _ => xs.length - (intOf i).toNat)
    case atStart => exact ⟨0, [], Nat.zero_le _, rfl, Sl.own_empty w2 21, (Below.refl _ _).alloc (Nat.le_refl _) _, by simp, by simp⟩
    case round =>
      obtain ⟨k, acc, hk, rfl, hown, hbw, hacc, hal⟩ := hrel
      have HACC := Lib.hid hacc; clear hacc
      by_cases hlt : k < xs.length
      · have hgo : ∀ i, i < xs.length → wr.cell? ⟨b, off + i, none⟩ = some (.int .i32 (xs.getD i 0)) := fun i hi => (hbw.cell (p := ⟨b, off + i, none⟩) hb).trans (HC.out i hi)
        have hgo2 : wr.cell? ⟨b2, off2 + k, none⟩ = some (.int .i32 ((Ch.downF false xs).getD k 0)) := (hbw.cell (p := ⟨b2, off2 + k, none⟩) hb2).trans (HC2.out k hlt)
        have hok2 : ∀ i, i < xs.length → -2147483648 ≤ xs.getD i 0 ∧ xs.getD i 0 ≤ 2147483647 := fun i hi => by
          have h := hok.out (xs.getD i 0) (by simp [List.getElem?_eq_getElem hi])
          unfold Ru.okR at h
          omega
        have HOK := Lib.hid hok2; clear hok2
        have hsw := hbw.size
        have hnth := Ch.down_nth xs k hlt
        rw [hnth] at hgo2
        clear hnth
        have hstep := Ch.titleF_drop false xs k hlt
        have c0 := hgo k hlt
        have d0 := Ch.letter_eq _ (HOK.out k hlt).1 (HOK.out k hlt).2
        have HGO := Lib.hid hgo; clear hgo
        generalize hr : xs.getD k 0 = r at c0 d0 hstep hgo2
        have HR := Lib.hid hr; clear hr
        have D0 := Lib.hid d0; clear d0
        rcases Nat.eq_zero_or_pos k with hk0 | hk0
        · subst hk0
          rw [Nat.add_zero] at c0 hgo2
          simp only [if_true] at hgo2 hstep
          generalize hsm : Ch.smallR false r xs[0 + 1]? = sm at hgo2 hstep
          clear hsm
          have HSTEP := Lib.hid hstep; clear hstep
          cases hL : Ch.letterR r
          · go_wp2_with fail
            refine (Ch.letterR_any _ _).mono ?_; rintro e w3 ⟨rfl, hb3⟩
            have bw3 := hbw.trans (hb3.mono (by omega))
            have sz3 := hb3.size
            have own3 := Sl.own_below hown hb3 (Nat.le_refl _)
            have c3 := (hb3.cell (p := ⟨b, off, none⟩) (by show b < _; omega)).trans c0
            have g3 := (hb3.cell (p := ⟨b2, off2, none⟩) (by show b2 < _; omega)).trans hgo2
            clear hown hbw hb3 c0 hgo2
            go_wp2_with (at_builtin; refine wpList_append_own _ rfl _ _ 25 rfl w2.heap.size 21 i0 (.int .i32 0) 1 4 Tryd.underlying25 hi hz0 hz1 hz2 rfl (by decide) _ _ _ rfl (own3.alloc _) ⟨w3.heap.size, 0, none⟩ 1 1 [.int .i32 (sm)] rfl rfl (Sl.one_new _ _ _) ?c2 ?c3 ?c4 ?c5 ?_)
            case c2 => first | rfl | (intro u hu; simp at hu; subst hu; rfl) | (intro u hu; simp at hu; rcases hu with rfl | rfl <;> rfl) | exact ⟨rfl, rfl⟩
            case c3 => unfold maxLen; omega
            case c4 => omega
            case c5 => first | omega | (simp; omega)
            intro v' wz hown' hgrow _
            have hbz := Sl.below_own (bw3.alloc (by omega) _) (own3.alloc _) hgrow (Nat.le_refl _) (by simp; omega)
            clear own3 bw3 hgrow
            go_wp2
            go_roundw
            case rel =>
              refine ⟨0 + 1, acc ++ [sm], by omega, by go_num, by simpa using hown', hbz, ?_, by simp only [List.length_append, List.length_cons, List.length_nil]; omega⟩
              have hs := HSTEP.out
              have ha : acc ++ Ch.titleF false (xs.drop 0) = Ch.titleF false xs := HACC.out
              rw [hs] at ha
              rw [List.append_assoc]
              refine Eq.trans ?_ ha
              refine congrArg (acc ++ ·) ?_
              rw [if_neg (Nat.succ_ne_zero 0)]
              rw [show xs.getD (0 + 1 - 1) 0 = _ from HR.out]
              simp only [D0.out, hL, Bool.not_false, Bool.or_true, if_true]
              try rfl
            case measure => simp [intOf]; omega
          · by_cases h32 : r = 223
            · subst h32
              go_wp2_with fail
              refine (Ch.letterR_any _ _).mono ?_; rintro e w3 ⟨rfl, hb3⟩
              have bw3 := hbw.trans (hb3.mono (by omega))
              have sz3 := hb3.size
              have own3 := Sl.own_below hown hb3 (Nat.le_refl _)
              have c3 := (hb3.cell (p := ⟨b, off, none⟩) (by show b < _; omega)).trans c0
              have g3 := (hb3.cell (p := ⟨b2, off2, none⟩) (by show b2 < _; omega)).trans hgo2
              clear hown hbw hb3 c0 hgo2
              go_wp2_with (at_builtin; refine wpList_append_own _ rfl _ _ 25 rfl w2.heap.size 21 i0 (.int .i32 0) 1 4 Tryd.underlying25 hi hz0 hz1 hz2 rfl (by decide) _ _ _ rfl (own3.alloc _) ⟨w3.heap.size, 0, none⟩ 2 2 [.int .i32 83, .int .i32 115] rfl rfl (Sl.two_new _ _ _ _) ?c2 ?c3 ?c4 ?c5 ?_)
              case c2 => first | rfl | (intro u hu; simp at hu; subst hu; rfl) | (intro u hu; simp at hu; rcases hu with rfl | rfl <;> rfl) | exact ⟨rfl, rfl⟩
              case c3 => unfold maxLen; omega
              case c4 => omega
              case c5 => first | omega | (simp; omega)
              intro v' wz hown' hgrow _
              have hbz := Sl.below_own (bw3.alloc (by omega) _) (own3.alloc _) hgrow (Nat.le_refl _) (by simp; omega)
              clear own3 bw3 hgrow
              go_wp2
              go_roundw
              case rel =>
                refine ⟨0 + 1, acc ++ [83, 115], by omega, by go_num, by simpa using hown', hbz, ?_, by simp only [List.length_append, List.length_cons, List.length_nil]; omega⟩
                have hs := HSTEP.out
                have ha : acc ++ Ch.titleF false (xs.drop 0) = Ch.titleF false xs := HACC.out
                rw [hs] at ha
                rw [List.append_assoc]
                refine Eq.trans ?_ ha
                refine congrArg (acc ++ ·) ?_
                rw [if_neg (Nat.succ_ne_zero 0)]
                rw [show xs.getD (0 + 1 - 1) 0 = _ from HR.out]
                simp only [D0.out, hL, Bool.not_true, Bool.or_false, Bool.false_eq_true, if_false, if_true]
                try rfl
              case measure => simp [intOf]; omega
            · have h32b : (r == 223) = false := by simpa using h32
              have H32 := Lib.hid h32; clear h32
              have UPE := Lib.hid (Ch.up_eq r)
              go_wp2_with fail
              refine (Ch.letterR_any _ _).mono ?_; rintro e w3 ⟨rfl, hb3⟩
              have bw3 := hbw.trans (hb3.mono (by omega))
              have sz3 := hb3.size
              have own3 := Sl.own_below hown hb3 (Nat.le_refl _)
              have c3 := (hb3.cell (p := ⟨b, off, none⟩) (by show b < _; omega)).trans c0
              have g3 := (hb3.cell (p := ⟨b2, off2, none⟩) (by show b2 < _; omega)).trans hgo2
              clear hown hbw hb3 c0 hgo2
              go_wp2_with (first | (go_at_call 19; refine (Ch.upR_any _ _).mono ?_; rintro e w' ⟨rfl, rfl⟩) | (at_builtin; refine wpList_append_own _ rfl _ _ 25 rfl w2.heap.size 21 i0 (.int .i32 0) 1 4 Tryd.underlying25 hi hz0 hz1 hz2 rfl (by decide) _ _ _ rfl (own3.alloc _) ⟨w3.heap.size, 0, none⟩ 1 1 [.int .i32 (Ch.upR r)] rfl rfl (Sl.one_new _ _ _) ?c2 ?c3 ?c4 ?c5 ?_))
              case c2 => first | rfl | (intro u hu; simp at hu; subst hu; rfl) | (intro u hu; simp at hu; rcases hu with rfl | rfl <;> rfl) | exact ⟨rfl, rfl⟩
              case c3 => unfold maxLen; omega
              case c4 => omega
              case c5 => first | omega | (simp; omega)
              intro v' wz hown' hgrow _
              have hbz := Sl.below_own (bw3.alloc (by omega) _) (own3.alloc _) hgrow (Nat.le_refl _) (by simp; omega)
              clear own3 bw3 hgrow
              go_wp2
              go_roundw
              case rel =>
                refine ⟨0 + 1, acc ++ [Ch.upR r], by omega, by go_num, by simpa using hown', hbz, ?_, by simp only [List.length_append, List.length_cons, List.length_nil]; omega⟩
                have hs := HSTEP.out
                have ha : acc ++ Ch.titleF false (xs.drop 0) = Ch.titleF false xs := HACC.out
                rw [hs] at ha
                rw [List.append_assoc]
                refine Eq.trans ?_ ha
                refine congrArg (acc ++ ·) ?_
                rw [if_neg (Nat.succ_ne_zero 0)]
                rw [show xs.getD (0 + 1 - 1) 0 = _ from HR.out]
                simp only [D0.out, hL, Bool.not_true, Bool.or_false, Bool.false_eq_true, if_false, UPE.out]
                rw [if_neg H32.out]
              case measure => simp [intOf]; omega
        · obtain ⟨j, rfl⟩ : ∃ j, k = j + 1 := ⟨k - 1, by omega⟩
          clear hk0
          simp only [if_neg (Nat.succ_ne_zero j)] at hgo2 hstep
          have cp := HGO.out j (by omega)
          have dp := Ch.letter_eq _ (HOK.out j (by omega)).1 (HOK.out j (by omega)).2
          have hpp : xs.getD (j + 1 - 1) 0 = xs.getD j 0 := rfl
          rw [hpp] at hstep hgo2
          clear hpp
          generalize hp0 : xs.getD j 0 = p at cp dp hstep hgo2
          have HP := Lib.hid hp0; clear hp0
          have DP := Lib.hid dp; clear dp
          generalize hsm : Ch.smallR (Ch.letterB p) r xs[j + 1 + 1]? = sm at hgo2 hstep
          clear hsm
          have HSTEP := Lib.hid hstep; clear hstep
          cases hL : Ch.letterR r
          · go_wp2_with fail
            refine (Ch.letterR_any _ _).mono ?_; rintro e w3 ⟨rfl, hb3⟩
            have bw3 := hbw.trans (hb3.mono (by omega))
            have sz3 := hb3.size
            have own3 := Sl.own_below hown hb3 (Nat.le_refl _)
            have c3 := (hb3.cell (p := ⟨b, off + (j + 1), none⟩) (by show b < _; omega)).trans c0
            have g3 := (hb3.cell (p := ⟨b2, off2 + (j + 1), none⟩) (by show b2 < _; omega)).trans hgo2
            clear hown hbw hb3 c0 hgo2
            go_wp2_with (at_builtin; refine wpList_append_own _ rfl _ _ 25 rfl w2.heap.size 21 i0 (.int .i32 0) 1 4 Tryd.underlying25 hi hz0 hz1 hz2 rfl (by decide) _ _ _ rfl (own3.alloc _) ⟨w3.heap.size, 0, none⟩ 1 1 [.int .i32 (sm)] rfl rfl (Sl.one_new _ _ _) ?c2 ?c3 ?c4 ?c5 ?_)
            case c2 => first | rfl | (intro u hu; simp at hu; subst hu; rfl) | (intro u hu; simp at hu; rcases hu with rfl | rfl <;> rfl) | exact ⟨rfl, rfl⟩
            case c3 => unfold maxLen; omega
            case c4 => omega
            case c5 => first | omega | (simp; omega)
            intro v' wz hown' hgrow _
            have hbz := Sl.below_own (bw3.alloc (by omega) _) (own3.alloc _) hgrow (Nat.le_refl _) (by simp; omega)
            clear own3 bw3 hgrow
            go_wp2
            go_roundw
            case rel =>
              refine ⟨(j + 1) + 1, acc ++ [sm], by omega, by go_num, by simpa using hown', hbz, ?_, by simp only [List.length_append, List.length_cons, List.length_nil]; omega⟩
              have hs := HSTEP.out
              have ha : acc ++ Ch.titleF (Ch.letterB (xs.getD j 0)) (xs.drop (j + 1)) = Ch.titleF false xs := HACC.out; rw [HP.out] at ha
              rw [hs] at ha
              rw [List.append_assoc]
              refine Eq.trans ?_ ha
              refine congrArg (acc ++ ·) ?_
              rw [if_neg (Nat.succ_ne_zero (j + 1))]
              rw [show xs.getD ((j + 1) + 1 - 1) 0 = _ from HR.out]
              simp only [D0.out, hL, Bool.not_false, Bool.or_true, if_true]
              try rfl
            case measure => simp [intOf]; omega
          · cases hpv : Ch.letterR p
            · by_cases h32 : r = 223
              · subst h32
                go_wp2_with fail
                refine (Ch.letterR_any _ _).mono ?_; rintro e w3 ⟨rfl, hb3⟩
                have bw3 := hbw.trans (hb3.mono (by omega))
                have sz3 := hb3.size
                have own3 := Sl.own_below hown hb3 (Nat.le_refl _)
                have c3 := (hb3.cell (p := ⟨b, off + (j + 1), none⟩) (by show b < _; omega)).trans c0
                have g3 := (hb3.cell (p := ⟨b2, off2 + (j + 1), none⟩) (by show b2 < _; omega)).trans hgo2
                have p3 := (hb3.cell (p := ⟨b, off + j, none⟩) (by show b < _; omega)).trans cp
                clear hown hbw hb3 c0 hgo2 cp
                go_wp2_with fail
                refine (Ch.letterR_any _ _).mono ?_; rintro e w4 ⟨rfl, hb4⟩
                have bw4 := bw3.trans (hb4.mono (by omega))
                have sz4 := hb4.size
                have own4 := Sl.own_below own3 hb4 (Nat.le_refl _)
                have c4 := (hb4.cell (p := ⟨b, off + (j + 1), none⟩) (by show b < _; omega)).trans c3
                have g4 := (hb4.cell (p := ⟨b2, off2 + (j + 1), none⟩) (by show b2 < _; omega)).trans g3
                clear own3 bw3 hb4 c3 g3 p3
                go_wp2_with (at_builtin; refine wpList_append_own _ rfl _ _ 25 rfl w2.heap.size 21 i0 (.int .i32 0) 1 4 Tryd.underlying25 hi hz0 hz1 hz2 rfl (by decide) _ _ _ rfl (own4.alloc _) ⟨w4.heap.size, 0, none⟩ 2 2 [.int .i32 83, .int .i32 115] rfl rfl (Sl.two_new _ _ _ _) ?c2 ?c3 ?c4 ?c5 ?_)
                case c2 => first | rfl | (intro u hu; simp at hu; subst hu; rfl) | (intro u hu; simp at hu; rcases hu with rfl | rfl <;> rfl) | exact ⟨rfl, rfl⟩
                case c3 => unfold maxLen; omega
                case c4 => omega
                case c5 => first | omega | (simp; omega)
                intro v' wz hown' hgrow _
                have hbz := Sl.below_own (bw4.alloc (by omega) _) (own4.alloc _) hgrow (Nat.le_refl _) (by simp; omega)
                clear own4 bw4 hgrow
                go_wp2
                go_roundw
                case rel =>
                  refine ⟨(j + 1) + 1, acc ++ [83, 115], by omega, by go_num, by simpa using hown', hbz, ?_, by simp only [List.length_append, List.length_cons, List.length_nil]; omega⟩
                  have hs := HSTEP.out
                  have ha : acc ++ Ch.titleF (Ch.letterB (xs.getD j 0)) (xs.drop (j + 1)) = Ch.titleF false xs := HACC.out; rw [HP.out] at ha
                  rw [hs] at ha
                  rw [List.append_assoc]
                  refine Eq.trans ?_ ha
                  refine congrArg (acc ++ ·) ?_
                  rw [if_neg (Nat.succ_ne_zero (j + 1))]
                  rw [show xs.getD ((j + 1) + 1 - 1) 0 = _ from HR.out]
                  simp only [D0.out, DP.out, hpv, hL, Bool.not_true, Bool.or_false, Bool.false_eq_true, if_false, if_true]
                  try rfl
                case measure => simp [intOf]; omega
              · have h32b : (r == 223) = false := by simpa using h32
                have H32 := Lib.hid h32; clear h32
                have UPE := Lib.hid (Ch.up_eq r)
                go_wp2_with fail
                refine (Ch.letterR_any _ _).mono ?_; rintro e w3 ⟨rfl, hb3⟩
                have bw3 := hbw.trans (hb3.mono (by omega))
                have sz3 := hb3.size
                have own3 := Sl.own_below hown hb3 (Nat.le_refl _)
                have c3 := (hb3.cell (p := ⟨b, off + (j + 1), none⟩) (by show b < _; omega)).trans c0
                have g3 := (hb3.cell (p := ⟨b2, off2 + (j + 1), none⟩) (by show b2 < _; omega)).trans hgo2
                have p3 := (hb3.cell (p := ⟨b, off + j, none⟩) (by show b < _; omega)).trans cp
                clear hown hbw hb3 c0 hgo2 cp
                go_wp2_with fail
                refine (Ch.letterR_any _ _).mono ?_; rintro e w4 ⟨rfl, hb4⟩
                have bw4 := bw3.trans (hb4.mono (by omega))
                have sz4 := hb4.size
                have own4 := Sl.own_below own3 hb4 (Nat.le_refl _)
                have c4 := (hb4.cell (p := ⟨b, off + (j + 1), none⟩) (by show b < _; omega)).trans c3
                have g4 := (hb4.cell (p := ⟨b2, off2 + (j + 1), none⟩) (by show b2 < _; omega)).trans g3
                clear own3 bw3 hb4 c3 g3 p3
                go_wp2_with (first | (go_at_call 19; refine (Ch.upR_any _ _).mono ?_; rintro e w' ⟨rfl, rfl⟩) | (at_builtin; refine wpList_append_own _ rfl _ _ 25 rfl w2.heap.size 21 i0 (.int .i32 0) 1 4 Tryd.underlying25 hi hz0 hz1 hz2 rfl (by decide) _ _ _ rfl (own4.alloc _) ⟨w4.heap.size, 0, none⟩ 1 1 [.int .i32 (Ch.upR r)] rfl rfl (Sl.one_new _ _ _) ?c2 ?c3 ?c4 ?c5 ?_))
                case c2 => first | rfl | (intro u hu; simp at hu; subst hu; rfl) | (intro u hu; simp at hu; rcases hu with rfl | rfl <;> rfl) | exact ⟨rfl, rfl⟩
                case c3 => unfold maxLen; omega
                case c4 => omega
                case c5 => first | omega | (simp; omega)
                intro v' wz hown' hgrow _
                have hbz := Sl.below_own (bw4.alloc (by omega) _) (own4.alloc _) hgrow (Nat.le_refl _) (by simp; omega)
                clear own4 bw4 hgrow
                go_wp2
                go_roundw
                case rel =>
                  refine ⟨(j + 1) + 1, acc ++ [Ch.upR r], by omega, by go_num, by simpa using hown', hbz, ?_, by simp only [List.length_append, List.length_cons, List.length_nil]; omega⟩
                  have hs := HSTEP.out
                  have ha : acc ++ Ch.titleF (Ch.letterB (xs.getD j 0)) (xs.drop (j + 1)) = Ch.titleF false xs := HACC.out; rw [HP.out] at ha
                  rw [hs] at ha
                  rw [List.append_assoc]
                  refine Eq.trans ?_ ha
                  refine congrArg (acc ++ ·) ?_
                  rw [if_neg (Nat.succ_ne_zero (j + 1))]
                  rw [show xs.getD ((j + 1) + 1 - 1) 0 = _ from HR.out]
                  simp only [D0.out, DP.out, hpv, hL, Bool.not_true, Bool.or_false, Bool.false_eq_true, if_false, UPE.out]
                  rw [if_neg H32.out]
                case measure => simp [intOf]; omega
            · go_wp2_with fail
              refine (Ch.letterR_any _ _).mono ?_; rintro e w3 ⟨rfl, hb3⟩
              have bw3 := hbw.trans (hb3.mono (by omega))
              have sz3 := hb3.size
              have own3 := Sl.own_below hown hb3 (Nat.le_refl _)
              have c3 := (hb3.cell (p := ⟨b, off + (j + 1), none⟩) (by show b < _; omega)).trans c0
              have g3 := (hb3.cell (p := ⟨b2, off2 + (j + 1), none⟩) (by show b2 < _; omega)).trans hgo2
              have p3 := (hb3.cell (p := ⟨b, off + j, none⟩) (by show b < _; omega)).trans cp
              clear hown hbw hb3 c0 hgo2 cp
              go_wp2_with fail
              refine (Ch.letterR_any _ _).mono ?_; rintro e w4 ⟨rfl, hb4⟩
              have bw4 := bw3.trans (hb4.mono (by omega))
              have sz4 := hb4.size
              have own4 := Sl.own_below own3 hb4 (Nat.le_refl _)
              have c4 := (hb4.cell (p := ⟨b, off + (j + 1), none⟩) (by show b < _; omega)).trans c3
              have g4 := (hb4.cell (p := ⟨b2, off2 + (j + 1), none⟩) (by show b2 < _; omega)).trans g3
              clear own3 bw3 hb4 c3 g3 p3
              go_wp2_with (at_builtin; refine wpList_append_own _ rfl _ _ 25 rfl w2.heap.size 21 i0 (.int .i32 0) 1 4 Tryd.underlying25 hi hz0 hz1 hz2 rfl (by decide) _ _ _ rfl (own4.alloc _) ⟨w4.heap.size, 0, none⟩ 1 1 [.int .i32 (sm)] rfl rfl (Sl.one_new _ _ _) ?c2 ?c3 ?c4 ?c5 ?_)
              case c2 => first | rfl | (intro u hu; simp at hu; subst hu; rfl) | (intro u hu; simp at hu; rcases hu with rfl | rfl <;> rfl) | exact ⟨rfl, rfl⟩
              case c3 => unfold maxLen; omega
              case c4 => omega
              case c5 => first | omega | (simp; omega)
              intro v' wz hown' hgrow _
              have hbz := Sl.below_own (bw4.alloc (by omega) _) (own4.alloc _) hgrow (Nat.le_refl _) (by simp; omega)
              clear own4 bw4 hgrow
              go_wp2
              go_roundw
              case rel =>
                refine ⟨(j + 1) + 1, acc ++ [sm], by omega, by go_num, by simpa using hown', hbz, ?_, by simp only [List.length_append, List.length_cons, List.length_nil]; omega⟩
                have hs := HSTEP.out
                have ha : acc ++ Ch.titleF (Ch.letterB (xs.getD j 0)) (xs.drop (j + 1)) = Ch.titleF false xs := HACC.out; rw [HP.out] at ha
                rw [hs] at ha
                rw [List.append_assoc]
                refine Eq.trans ?_ ha
                refine congrArg (acc ++ ·) ?_
                rw [if_neg (Nat.succ_ne_zero (j + 1))]
                rw [show xs.getD ((j + 1) + 1 - 1) 0 = _ from HR.out]
                simp only [DP.out, hpv, Bool.true_or, if_true]
                try rfl
              case measure => simp [intOf]; omega
      · have hcv := Sl.run_string (P := Tryd.prog) wr 25 9 21 _ _ Tryd.underlying25 Tryd.underlying21 Tryd.underlying9 (Sl.IntsAt.of_own hown)
        go_wp2
        go_ret
        have hacc2 := HACC.out
        rw [List.drop_eq_nil_of_le (by omega)] at hacc2
        simp only [Ch.titleF, List.append_nil] at hacc2
        rw [← hacc2]
        exact ⟨rfl, hbw0.trans (hbw.mono hsz0)⟩
end Go.Proofs.YtnkbeaeopcemjaaDoor
