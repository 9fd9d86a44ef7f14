/-
  The walks of sextantref01's Runes, Upcase and Fold: they give the characters of a text, and the document's texts; what they make lies above all that was there. Condition: the text has at most 2^43 bytes.
-/
import Derived.Test.YtnkbeaeopcemjaaDoorChRefWalks2
import Derived.Test.YtnkbeaeopcemjaaDoorChDownPlain
import Derived.Test.YtnkbeaeopcemjaaDoorChTextWalks
import Derived.Test.YtnkbeaeopcemjaaDoorSl
import Derived.WalkKit
import Derived.WalkSpells
import Derived.WalkLawsBesides
import Derived.Handy
import Derived.BigCall
import Derived.Lib.Hide
import Derived.Lib.RuneCount
namespace Go.Proofs.YtnkbeaeopcemjaaDoor
open Go.RowKit

theorem Ch.infoRune : (Tryd.prog.info? 21).map (fun i => (i.zero, i.size, i.bytes)) = some (some (.int .i32 0), 1, 4) := by kernel_rfl

set_option maxHeartbeats 4000000 in
set_option maxRecDepth 1000000 in
theorem Ch.runes_any (s : ByteArray) (w : World) (hs : s.size ≤ 8796093022208) :
    Calls Tryd.prog 14 #[.string s] w fun e w' => ∃ v, e = .returned v ∧ w'.ownsRow w.heap.size 21 1 v (Ru.runes s.data.toList).length ((Ru.runes s.data.toList).map (Value.int .i32)) ∧ Below w.heap.size w w' := by
  obtain ⟨i0, hi, hz0, hz1, hz2⟩ := info_parts Ch.infoRune
  go_enter Tryd.func14, Tryd.ntmps14
  go_wp2
  go_loopw [3] (fun v wr => ∃ (pos : Nat) (xs : List Int), wr.ownsRow w.heap.size 21 1 v xs.length (xs.map (Value.int .i32)) ∧ wr.heap[w.heap.size + 1]? = some (.stringIter s pos) ∧ Below w.heap.size w wr ∧ xs ++ Ru.runes (s.data.toList.drop pos) = Ru.runes s.data.toList ∧ xs.length ≤ pos) (fun _ wr => s.size - wr.iterPos (w.heap.size + 1))
  case atStart =>
    refine ⟨0, [], Sl.own_below (Sl.own_empty w 21) ((Below.refl _ _).alloc (Nat.le_refl _) _) (Nat.le_refl _), ?_, ((Below.refl _ w).alloc (Nat.le_refl _) _).alloc (by simp) _, rfl, by simp⟩
    have := World.iter_heap (w.alloc (.cells #[] 21)) s 0
    simpa using this
  case round =>
    obtain ⟨pos, xs, hown, hit, hbw, hacc, hal⟩ := hrel
    have hsz : w.heap.size + 1 < wr.heap.size := (Array.getElem?_eq_some_iff.1 hit).1
    have hacc := Lib.hid hacc
    by_cases hp : pos < s.size
    · have hnx : ∀ ty, (Instr.next (.pointer (some ⟨w.heap.size + 1, 0, none⟩)) true ty).run Tryd.prog wr = _ := fun ty => Lib.run_next_any_at wr (w.heap.size + 1) s pos ty hit hp
      have hwd := Lib.decode_width_pos s pos hp
      have hd1 := decode_le s pos
      have hown2 := Sl.own_iterAt hown hit (pos + (Utf8.decode s pos).2)
      have hit2 := Lib.iterAt_heap wr (w.heap.size + 1) s pos (pos + (Utf8.decode s pos).2) hit
      have hbw2 := Lib.below_iterAt hbw (k := w.heap.size + 1) (by omega) s (pos + (Utf8.decode s pos).2)
      have hsz2 : w.heap.size + 1 < (wr.iterAt (w.heap.size + 1) s (pos + (Utf8.decode s pos).2)).heap.size := by rw [Lib.iterAt_size]; omega
      have hst := Lib.hid (Ch.runes_at s pos hp)
      clear hown hbw
      generalize wr.iterAt (w.heap.size + 1) s (pos + (Utf8.decode s pos).2) = W2 at *
      go_wp2_with (at_builtin; refine wpList_append_own _ rfl _ _ 25 rfl w.heap.size 21 i0 (.int .i32 0) 1 4 Tryd.underlying25 hi hz0 hz1 hz2 rfl (by decide) _ _ _ rfl (hown2.alloc _) ⟨W2.heap.size, 0, none⟩ 1 1 [.int .i32 (Utf8.decode s pos).1] rfl rfl (Sl.one_new _ _ _) ?c2 ?c3 ?c4 ?c5 ?_)
      case c2 => intro u hu; simp at hu; subst hu; rfl
      case c3 => unfold maxLen; omega
      case c4 => omega
      case c5 => simp; omega
      intro v' w1 hown' hgrow _
      have hit3 : w1.heap[w.heap.size + 1]? = some (.stringIter s (pos + (Utf8.decode s pos).2)) := Sl.iter_grown (hown2.alloc _) hgrow (by rw [Lib.alloc_old W2 _ _ hsz2]; exact hit2)
      have hbw3 := Sl.below_own (hbw2.alloc (by omega) _) (hown2.alloc _) hgrow (Nat.le_refl _) (by simp; omega)
      clear hown2 hit2 hbw2 hnx hgrow
      go_wp2
      go_roundw
      case rel =>
        refine ⟨pos + (Utf8.decode s pos).2, xs ++ [((Utf8.decode s pos).1 : Int)], by simpa using hown', hit3, hbw3, ?_, by simp; omega⟩
        rw [← hacc.out, hst.out, List.append_assoc]
        rfl
      case measure =>
        simp only [World.iterPos, hit3, hit]
        omega
    · have hnx : ∀ ty, (Instr.next (.pointer (some ⟨w.heap.size + 1, 0, none⟩)) true ty).run Tryd.prog wr = _ := fun ty => Lib.run_next_end_at wr (w.heap.size + 1) s pos ty hit hp
      go_wp2
      go_ret
      have hacc2 := hacc.out
      rw [Ch.runes_end s pos hp, List.append_nil] at hacc2
      rw [← hacc2]
      exact ⟨_, rfl, hown, hbw⟩

set_option maxHeartbeats 4000000 in
set_option maxRecDepth 1000000 in
theorem Ch.upcaseR_any (s : ByteArray) (w : World) (hs : s.size ≤ 8796093022208) :
    Calls Tryd.prog 7 #[.string s] w fun e w' => e = .returned (.string ⟨(Ru.mapT Ch.upF s.data.toList).toArray⟩) ∧ Below w.heap.size w w' := by
  obtain ⟨i0, hi, hz0, hz1, hz2⟩ := info_parts Ch.infoRune
  go_enter Tryd.func7, Tryd.ntmps7
  go_wp2
  go_loopw [3] (fun v wr => ∃ (pos : Nat) (xs : List Int), wr.ownsRow w.heap.size 21 1 v xs.length (xs.map (Value.int .i32)) ∧ wr.heap[w.heap.size + 1]? = some (.stringIter s pos) ∧ Below w.heap.size w wr ∧ xs ++ (Ru.runes (s.data.toList.drop pos)).flatMap Ch.upF = (Ru.runes s.data.toList).flatMap Ch.upF ∧ xs.length ≤ 2 * pos) (fun _ wr => s.size - wr.iterPos (w.heap.size + 1))
  case atStart =>
    refine ⟨0, [], Sl.own_below (Sl.own_empty w 21) ((Below.refl _ _).alloc (Nat.le_refl _) _) (Nat.le_refl _), ?_, ((Below.refl _ w).alloc (Nat.le_refl _) _).alloc (by simp) _, rfl, by simp⟩
    have := World.iter_heap (w.alloc (.cells #[] 21)) s 0
    simpa using this
  case round =>

    obtain ⟨pos, xs, hown, hit, hbw, hacc, hal⟩ := hrel
    have hsz : w.heap.size + 1 < wr.heap.size := (Array.getElem?_eq_some_iff.1 hit).1
    have hacc := Lib.hid hacc
    by_cases hp : pos < s.size
    · have hnx : ∀ ty, (Instr.next (.pointer (some ⟨w.heap.size + 1, 0, none⟩)) true ty).run Tryd.prog wr = _ := fun ty => Lib.run_next_any_at wr (w.heap.size + 1) s pos ty hit hp
      have hwd := Lib.decode_width_pos s pos hp
      have hd1 := decode_le s pos
      have hown2 := Sl.own_iterAt hown hit (pos + (Utf8.decode s pos).2)
      have hit2 := Lib.iterAt_heap wr (w.heap.size + 1) s pos (pos + (Utf8.decode s pos).2) hit
      have hbw2 := Lib.below_iterAt hbw (k := w.heap.size + 1) (by omega) s (pos + (Utf8.decode s pos).2)
      have hsz2 : w.heap.size + 1 < (wr.iterAt (w.heap.size + 1) s (pos + (Utf8.decode s pos).2)).heap.size := by rw [Lib.iterAt_size]; omega
      have hst := Lib.hid (Ch.runes_at s pos hp)
      clear hown hbw
      generalize wr.iterAt (w.heap.size + 1) s (pos + (Utf8.decode s pos).2) = W2 at *
      by_cases h32 : (Utf8.decode s pos).1 = 223
      · go_wp2_with (at_builtin; refine wpList_append_own _ rfl _ _ 25 rfl w.heap.size 21 i0 (.int .i32 0) 1 4 Tryd.underlying25 hi hz0 hz1 hz2 rfl (by decide) _ _ _ rfl (hown2.alloc _) ⟨W2.heap.size, 0, none⟩ 2 2 [.int .i32 83, .int .i32 83] rfl rfl (Sl.two_new _ _ _ _) ?c2 ?c3 ?c4 ?c5 ?_)
        case c2 => intro u hu; simp at hu; subst hu; rfl
        case c3 => unfold maxLen; omega
        case c4 => omega
        case c5 => simp; omega
        intro v' w1 hown' hgrow _
        have hit3 : w1.heap[w.heap.size + 1]? = some (.stringIter s (pos + (Utf8.decode s pos).2)) := Sl.iter_grown (hown2.alloc _) hgrow (by rw [Lib.alloc_old W2 _ _ hsz2]; exact hit2)
        have hbw3 := Sl.below_own (hbw2.alloc (by omega) _) (hown2.alloc _) hgrow (Nat.le_refl _) (by simp; omega)
        clear hown2 hit2 hbw2 hnx hgrow
        go_wp2
        go_roundw
        case rel =>
          refine ⟨pos + (Utf8.decode s pos).2, xs ++ [83, 83], by simpa using hown', hit3, hbw3, ?_, by simp; omega⟩
          rw [← hacc.out, hst.out, List.flatMap_cons, List.append_assoc, h32]
          rfl
        case measure =>
          simp only [World.iterPos, hit3, hit]
          omega
      · have hup := Lib.hid (Ch.up_eq (Utf8.decode s pos).1)
        go_wp2_with (first | (go_at_call 19; refine (Ch.upR_any _ _).mono ?_; rintro e w' ⟨rfl, rfl⟩) | (at_builtin; refine wpList_append_own _ rfl _ _ 25 rfl w.heap.size 21 i0 (.int .i32 0) 1 4 Tryd.underlying25 hi hz0 hz1 hz2 rfl (by decide) _ _ _ rfl (hown2.alloc _) ⟨W2.heap.size, 0, none⟩ 1 1 [.int .i32 (Ch.upR (Utf8.decode s pos).1)] rfl rfl (Sl.one_new _ _ _) ?c2 ?c3 ?c4 ?c5 ?_))
        case c2 => intro u hu; simp at hu; subst hu; rfl
        case c3 => unfold maxLen; omega
        case c4 => omega
        case c5 => simp; omega
        intro v' w1 hown' hgrow _
        have hit3 : w1.heap[w.heap.size + 1]? = some (.stringIter s (pos + (Utf8.decode s pos).2)) := Sl.iter_grown (hown2.alloc _) hgrow (by rw [Lib.alloc_old W2 _ _ hsz2]; exact hit2)
        have hbw3 := Sl.below_own (hbw2.alloc (by omega) _) (hown2.alloc _) hgrow (Nat.le_refl _) (by simp; omega)
        clear hown2 hit2 hbw2 hnx hgrow
        go_wp2
        go_roundw
        case rel =>
          refine ⟨pos + (Utf8.decode s pos).2, xs ++ [Ch.upR (Utf8.decode s pos).1], by simpa using hown', hit3, hbw3, ?_, by simp; omega⟩
          rw [← hacc.out, hst.out, List.flatMap_cons, List.append_assoc, ← hup.out]
          unfold Ch.upF
          rw [if_neg (by omega)]
        case measure =>
          simp only [World.iterPos, hit3, hit]
          omega
    · have hnx : ∀ ty, (Instr.next (.pointer (some ⟨w.heap.size + 1, 0, none⟩)) true ty).run Tryd.prog wr = _ := fun ty => Lib.run_next_end_at wr (w.heap.size + 1) s pos ty hit hp
      have hcv := Sl.run_string (P := Tryd.prog) wr 25 9 21 _ xs Tryd.underlying25 Tryd.underlying21 Tryd.underlying9 (Sl.IntsAt.of_own hown)
      go_wp2
      go_ret
      have hacc2 := hacc.out
      rw [Ch.runes_end s pos hp, List.flatMap_nil, List.append_nil] at hacc2
      unfold Ru.mapT
      rw [← hacc2]
      exact ⟨rfl, hbw⟩

set_option maxHeartbeats 4000000 in
set_option maxRecDepth 1000000 in
theorem Ch.foldR_any (s : ByteArray) (w : World) (hs : s.size ≤ 8796093022208) :
    Calls Tryd.prog 11 #[.string s] w fun e w' => e = .returned (.string ⟨(Ru.mapT Ch.foldF s.data.toList).toArray⟩) ∧ Below w.heap.size w w' := by
  obtain ⟨i0, hi, hz0, hz1, hz2⟩ := info_parts Ch.infoRune
  go_enter Tryd.func11, Tryd.ntmps11
  go_wp2
  go_loopw [3] (fun v wr => ∃ (pos : Nat) (xs : List Int), wr.ownsRow w.heap.size 21 1 v xs.length (xs.map (Value.int .i32)) ∧ wr.heap[w.heap.size + 1]? = some (.stringIter s pos) ∧ Below w.heap.size w wr ∧ xs ++ (Ru.runes (s.data.toList.drop pos)).flatMap Ch.foldF = (Ru.runes s.data.toList).flatMap Ch.foldF ∧ xs.length ≤ 2 * pos) (fun _ wr => s.size - wr.iterPos (w.heap.size + 1))
  case atStart =>
    refine ⟨0, [], Sl.own_below (Sl.own_empty w 21) ((Below.refl _ _).alloc (Nat.le_refl _) _) (Nat.le_refl _), ?_, ((Below.refl _ w).alloc (Nat.le_refl _) _).alloc (by simp) _, rfl, by simp⟩
    have := World.iter_heap (w.alloc (.cells #[] 21)) s 0
    simpa using this
  case round =>

    obtain ⟨pos, xs, hown, hit, hbw, hacc, hal⟩ := hrel
    have hsz : w.heap.size + 1 < wr.heap.size := (Array.getElem?_eq_some_iff.1 hit).1
    have hacc := Lib.hid hacc
    by_cases hp : pos < s.size
    · have hnx : ∀ ty, (Instr.next (.pointer (some ⟨w.heap.size + 1, 0, none⟩)) true ty).run Tryd.prog wr = _ := fun ty => Lib.run_next_any_at wr (w.heap.size + 1) s pos ty hit hp
      have hwd := Lib.decode_width_pos s pos hp
      have hd1 := decode_le s pos
      have hown2 := Sl.own_iterAt hown hit (pos + (Utf8.decode s pos).2)
      have hit2 := Lib.iterAt_heap wr (w.heap.size + 1) s pos (pos + (Utf8.decode s pos).2) hit
      have hbw2 := Lib.below_iterAt hbw (k := w.heap.size + 1) (by omega) s (pos + (Utf8.decode s pos).2)
      have hsz2 : w.heap.size + 1 < (wr.iterAt (w.heap.size + 1) s (pos + (Utf8.decode s pos).2)).heap.size := by rw [Lib.iterAt_size]; omega
      have hst := Lib.hid (Ch.runes_at s pos hp)
      clear hown hbw
      generalize wr.iterAt (w.heap.size + 1) s (pos + (Utf8.decode s pos).2) = W2 at *
      by_cases h32 : (Utf8.decode s pos).1 = 223
      · go_wp2_with (at_builtin; refine wpList_append_own _ rfl _ _ 25 rfl w.heap.size 21 i0 (.int .i32 0) 1 4 Tryd.underlying25 hi hz0 hz1 hz2 rfl (by decide) _ _ _ rfl (hown2.alloc _) ⟨W2.heap.size, 0, none⟩ 2 2 [.int .i32 115, .int .i32 115] rfl rfl (Sl.two_new _ _ _ _) ?c2 ?c3 ?c4 ?c5 ?_)
        case c2 => intro u hu; simp at hu; subst hu; rfl
        case c3 => unfold maxLen; omega
        case c4 => omega
        case c5 => simp; omega
        intro v' w1 hown' hgrow _
        have hit3 : w1.heap[w.heap.size + 1]? = some (.stringIter s (pos + (Utf8.decode s pos).2)) := Sl.iter_grown (hown2.alloc _) hgrow (by rw [Lib.alloc_old W2 _ _ hsz2]; exact hit2)
        have hbw3 := Sl.below_own (hbw2.alloc (by omega) _) (hown2.alloc _) hgrow (Nat.le_refl _) (by simp; omega)
        clear hown2 hit2 hbw2 hnx hgrow
        go_wp2
        go_roundw
        case rel =>
          refine ⟨pos + (Utf8.decode s pos).2, xs ++ [115, 115], by simpa using hown', hit3, hbw3, ?_, by simp; omega⟩
          rw [← hacc.out, hst.out, List.flatMap_cons, List.append_assoc, h32]
          rfl
        case measure =>
          simp only [World.iterPos, hit3, hit]
          omega
      · have hub := Ch.upZ_bd (Utf8.decode s pos).1 (by omega) (by omega)
        have hup := Lib.hid (Ch.up_eq (Utf8.decode s pos).1)
        have hdn := Lib.hid (Ch.down_eq _ hub.1 hub.2)
        go_wp2_with (go_at_call 19; refine (Ch.upR_any _ _).mono ?_; rintro e w' ⟨rfl, rfl⟩)
        refine (Ch.downR_any _ _).mono ?_; rintro e w3 ⟨rfl, hb3⟩
        have hown3 := Sl.own_below hown2 hb3 (Nat.le_refl _)
        have hit2b : w3.heap[w.heap.size + 1]? = some (.stringIter s (pos + (Utf8.decode s pos).2)) := by rw [hb3.block _ hsz2]; exact hit2
        have hbw2b := hbw2.trans (hb3.mono (by omega))
        have hz3 := hb3.size
        clear hown2 hit2 hbw2 hnx hb3
        go_wp2_with (at_builtin; refine wpList_append_own _ rfl _ _ 25 rfl w.heap.size 21 i0 (.int .i32 0) 1 4 Tryd.underlying25 hi hz0 hz1 hz2 rfl (by decide) _ _ _ rfl (hown3.alloc _) ⟨w3.heap.size, 0, none⟩ 1 1 [.int .i32 (Ch.downR (Ch.upR (Utf8.decode s pos).1))] rfl rfl (Sl.one_new _ _ _) ?c2 ?c3 ?c4 ?c5 ?_)
        case c2 => intro u hu; simp at hu; subst hu; rfl
        case c3 => unfold maxLen; omega
        case c4 => omega
        case c5 => simp; omega
        intro v' w1 hown' hgrow _
        have hit3 : w1.heap[w.heap.size + 1]? = some (.stringIter s (pos + (Utf8.decode s pos).2)) := Sl.iter_grown (hown3.alloc _) hgrow (by rw [Lib.alloc_old w3 _ _ (by omega)]; exact hit2b)
        have hbw3 := Sl.below_own (hbw2b.alloc (by omega) _) (hown3.alloc _) hgrow (Nat.le_refl _) (by simp; omega)
        clear hown3 hit2b hbw2b hgrow
        go_wp2
        go_roundw
        case rel =>
          refine ⟨pos + (Utf8.decode s pos).2, xs ++ [Ch.downR (Ch.upR (Utf8.decode s pos).1)], by simpa using hown', hit3, hbw3, ?_, by simp; omega⟩
          rw [← hacc.out, hst.out, List.flatMap_cons, List.append_assoc, ← hup.out, ← hdn.out]
          unfold Ch.foldF
          rw [if_neg (by omega)]
        case measure =>
          simp only [World.iterPos, hit3, hit]
          omega
    · have hnx : ∀ ty, (Instr.next (.pointer (some ⟨w.heap.size + 1, 0, none⟩)) true ty).run Tryd.prog wr = _ := fun ty => Lib.run_next_end_at wr (w.heap.size + 1) s pos ty hit hp
      have hcv := Sl.run_string (P := Tryd.prog) wr 25 9 21 _ xs Tryd.underlying25 Tryd.underlying21 Tryd.underlying9 (Sl.IntsAt.of_own hown)
      go_wp2
      go_ret
      have hacc2 := hacc.out
      rw [Ch.runes_end s pos hp, List.flatMap_nil, List.append_nil] at hacc2
      unfold Ru.mapT
      rw [← hacc2]
      exact ⟨rfl, hbw⟩
end Go.Proofs.YtnkbeaeopcemjaaDoor
