/-
  The walk of chars.Titlecase: it gives the text as a title, of every text of at most 2^43 bytes, where package utf8's two tables hold what their initialisers lay; nothing that was there is changed.
-/
import Derived.Test.YtnkbeaeopcemjaaDoorChDownWalks
import Derived.WalkKit
import Derived.WalkSpells
import Derived.WalkLawsBesides
import Derived.Handy
import Derived.BigCall
import Derived.Lib.Hide
import Derived.Lib.RuneCount
namespace Go.Proofs.YtnkbeaeopcemjaaDoor
open Go.RowKit

set_option maxHeartbeats 4000000 in
set_option maxRecDepth 1000000 in
theorem Ch.titlecase_any (s : ByteArray) (w : World) (hs : s.size ≤ 8796093022208) (hT : Lib.Utf8Tabs 0 1 w) :
    Calls Tryd.prog 12 #[.string s] w fun e w' => e = .returned (.string ⟨(Ch.titleL s.data.toList).toArray⟩) ∧ Below w.heap.size w w' := by
  have HT := Lib.hid hT; clear hT
  go_enter Tryd.func12, Tryd.ntmps12
  go_wp2
  go_loopw [4] (fun v4 wr => ∃ (pos : Nat) (acc : List UInt8) (b : Bool), v4 = .bool b ∧ Lib.IsBuilderF 32 5 w.heap.size w.heap.size (Lib.byteCells acc) wr ∧ wr.heap[w.heap.size + 1]? = some (.stringIter s pos) ∧ Below w.heap.size w wr ∧ acc ++ Ru.encs (Ch.titleF b (Ru.runes (s.data.toList.drop pos))) = Ch.titleL s.data.toList ∧ acc.length ≤ 8 * pos) (fun _ wr => s.size - wr.iterPos (w.heap.size + 1))
  case atStart =>
    refine ⟨0, [], false, rfl, (Lib.IsBuilderF.of (Lib.fresh_isBuilder 32 5 w)).alloc _, ?_, ((Below.refl _ w).alloc (Nat.le_refl _) _).alloc (by simp) _, rfl, by simp⟩
    have := World.iter_heap (w.alloc (.cells #[.pointer none, .slice none 0 0] 32)) s 0
    simpa using this
  case round =>
    obtain ⟨pos, acc, b, rfl, hI, hit, hbw, hacc, hal⟩ := hrel
    have hsz : w.heap.size + 1 < wr.heap.size := (Array.getElem?_eq_some_iff.1 hit).1
    have hacc := Lib.hid hacc
    by_cases hp : pos < s.size
    · have hnx : ∀ ty, (Instr.next (.pointer (some ⟨w.heap.size + 1, 0, none⟩)) true ty).run Tryd.prog wr = _ := fun ty => Lib.run_next_any_at wr (w.heap.size + 1) s pos ty hit hp
      have hwd := Lib.decode_width_pos s pos hp
      have hd1 := decode_le s pos
      have hI2 := hI.iterAt hit (pos + (Utf8.decode s pos).2)
      have hit2 := Lib.iterAt_heap wr (w.heap.size + 1) s pos (pos + (Utf8.decode s pos).2) hit
      have hbw2 := Lib.below_iterAt hbw (k := w.heap.size + 1) (by omega) s (pos + (Utf8.decode s pos).2)
      have hsz2 : w.heap.size + 1 < (wr.iterAt (w.heap.size + 1) s (pos + (Utf8.decode s pos).2)).heap.size := by rw [Lib.iterAt_size]; omega
      have hst := Lib.hid (Ch.runes_at s pos hp)
      have hnt := Lib.hid (Ch.nxt_eq s (pos + (Utf8.decode s pos).2))
      by_cases hb : b = true
      · subst hb
        have hub := Ch.smallR_bd true (Utf8.decode s pos).1 (Ch.nxt s (pos + (Utf8.decode s pos).2)) (by omega) (by omega)
        have ksm := Lib.hid (Ch.smallAt_any s pos true _ hs hp (Ch.tabs_below HT.out hbw2))
        go_wp2_with fail
        refine ksm.out.mono ?_; rintro e w1 ⟨rfl, hb1⟩
        have hI3 := Bl.below hI2 hb1
        have hit3 : w1.heap[w.heap.size + 1]? = some (.stringIter s (pos + (Utf8.decode s pos).2)) := by rw [hb1.block _ hsz2]; exact hit2
        have hbw3 := hbw2.trans (hb1.mono (by omega))
        have hz1 := hb1.size
        clear hI hI2 hit2 hbw hbw2 ksm hnx
        go_wp2_with (go_at_call 17; refine (Bl.writeRune w.heap.size w.heap.size _ _ (by omega) (by omega) _ hI3 (by rw [Lib.byteCells_length]; omega) (by omega)).mono ?_)
        rintro e W1 ⟨rfl, h1, b1, k1⟩
        go_wp2_with (go_at_call 21; refine (Ch.letter_any _ _).mono ?_; rintro e w' ⟨rfl, rfl⟩)
        go_roundw
        case rel =>
          have hl4 := Lib.runeCells_le (Ch.smallR true (Utf8.decode s pos).1 (Ch.nxt s (pos + (Utf8.decode s pos).2)))
          rw [Lib.runeCells_length] at hl4
          refine ⟨pos + (Utf8.decode s pos).2, acc ++ Lib.encodeRune (Ch.smallR true (Utf8.decode s pos).1 (Ch.nxt s (pos + (Utf8.decode s pos).2))), Ch.letterB (Utf8.decode s pos).1, rfl, ?_, k1.iter hit3 (by omega), hbw3.trans b1, ?_, by simp; omega⟩
          · rw [Lib.byteCells_append, Lib.byteCells_encodeRune]; exact Or.inr h1
          · rw [← hacc.out, hst.out]
            simp only [Ch.titleF]
            rw [if_pos (by simp ), Ru.encs_append, Ch.encs_one, hnt.out, List.append_assoc]
        case measure =>
          simp only [World.iterPos, k1.iter hit3 (by omega), hit]
          omega
      have hb0 : b = false := by simpa using hb
      subst hb0
      clear hb
      cases hb : Ch.letterB (Utf8.decode s pos).1
      · have hub := Ch.smallR_bd false (Utf8.decode s pos).1 (Ch.nxt s (pos + (Utf8.decode s pos).2)) (by omega) (by omega)
        have ksm := Lib.hid (Ch.smallAt_any s pos false _ hs hp (Ch.tabs_below HT.out hbw2))
        go_wp2_with fail
        refine (Ch.letter_any _ _).mono ?_; rintro e w' ⟨rfl, rfl⟩
        go_wp2_with fail
        refine ksm.out.mono ?_; rintro e w1 ⟨rfl, hb1⟩
        have hI3 := Bl.below hI2 hb1
        have hit3 : w1.heap[w.heap.size + 1]? = some (.stringIter s (pos + (Utf8.decode s pos).2)) := by rw [hb1.block _ hsz2]; exact hit2
        have hbw3 := hbw2.trans (hb1.mono (by omega))
        have hz1 := hb1.size
        clear hI hI2 hit2 hbw hbw2 ksm hnx
        go_wp2_with (go_at_call 17; refine (Bl.writeRune w.heap.size w.heap.size _ _ (by omega) (by omega) _ hI3 (by rw [Lib.byteCells_length]; omega) (by omega)).mono ?_)
        rintro e W1 ⟨rfl, h1, b1, k1⟩
        go_wp2_with (go_at_call 21; refine (Ch.letter_any _ _).mono ?_; rintro e w' ⟨rfl, rfl⟩)
        go_roundw
        case rel =>
          have hl4 := Lib.runeCells_le (Ch.smallR false (Utf8.decode s pos).1 (Ch.nxt s (pos + (Utf8.decode s pos).2)))
          rw [Lib.runeCells_length] at hl4
          refine ⟨pos + (Utf8.decode s pos).2, acc ++ Lib.encodeRune (Ch.smallR false (Utf8.decode s pos).1 (Ch.nxt s (pos + (Utf8.decode s pos).2))), false, rfl, ?_, k1.iter hit3 (by omega), hbw3.trans b1, ?_, by simp; omega⟩
          · rw [Lib.byteCells_append, Lib.byteCells_encodeRune]; exact Or.inr h1
          · rw [← hacc.out, hst.out]
            simp only [Ch.titleF]
            rw [hb, if_pos (by simp), Ru.encs_append, Ch.encs_one, hnt.out, List.append_assoc]
        case measure =>
          simp only [World.iterPos, k1.iter hit3 (by omega), hit]
          omega
      by_cases h32 : (Utf8.decode s pos).1 = 223
      · go_wp2_with (first | (go_at_call 21; refine (Ch.letter_any _ _).mono ?_; rintro e w' ⟨rfl, rfl⟩) | (go_at_call 16; refine (Bl.writeString w.heap.size w.heap.size _ ⟨#[83, 115]⟩ _ hI2 (by rw [Lib.byteCells_length]; show acc.length + 2 ≤ _; omega) (by omega)).mono ?_))
        rintro e W1 ⟨rfl, h1, b1, k1⟩
        go_wp2_with (go_at_call 21; refine (Ch.letter_any _ _).mono ?_; rintro e w' ⟨rfl, rfl⟩)
        go_roundw
        case rel =>
          refine ⟨pos + (Utf8.decode s pos).2, acc ++ [83, 115], true, ?_, ?_, k1.iter hit2 (by omega), hbw2.trans b1, ?_, by simp; omega⟩
          · first | rfl | (rw [← hb, h32]; rfl)
          · rw [Lib.byteCells_append, ← Ch.strCells_two]; exact Or.inr h1
          · rw [← hacc.out, hst.out]
            simp only [Ch.titleF]
            rw [hb, if_neg (by simp), if_pos (by omega), Ru.encs_append, List.append_assoc]
            rfl
        case measure =>
          simp only [World.iterPos, k1.iter hit2 (by omega), hit]
          omega
      · have hub := Ch.upZ_bd (Utf8.decode s pos).1 (by omega) (by omega)
        go_wp2_with (first | (go_at_call 21; refine (Ch.letter_any _ _).mono ?_; rintro e w' ⟨rfl, rfl⟩) | (go_at_call 15; refine (Ch.up_any _ _).mono ?_; rintro e w' ⟨rfl, rfl⟩) | (go_at_call 17; refine (Bl.writeRune w.heap.size w.heap.size _ _ (by omega) (by omega) _ hI2 (by rw [Lib.byteCells_length]; omega) (by omega)).mono ?_))
        rintro e W1 ⟨rfl, h1, b1, k1⟩
        go_wp2_with (go_at_call 21; refine (Ch.letter_any _ _).mono ?_; rintro e w' ⟨rfl, rfl⟩)
        go_roundw
        case rel =>
          have hl4 := Lib.runeCells_le (Ch.upZ ((Utf8.decode s pos).1 : Int))
          rw [Lib.runeCells_length] at hl4
          refine ⟨pos + (Utf8.decode s pos).2, acc ++ Lib.encodeRune (Ch.upZ (Utf8.decode s pos).1), true, rfl, ?_, k1.iter hit2 (by omega), hbw2.trans b1, ?_, by simp; omega⟩
          · rw [Lib.byteCells_append, Lib.byteCells_encodeRune]; exact Or.inr h1
          · rw [← hacc.out, hst.out]
            simp only [Ch.titleF]
            rw [hb, if_neg (by simp), if_neg (by omega), Ru.encs_append, Ch.encs_one, List.append_assoc]
        case measure =>
          simp only [World.iterPos, k1.iter hit2 (by omega), hit]
          omega
    · have hnx : ∀ ty, (Instr.next (.pointer (some ⟨w.heap.size + 1, 0, none⟩)) true ty).run Tryd.prog wr = _ := fun ty => Lib.run_next_end_at wr (w.heap.size + 1) s pos ty hit hp
      go_wp2_with (go_at_call 18; refine (Tryd.Builder_String_any_k w.heap.size w.heap.size acc _ hI (by omega)).mono ?_)
      rintro e W1 ⟨rfl, _, b1, _⟩
      go_wp2
      go_ret
      have hacc2 := hacc.out
      rw [Ch.runes_end s pos hp] at hacc2
      simp only [Ch.titleF, Ru.encs_nil, List.append_nil] at hacc2
      rw [← hacc2]
      exact ⟨rfl, hbw.trans b1⟩
end Go.Proofs.YtnkbeaeopcemjaaDoor
