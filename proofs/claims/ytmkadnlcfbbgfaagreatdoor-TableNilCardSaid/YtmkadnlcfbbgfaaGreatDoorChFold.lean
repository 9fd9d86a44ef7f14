/-
  The walk of chars.Fold: it gives the text folded, of every text of at most 2^43 bytes (valid UTF-8 or not); nothing that was there is changed.
-/
import Derived.Test.YtmkadnlcfbbgfaaGreatDoorBuild
import Derived.Test.YtmkadnlcfbbgfaaGreatDoorChWalks2
import Derived.Test.YtmkadnlcfbbgfaaGreatDoorChTextPlain
import Derived.WalkKit
import Derived.WalkSpells
import Derived.WalkLawsBesides
import Derived.Handy
import Derived.BigCall
import Derived.Lib.Hide
import Derived.Lib.RuneCount
namespace Go.Proofs.YtmkadnlcfbbgfaaGreatDoor
open Go.RowKit

theorem Ch.strCells_two (a b : UInt8) : Lib.strCells ⟨#[a, b]⟩ = Lib.byteCells [a, b] := by simp [Lib.strCells, Lib.byteCells]
theorem Ch.encs_one (r : Int) : Ru.encs [r] = Lib.encodeRune r := by simp [Ru.encs]

theorem Ch.upZ_bd (r : Int) (h0 : -2147483648 ≤ r) (h1 : r ≤ 2147483647) : -2147483648 ≤ Ch.upZ r ∧ Ch.upZ r ≤ 2147483647 := by
  have := Ch.pairZ_bound r h0 h1
  unfold Ch.upZ
  repeat' split
  all_goals omega
theorem Ch.downZ_bd (r : Int) (h0 : -2147483648 ≤ r) (h1 : r ≤ 2147483647) : -2147483648 ≤ Ch.downZ r ∧ Ch.downZ r ≤ 2147483647 := by
  have := Ch.pairZ_bound r h0 h1
  unfold Ch.downZ
  split
  all_goals omega

set_option maxHeartbeats 4000000 in
set_option maxRecDepth 1000000 in
theorem Ch.fold_any (s : ByteArray) (w : World) (hs : s.size ≤ 8796093022208) :
    Calls Tryz.prog 18 #[.string s] w fun e w' => e = .returned (.string ⟨(Ch.foldL s.data.toList).toArray⟩) ∧ Below w.heap.size w w' := by
  go_enter Tryz.func18, Tryz.ntmps18
  go_wp2
  go_loopw [] (fun wr => ∃ (pos : Nat) (acc : List UInt8), Lib.IsBuilderF 75 5 w.heap.size w.heap.size (Lib.byteCells acc) wr ∧ wr.heap[w.heap.size + 1]? = some (.stringIter s pos) ∧ Below w.heap.size w wr ∧ acc ++ Ru.mapT Ch.foldF (s.data.toList.drop pos) = Ch.foldL s.data.toList ∧ acc.length ≤ 8 * pos) (fun wr => s.size - wr.iterPos (w.heap.size + 1))
  case atStart =>
    refine ⟨0, [], (Lib.IsBuilderF.of (Lib.fresh_isBuilder 75 5 w)).alloc _, ?_, ((Below.refl _ w).alloc (Nat.le_refl _) _).alloc (by simp) _, rfl, by simp⟩
    have := World.iter_heap (w.alloc (.cells #[.pointer none, .slice none 0 0] 75)) s 0
    simpa using this
  case round =>
    obtain ⟨pos, acc, hI, hit, hbw, hacc, hal⟩ := hrel
    have hsz : w.heap.size + 1 < wr.heap.size := (Array.getElem?_eq_some_iff.1 hit).1
    have hacc := Lib.hid hacc
    by_cases hp : pos < s.size
    · have hnx : ∀ ty, (Instr.next (.pointer (some ⟨w.heap.size + 1, 0, none⟩)) true ty).run Tryz.prog wr = _ := fun ty => Lib.run_next_any_at wr (w.heap.size + 1) s pos ty hit hp
      have hwd := Lib.decode_width_pos s pos hp
      have hd1 := decode_le s pos
      have hI2 := hI.iterAt hit (pos + (Utf8.decode s pos).2)
      have hit2 := Lib.iterAt_heap wr (w.heap.size + 1) s pos (pos + (Utf8.decode s pos).2) hit
      have hbw2 := Lib.below_iterAt hbw (k := w.heap.size + 1) (by omega) s (pos + (Utf8.decode s pos).2)
      have hsz2 : w.heap.size ≤ (wr.iterAt (w.heap.size + 1) s (pos + (Utf8.decode s pos).2)).heap.size := by rw [Lib.iterAt_size]; omega
      have hst := Lib.hid (Ru.mapT_at Ch.foldF s pos hp)
      by_cases h32 : (Utf8.decode s pos).1 = 223
      · go_wp2_with (go_at_call 28; refine (Bl.writeString w.heap.size w.heap.size _ ⟨#[115, 115]⟩ _ hI2 (by rw [Lib.byteCells_length]; show acc.length + 2 ≤ _; omega) hsz2).mono ?_)
        rintro e W1 ⟨rfl, h1, b1, k1⟩
        go_wp2
        go_roundw
        case rel =>
          refine ⟨pos + (Utf8.decode s pos).2, acc ++ [115, 115], ?_, k1.iter hit2 (by omega), hbw2.trans b1, ?_, by simp; omega⟩
          · rw [Lib.byteCells_append, ← Ch.strCells_two]; exact Or.inr h1
          · rw [← hacc.out, hst.out, h32]; simp [Ch.foldF, Ru.encs, Lib.encodeRune, Lib.encodeRuneZ]
        case measure =>
          simp only [World.iterPos, k1.iter hit2 (by omega), hit]
          omega
      · have hub := Ch.upZ_bd (Utf8.decode s pos).1 (by omega) (by omega)
        have hub2 := Ch.downZ_bd _ hub.1 hub.2
        go_wp2_with (first | (go_at_call 31; refine (Ch.up_any _ _).mono ?_; rintro e w' ⟨rfl, rfl⟩) | (go_at_call 30; refine (Ch.down_any _ _).mono ?_; rintro e w' ⟨rfl, rfl⟩) | (go_at_call 29; refine (Bl.writeRune w.heap.size w.heap.size _ _ (by omega) (by omega) _ hI2 (by rw [Lib.byteCells_length]; omega) hsz2).mono ?_))
        rintro e W1 ⟨rfl, h1, b1, k1⟩
        go_wp2
        go_roundw
        case rel =>
          have hl4 := Lib.runeCells_le (Ch.downZ (Ch.upZ ((Utf8.decode s pos).1 : Int)))
          rw [Lib.runeCells_length] at hl4
          refine ⟨pos + (Utf8.decode s pos).2, acc ++ Lib.encodeRune (Ch.downZ (Ch.upZ (Utf8.decode s pos).1)), ?_, k1.iter hit2 (by omega), hbw2.trans b1, ?_, by simp; omega⟩
          · rw [Lib.byteCells_append, Lib.byteCells_encodeRune]; exact Or.inr h1
          · rw [← hacc.out, hst.out]; unfold Ch.foldF; rw [if_neg (by omega), Ch.encs_one, List.append_assoc]
        case measure =>
          simp only [World.iterPos, k1.iter hit2 (by omega), hit]
          omega
    · have hnx : ∀ ty, (Instr.next (.pointer (some ⟨w.heap.size + 1, 0, none⟩)) true ty).run Tryz.prog wr = _ := fun ty => Lib.run_next_end_at wr (w.heap.size + 1) s pos ty hit hp
      go_wp2_with (go_at_call 32; refine (Tryz.Builder_String_any_k w.heap.size w.heap.size acc _ hI (by omega)).mono ?_)
      rintro e W1 ⟨rfl, _, b1, _⟩
      go_wp2
      go_ret
      have hacc2 := hacc.out
      rw [Ru.mapT_end _ s pos hp, List.append_nil] at hacc2
      rw [← hacc2]
      exact ⟨rfl, hbw.trans b1⟩
end Go.Proofs.YtmkadnlcfbbgfaaGreatDoor
