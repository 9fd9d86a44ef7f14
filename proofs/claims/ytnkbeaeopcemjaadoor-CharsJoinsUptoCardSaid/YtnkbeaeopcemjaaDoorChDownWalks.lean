/-
  The walks of chars.small, Downcase and Titlecase: they give the text in small letters, and as a title, of every text of at most 2^43 bytes, where package utf8's two tables hold what their initialisers lay; nothing that was there is changed.
-/
import Derived.Test.YtnkbeaeopcemjaaDoorChTextWalks
import Derived.Test.YtnkbeaeopcemjaaDoorChDownPlain
import Derived.WalkKit
import Derived.WalkSpells
import Derived.WalkLawsBesides
import Derived.Handy
import Derived.BigCall
import Derived.Lib.Hide
import Derived.Lib.RuneCount
namespace Go.Proofs.YtnkbeaeopcemjaaDoor
open Go.RowKit

theorem Ch.decodeGo_at (s : ByteArray) (q : Nat) (h : q < s.size) : Lib.decodeGo (s.extract q s.size) = Utf8.decode s q := by
  have hz : (s.extract q s.size).size = s.size - q := by simp
  unfold Lib.decodeGo
  rw [if_neg (by omega), Ru.decode_drop, Ru.decode_drop, List.drop_zero, Lib.extract_data, List.take_of_length_le (by simp)]
theorem Ch.decodeGo_end (s : ByteArray) (q : Nat) (h : ¬ q < s.size) : Lib.decodeGo (s.extract q s.size) = (65533, 0) := by
  have hz : (s.extract q s.size).size = s.size - q := by simp
  unfold Lib.decodeGo
  rw [if_pos (by omega)]

theorem Ch.tabs_below {g3 g4 : Nat} {w w' : World} (h : Lib.Utf8Tabs g3 g4 w) (hb : Below w.heap.size w w') : Lib.Utf8Tabs g3 g4 w' := Utf8Tabs_below h hb

set_option maxHeartbeats 4000000 in
theorem Ch.small_other (s : ByteArray) (i r : Int) (ahead : Bool) (w : World) (hr : (r != 931) = true) :
    Calls Tryd.prog 20 #[.string s, .int .i64 i, .int .i32 r, .bool ahead] w fun e w' => e = .returned (.int .i32 (Ch.downZ r)) ∧ w = w' := by
  go_enter Tryd.func20, Tryd.ntmps20
  go_wp2_with (go_at_call 23; refine (Ch.down_any _ _).mono ?_; rintro e w' ⟨rfl, rfl⟩)
  go_ret
  exact ⟨rfl, rfl⟩

set_option maxHeartbeats 4000000 in
theorem Ch.small_sigma (s : ByteArray) (pos n : Nat) (ahead : Bool) (w : World) (hs : s.size ≤ 8796093022208) (hp : pos < s.size) (hn : (Utf8.decode s pos).2 = n) (hT : Lib.Utf8Tabs 0 1 w) :
    Calls Tryd.prog 20 #[.string s, .int .i64 pos, .int .i32 931, .bool ahead] w fun e w' => e = .returned (.int .i32 (Ch.sig ahead (Ch.nxt s (pos + n)))) ∧ Below w.heap.size w w' := by
  have hle : pos + n ≤ s.size := by
    have := Ru.width_le (s.data.toList.drop pos) (by intro h2; have := congrArg List.length h2; simp at this; omega)
    rw [← Ru.decode_drop, hn] at this
    simp at this
    omega
  have k1 := fun w hT => Tryd.utf8_DecodeRuneInString (s.extract pos s.size) w hT
  rw [Ch.decodeGo_at s pos hp, hn] at k1
  have j1 := Lib.hid k1; clear k1
  have k2 := fun w hT => Tryd.utf8_DecodeRuneInString (s.extract (pos + n) s.size) w hT
  have HT := Lib.hid hT; clear hT
  have HN := Lib.hid hn; clear hn
  have hpi : (0 : Int) ≤ (pos : Int) := by omega
  have hpl : (pos : Int) ≤ (s.size : Int) := by omega
  have hql : (pos : Int) + (n : Int) ≤ (s.size : Int) := by omega
  by_cases hq : pos + n < s.size
  · rw [Ch.decodeGo_at s (pos + n) hq] at k2
    have j2 := Lib.hid k2; clear k2
    have hx : Ch.nxt s (pos + n) = some ((Utf8.decode s (pos + n)).1 : Int) := by unfold Ch.nxt; rw [if_pos hq]
    rw [hx]
    clear hx
    have hne : ((pos : Int) + (n : Int) == (s.size : Int)) = false := by rw [beq_eq_false_iff_ne]; omega
    generalize ((Utf8.decode s (pos + n)).1 : Int) = x at *
    generalize ((Utf8.decode s (pos + n)).2 : Int) = m at *
    go_enter Tryd.func20, Tryd.ntmps20
    go_wp2_with fail
    refine (j1.out _ HT.out).mono ?_; rintro e w1 ⟨rfl, hb1⟩
    go_wp2_with fail
    refine (j2.out _ (Ch.tabs_below HT.out hb1)).mono ?_; rintro e w2 ⟨rfl, hb2⟩
    have hz1 := hb1.size
    have hbb := hb1.trans (hb2.mono hz1)
    cases ahead
    · go_wp2_with (go_at_call 21; refine (Ch.letter_any _ _).mono ?_; rintro e w' ⟨rfl, rfl⟩)
      go_ret
      exact ⟨rfl, hbb⟩
    · cases hx : Ch.letterB x
      all_goals
        go_wp2_with (go_at_call 21; refine (Ch.letter_any _ _).mono ?_; rintro e w' ⟨rfl, rfl⟩)
        go_ret
        refine ⟨?_, hbb⟩
        simp [Ch.sig, hx]
  · rw [Ch.decodeGo_end s (pos + n) hq] at k2
    have j2 := Lib.hid k2; clear k2
    have hx : Ch.nxt s (pos + n) = none := by unfold Ch.nxt; rw [if_neg hq]
    rw [hx]
    clear hx
    have hne : ((pos : Int) + (n : Int) == (s.size : Int)) = true := by rw [beq_iff_eq]; omega
    go_enter Tryd.func20, Tryd.ntmps20
    go_wp2_with fail
    refine (j1.out _ HT.out).mono ?_; rintro e w1 ⟨rfl, hb1⟩
    go_wp2_with fail
    refine (j2.out _ (Ch.tabs_below HT.out hb1)).mono ?_; rintro e w2 ⟨rfl, hb2⟩
    have hz1 := hb1.size
    have hbb := hb1.trans (hb2.mono hz1)
    cases ahead
    all_goals
      go_wp2
      go_ret
      exact ⟨rfl, hbb⟩

theorem Ch.smallAt_any (s : ByteArray) (pos : Nat) (ahead : Bool) (w : World) (hs : s.size ≤ 8796093022208) (hp : pos < s.size) (hT : Lib.Utf8Tabs 0 1 w) :
    Calls Tryd.prog 20 #[.string s, .int .i64 pos, .int .i32 (Utf8.decode s pos).1, .bool ahead] w fun e w' => e = .returned (.int .i32 (Ch.smallR ahead (Utf8.decode s pos).1 (Ch.nxt s (pos + (Utf8.decode s pos).2)))) ∧ Below w.heap.size w w' := by
  unfold Ch.smallR
  by_cases hr : ((Utf8.decode s pos).1 : Int) = 931
  · rw [if_pos hr, hr]
    exact Ch.small_sigma s pos _ ahead w hs hp rfl hT
  · rw [if_neg hr]
    refine (Ch.small_other s pos _ ahead w (by simpa using hr)).mono ?_
    rintro e w' ⟨rfl, rfl⟩
    exact ⟨rfl, Below.refl _ _⟩

theorem Bl.below {T e : TypeId} {B b : Nat} {bs : List Value} {w w' : World} (h : Lib.IsBuilderF T e B b bs w) (hb : Below w.heap.size w w') : Lib.IsBuilderF T e B b bs w' := by
  have key : ∀ p, Lib.BuilderAtF T e B b p bs w → Lib.BuilderAtF T e B b p bs w' := by
    rintro p ⟨hB, v, hbk, hown, hne⟩
    refine ⟨hB, v, by rw [hb.block b (Array.getElem?_eq_some_iff.1 hbk).1]; exact hbk, ⟨hown.1, ?_⟩, hne⟩
    rcases hown.2 with hv | ⟨g, cap, cur, fz, hv, hB', hg, rest⟩
    · exact .inl hv
    · exact .inr ⟨g, cap, cur, fz, hv, hB', by rw [hb.block g (Array.getElem?_eq_some_iff.1 hg).1]; exact hg, rest⟩
  exact h.elim (fun x => .inl (key _ x)) (fun x => .inr (key _ x))

theorem Ch.smallR_bd (a : Bool) (r : Int) (x : Option Int) (h0 : -2147483648 ≤ r) (h1 : r ≤ 2147483647) : -2147483648 ≤ Ch.smallR a r x ∧ Ch.smallR a r x ≤ 2147483647 := by
  have := Ch.downZ_bd r h0 h1
  unfold Ch.smallR Ch.sig
  repeat' split
  all_goals omega

set_option maxHeartbeats 4000000 in
set_option maxRecDepth 1000000 in
theorem Ch.downcase_any (s : ByteArray) (w : World) (hs : s.size ≤ 8796093022208) (hT : Lib.Utf8Tabs 0 1 w) :
    Calls Tryd.prog 8 #[.string s] w fun e w' => e = .returned (.string ⟨(Ch.downL s.data.toList).toArray⟩) ∧ Below w.heap.size w w' := by
  have HT := Lib.hid hT; clear hT
  go_enter Tryd.func8, Tryd.ntmps8
  go_wp2
  go_loopw [4] (fun v4 wr => ∃ (pos : Nat) (acc : List UInt8) (b : Bool), v4 = .bool b ∧ Lib.IsBuilderF 32 5 w.heap.size w.heap.size (Lib.byteCells acc) wr ∧ wr.heap[w.heap.size + 1]? = some (.stringIter s pos) ∧ Below w.heap.size w wr ∧ acc ++ Ru.encs (Ch.downF b (Ru.runes (s.data.toList.drop pos))) = Ch.downL s.data.toList ∧ acc.length ≤ 8 * pos) (fun _ wr => s.size - wr.iterPos (w.heap.size + 1))
  case atStart =>
    refine ⟨0, [], false, rfl, (Lib.IsBuilderF.of (Lib.fresh_isBuilder 32 5 w)).alloc _, ?_, ((Below.refl _ w).alloc (Nat.le_refl _) _).alloc (by simp) _, rfl, by simp⟩
    have := World.iter_heap (w.alloc (.cells #[.pointer none, .slice none 0 0] 32)) s 0
    simpa using this
  case round =>
    obtain ⟨pos, acc, b, rfl, hI, hit, hbw, hacc, hal⟩ := hrel
    have hsz : w.heap.size + 1 < wr.heap.size := (Array.getElem?_eq_some_iff.1 hit).1
    have hacc := Lib.hid hacc
    by_cases hp : pos < s.size
    · have hnx : ∀ ty, (Instr.next (.pointer (some ⟨w.heap.size + 1, 0, none⟩)) true ty).run Tryd.prog wr = _ := fun ty => Lib.run_next_any_at wr (w.heap.size + 1) s pos ty hit hp
      have hwd := Lib.decode_width_pos s pos hp
      have hd1 := decode_le s pos
      have hI2 := hI.iterAt hit (pos + (Utf8.decode s pos).2)
      have hit2 := Lib.iterAt_heap wr (w.heap.size + 1) s pos (pos + (Utf8.decode s pos).2) hit
      have hbw2 := Lib.below_iterAt hbw (k := w.heap.size + 1) (by omega) s (pos + (Utf8.decode s pos).2)
      have hsz2 : w.heap.size + 1 < (wr.iterAt (w.heap.size + 1) s (pos + (Utf8.decode s pos).2)).heap.size := by rw [Lib.iterAt_size]; omega
      have hst := Lib.hid (Ch.runes_at s pos hp)
      have hnt := Lib.hid (Ch.nxt_eq s (pos + (Utf8.decode s pos).2))
      have hub := Ch.smallR_bd b (Utf8.decode s pos).1 (Ch.nxt s (pos + (Utf8.decode s pos).2)) (by omega) (by omega)
      have ksm := Lib.hid (Ch.smallAt_any s pos b _ hs hp (Ch.tabs_below HT.out hbw2))
      go_wp2_with fail
      refine ksm.out.mono ?_; rintro e w1 ⟨rfl, hb1⟩
      have hI3 := Bl.below hI2 hb1
      have hit3 : w1.heap[w.heap.size + 1]? = some (.stringIter s (pos + (Utf8.decode s pos).2)) := by rw [hb1.block _ hsz2]; exact hit2
      have hbw3 := hbw2.trans (hb1.mono (by omega))
      have hz1 := hb1.size
      clear hI hI2 hit2 hbw hbw2 ksm hnx
      go_wp2_with (first | (go_at_call 21; refine (Ch.letter_any _ _).mono ?_; rintro e w' ⟨rfl, rfl⟩) | (go_at_call 17; refine (Bl.writeRune w.heap.size w.heap.size _ _ (by omega) (by omega) _ hI3 (by rw [Lib.byteCells_length]; omega) (by omega)).mono ?_))
      rintro e W1 ⟨rfl, h1, b1, k1⟩
      go_wp2_with (go_at_call 21; refine (Ch.letter_any _ _).mono ?_; rintro e w' ⟨rfl, rfl⟩)
      go_roundw
      case rel =>
        have hl4 := Lib.runeCells_le (Ch.smallR b (Utf8.decode s pos).1 (Ch.nxt s (pos + (Utf8.decode s pos).2)))
        rw [Lib.runeCells_length] at hl4
        refine ⟨pos + (Utf8.decode s pos).2, acc ++ Lib.encodeRune (Ch.smallR b (Utf8.decode s pos).1 (Ch.nxt s (pos + (Utf8.decode s pos).2))), _, rfl, ?_, k1.iter hit3 (by omega), hbw3.trans b1, ?_, by simp; omega⟩
        · rw [Lib.byteCells_append, Lib.byteCells_encodeRune]; exact Or.inr h1
        · rw [← hacc.out, hst.out]
          simp only [Ch.downF]
          rw [Ru.encs_cons, hnt.out, List.append_assoc]
      case measure =>
        simp only [World.iterPos, k1.iter hit3 (by omega), hit]
        omega
    · have hnx : ∀ ty, (Instr.next (.pointer (some ⟨w.heap.size + 1, 0, none⟩)) true ty).run Tryd.prog wr = _ := fun ty => Lib.run_next_end_at wr (w.heap.size + 1) s pos ty hit hp
      go_wp2_with (go_at_call 18; refine (Tryd.Builder_String_any_k w.heap.size w.heap.size acc _ hI (by omega)).mono ?_)
      rintro e W1 ⟨rfl, _, b1, _⟩
      go_wp2
      go_ret
      have hacc2 := hacc.out
      rw [Ch.runes_end s pos hp] at hacc2
      simp only [Ch.downF, Ru.encs_nil, List.append_nil] at hacc2
      rw [← hacc2]
      exact ⟨rfl, hbw.trans b1⟩
end Go.Proofs.YtnkbeaeopcemjaaDoor
