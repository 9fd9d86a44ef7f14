/-
  write's character. write's text of a string. strings.IndexRune of write's two constant texts at a character beyond ASCII: it is not there.
-/
import Derived.Lib.Hide
import Derived.Deep.RegionHeld3
import Derived.WalkMore
import Derived.Test.YtdjllmogejkimaaGreatDoorQi
import Derived.Test.YtdjllmogejkimaaGreatDoorQa
import Derived.Test.YtdjllmogejkimaaGreatDoorShelfQ
set_option linter.unusedVariables false
set_option linter.unusedSimpArgs false
namespace Go.Proofs.YtdjllmogejkimaaGreatDoor
open Go.RowKit

set_option maxHeartbeats 4000000 in
set_option maxRecDepth 1000000 in
theorem Wt.char_any (B b : Nat) (m : Bool) (bs : List Value) (r : Nat) (w : World) (h : Wr.Is B b m bs w) (hd : Wt.Bits w) (hr : Ru.okR (r : Int)) (hlen : bs.length + 100 ≤ 140737488355328) :
    Calls Tryz.prog 146 #[.pointer (some ⟨b, 0, none⟩), .int .i32 r] w fun e w' => e = .returned (.tuple #[]) ∧ (Wr.At B b (.pointer (some ⟨b, 0, none⟩)) m (bs ++ Lib.byteCells (Wt.chr m r)) w' ∧ Wt.Kept B b w w') := by
  have hm := h.marked
  obtain ⟨hBb, hblt⟩ := h.blk
  have hrb : r ≤ 1114111 := by unfold Ru.okR at hr; omega
  have hwr : IntKind.i64.wrap (r : Int) = r := by rw [IntKind.wrap_i64]; omega
  have KR := Wt.writeRune B b m bs (r : Int) (by omega) (by omega) w h (by omega) (by omega)
  rw [← Lib.byteCells_encodeRune] at KR
  have KH := Wt.hex_any B b m bs r [35, 92] [] w h hrb hd (by decide) (by decide) hlen
  have KW : ∀ s : ByteArray, ∀ l : List UInt8, s = ⟨l.toArray⟩ → l.length ≤ 50 → Calls Tryz.prog 43 #[.pointer (some ⟨b, 0, none⟩), .string s] w fun e w' => e = .returned (.tuple #[.int .i64 s.size, .nilIface]) ∧ (Wr.At B b (.pointer (some ⟨b, 0, none⟩)) m (bs ++ Lib.byteCells l) w' ∧ Wt.Kept B b w w') := by
    intro s l hs hl
    subst hs
    refine (Wt.writeString B b m bs _ w h (by show _ + (List.toArray _).size ≤ _; simp; omega) (by omega)).mono ?_
    rintro e w2 ⟨rfl, h2, k2⟩
    rw [Wt.strCells_str] at h2
    exact ⟨rfl, h2, k2⟩
  have HR := Lib.hid KR
  have HH := Lib.hid KH
  have HW := Lib.hid KW
  obtain ⟨N, hN⟩ : ∃ z, Wt.name (r : Int) = z := ⟨_, rfl⟩
  have hN9 := Wt.name_len (r : Int)
  rw [hN] at hN9
  have KN := fun w' => Wt.CharName_any (r : Int) w'
  rw [hN] at KN
  obtain ⟨o, ho⟩ : ∃ z, Wt.odd (r : Int) = z := ⟨_, rfl⟩
  obtain ⟨q, hq⟩ : ∃ z, Ch.blankB (r : Int) = z := ⟨_, rfl⟩
  have KO := fun w' => Wt.odd_any (r : Int) w'
  have KB := fun w' => Wt.blank_any (r : Int) w'
  rw [ho] at KO
  rw [hq] at KB
  have HC : Hid (Wt.chr m (r : Int) = if m = false then Lib.encodeRune r else if N ≠ [] then [35, 92] ++ N else if (o || q) = true then [35, 92, 120] ++ Wt.hex r else [35, 92] ++ Lib.encodeRune r) := Lib.hid (by
    unfold Wt.chr
    rw [hN, ho, hq]
    rfl)
  have he4 := Wt.enc_len (r : Int)
  have henc : Utf8.encode (r : Int) = ⟨(Lib.encodeRune (r : Int)).toArray⟩ := Sl.encode_eq _
  obtain ⟨E, hE⟩ : ∃ z, Lib.encodeRune (r : Int) = z := ⟨_, rfl⟩
  rw [hE] at HC HR he4 henc
  have HR2 := Lib.hid (And.intro HW HR)
  clear KR KH KW HW HR h hd ho hq hN hr hE
  cases m
  · go_enter Tryz.func146, Tryz.ntmps146
    go_wp2_with (first
      | (go_at_call 160; refine (KN _).mono ?_; rintro e w' ⟨rfl, rfl⟩)
      | (go_at_call 44; refine HR2.out.2.out.mono ?_; rintro e w2 ⟨rfl, h2, k2⟩))
    go_end0
    refine ⟨rfl, ?_, k2⟩
    rw [HC.out]
    exact h2
  · cases N with
    | cons a l =>
      have hl : l.length + 1 ≤ 9 := hN9
      have hne : ((⟨(a :: l).toArray⟩ : ByteArray) = ⟨#[]⟩) = False := eq_false (fun e => by have := congrArg ByteArray.size e; simp [ByteArray.size] at this)
      have hs1 : (9223372036854775807 < 2 + (l.length + 1)) = False := eq_false (by omega)
      go_enter Tryz.func146, Tryz.ntmps146
      go_wp2_with (first
        | (go_at_call 160; refine (KN _).mono ?_; rintro e w' ⟨rfl, rfl⟩)
        | (go_at_call 43; refine (HR2.out.1.out _ ([35, 92] ++ (a :: l)) (by rw [show (⟨#[35, 92]⟩ : ByteArray) = ⟨([35, 92] : List UInt8).toArray⟩ from rfl, Wt.str_app]) (by simp; omega)).mono ?_; rintro e w2 ⟨rfl, h2, k2⟩))
      go_end0
      have he : Wt.chr true (r : Int) = [35, 92] ++ (a :: l) := by rw [HC.out]; simp
      exact ⟨rfl, by rw [he]; exact h2, k2⟩
    | nil =>
      have hs1 : (9223372036854775807 < 2 + E.length) = False := eq_false (by omega)
      cases o
      all_goals cases q
      all_goals
        go_enter Tryz.func146, Tryz.ntmps146
        go_wp2_with (first
          | (go_at_call 160; refine (KN _).mono ?_; rintro e w' ⟨rfl, rfl⟩)
          | (go_at_call 161; refine (KO _).mono ?_; rintro e w' ⟨rfl, rfl⟩)
          | (go_at_call 162; refine (KB _).mono ?_; rintro e w' ⟨rfl, rfl⟩)
          | (go_at_call 163; refine HH.out.mono ?_; rintro e w2 ⟨rfl, h2, k2⟩)
          | (go_at_call 43; refine (HR2.out.1.out _ ([35, 92] ++ E) (by rw [show (⟨#[35, 92]⟩ : ByteArray) = ⟨([35, 92] : List UInt8).toArray⟩ from rfl, Wt.str_app]) (by simp; omega)).mono ?_; rintro e w2 ⟨rfl, h2, k2⟩))
      all_goals
        go_end0
        refine ⟨rfl, ?_, k2⟩
        first
          | (have he : Wt.chr true (r : Int) = [35, 92] ++ E := by rw [HC.out]; simp
             rw [he]; exact h2)
          | (have he : Wt.chr true (r : Int) = [35, 92] ++ [120] ++ Wt.hex r ++ [] := by rw [HC.out]; simp
             rw [he]; exact h2)

theorem Wt.strU_esc {r : Int} (h7 : ¬ (7 ≤ r ∧ r ≤ 13)) (h34 : r ≠ 34) (h92 : r ≠ 92) (ho : (Wt.odd r || decide (r = 8232) || decide (r = 65279)) = true) : Wt.strU r = Wt.esc r := by
  unfold Wt.strU
  rw [if_neg (by omega), if_neg (by omega), if_neg (by omega), if_neg (by omega), if_neg (by omega), if_neg (by omega), if_neg (by omega), if_neg h34, if_neg h92, if_pos ho]
theorem Wt.strU_enc {r : Int} (h7 : ¬ (7 ≤ r ∧ r ≤ 13)) (h34 : r ≠ 34) (h92 : r ≠ 92) (ho : (Wt.odd r || decide (r = 8232) || decide (r = 65279)) = false) : Wt.strU r = Lib.encodeRune r := by
  unfold Wt.strU
  rw [if_neg (by omega), if_neg (by omega), if_neg (by omega), if_neg (by omega), if_neg (by omega), if_neg (by omega), if_neg (by omega), if_neg h34, if_neg h92, if_neg (by rw [ho]; decide)]
theorem Wt.wr32 : IntKind.i32.wrap 0 = 0 ∧ IntKind.i32.wrap 1 = 1 ∧ IntKind.i32.wrap 2 = 2 ∧ IntKind.i32.wrap 3 = 3 ∧ IntKind.i32.wrap 4 = 4 ∧ IntKind.i32.wrap 5 = 5 ∧ IntKind.i32.wrap 6 = 6 ∧ IntKind.i32.wrap 7 = 7 := by decide
theorem Wt.size_cons (c : ByteArray) : (⟨#[92]⟩ ++ c : ByteArray).size = 1 + c.size := by simp; rfl
/-- What holds at each round of text's loop. -/
structure Wt.TxtRel (B b it : Nat) (bs : List Value) (s : ByteArray) (w : World) (pos : Nat) (acc : List UInt8) (wr : World) : Prop where
  at_ : Wr.At B b (.pointer (some ⟨b, 0, none⟩)) true (bs ++ Lib.byteCells acc) wr
  it_ : wr.heap[it]? = some (.stringIter s pos)
  kept : Wt.Kept B b w wr
  says : acc ++ ((Ru.runes (s.data.toList.drop pos)).flatMap Wt.strU ++ [34]) = Wt.str s.data.toList
  len : acc.length ≤ 1 + 9 * pos
  lo : B ≤ b ∧ b < w.heap.size ∧ w.heap.size ≤ it
/-- A character more. -/
theorem Wt.TxtRel.next {B b it : Nat} {bs : List Value} {s : ByteArray} {w : World} {pos : Nat} {acc : List UInt8} {wr w1 : World} (h : Wt.TxtRel B b it bs s w pos acc wr) (hp : pos < s.size) {u : List UInt8}
    (h1 : Wr.At B b (.pointer (some ⟨b, 0, none⟩)) true (bs ++ Lib.byteCells acc ++ Lib.byteCells u) w1) (k1 : Wt.Kept B b (wr.iterAt it s (pos + (Utf8.decode s pos).2)) w1) (hu : Wt.strU ((Utf8.decode s pos).1 : Int) = u) :
    Wt.TxtRel B b it bs s w (pos + (Utf8.decode s pos).2) (acc ++ u) w1 := by
  have hwd := Lib.decode_width_pos s pos hp
  have hlt : it < wr.heap.size := (Array.getElem?_eq_some_iff.1 h.it_).1
  have hb := h.lo
  refine ⟨by rw [← Wt.cells_app]; exact h1, k1.iter (Lib.iterAt_heap wr it s pos _ h.it_) (by omega), (h.kept.iterAt (by omega) hb.2.2 s _).trans k1, ?_, ?_, hb⟩
  · rw [← h.says, Wt.runes_at s pos hp, List.flatMap_cons, hu]
    simp
  · have := Wt.strU_len (Wt.decode_ok s pos hp)
    rw [hu] at this
    have := h.len
    rw [List.length_append]
    omega
set_option maxHeartbeats 4000000 in
set_option maxRecDepth 1000000 in
theorem Wt.text_any (B b : Nat) (m : Bool) (bs : List Value) (s : ByteArray) (w : World) (h : Wr.Is B b m bs w) (hd : Wt.Bits w) (hT : 5 < B) (hs : s.size ≤ 1048576) (hlen : bs.length + 16777216 ≤ 140737488355328) :
    Calls Tryz.prog 147 #[.pointer (some ⟨b, 0, none⟩), .string s] w fun e w' => e = .returned (.tuple #[]) ∧ (Wr.At B b (.pointer (some ⟨b, 0, none⟩)) m (bs ++ Lib.byteCells (if m = true then Wt.str s.data.toList else s.data.toList)) w' ∧ Wt.Kept B b w w') := by
  have hm := h.marked
  obtain ⟨hBb, hblt⟩ := h.blk
  cases m
  · go_enter Tryz.func147, Tryz.ntmps147
    go_wp2_with (go_at_call 43; refine (Wt.writeString B b false bs s _ h (by omega) (by omega)).mono ?_)
    rintro e w1 ⟨rfl, h1, k1⟩
    go_wp2
    refine bodyPost_ret (results_none rfl _ _ _) rfl ?_
    rw [Wt.strCells] at h1
    exact ⟨rfl, h1, k1⟩
  · go_enter Tryz.func147, Tryz.ntmps147
    go_wp2_with (go_at_call 149; refine (Wt.writeByte B b true bs 34 _ h (by omega) (by omega)).mono ?_)
    rintro e w1 ⟨rfl, h1, k1⟩
    have hz1 := k1.size
    have hit0 : (w1.alloc (.stringIter s 0)).heap[w1.heap.size]? = some (.stringIter s 0) := heap_alloc_new w1 _
    have H0 : Wt.TxtRel B b w1.heap.size bs s w 0 [34] (w1.alloc (.stringIter s 0)) :=
      ⟨h1.alloc _, hit0, k1.alloc (by omega) _, rfl, by simp, hBb, hblt, hz1⟩
    have HD := Lib.hid (fun w' (hk : Wt.Kept B b w w') => hd.kept hT hk)
    clear h hd h1 hit0
    go_wp2
    go_loopw [] (fun wr => ∃ (pos : Nat) (acc : List UInt8), Wt.TxtRel B b w1.heap.size bs s w pos acc wr) (fun wr => s.size - wr.iterPos w1.heap.size)
    case atStart => exact ⟨0, [34], H0⟩
    case round =>
      obtain ⟨pos, acc, hR⟩ := hrel
      have hit := hR.it_
      have hsz : w1.heap.size < wr.heap.size := (Array.getElem?_eq_some_iff.1 hit).1
      clear H0 hm
      by_cases hp : pos < s.size
      · have hwd := Lib.decode_width_pos s pos hp
        have hd1 := decode_le s pos
        have hok := Wt.decode_ok s pos hp
        have HN := Lib.hid (fun u w2 => hR.next (u := u) (w1 := w2) hp)
        have hAt := hR.at_.iterAt hit (pos + (Utf8.decode s pos).2)
        have hit2 := Lib.iterAt_heap wr w1.heap.size s pos (pos + (Utf8.decode s pos).2) hit
        have hnx : ∀ ty, (Instr.next (.pointer (some ⟨w1.heap.size, 0, none⟩)) true ty).run Tryz.prog wr = _ := fun ty => Lib.run_next_any_at wr w1.heap.size s pos ty hit hp
        have hkW := (hR.kept.iterAt (by omega) hz1 s (pos + (Utf8.decode s pos).2))
        have hal := hR.len
        obtain ⟨W, hW⟩ : ∃ z, wr.iterAt w1.heap.size s (pos + (Utf8.decode s pos).2) = z := ⟨_, rfl⟩
        obtain ⟨r, hr⟩ : ∃ z, (Utf8.decode s pos).1 = z := ⟨_, rfl⟩
        obtain ⟨n, hn⟩ : ∃ z, (Utf8.decode s pos).2 = z := ⟨_, rfl⟩
        rw [hW] at HN hAt hit2 hnx hkW
        rw [hr] at HN hok hd1 hnx
        rw [hn] at HN hwd hit2
        have hrb : r ≤ 1114111 := by unfold Ru.okR at hok; omega
        have hbW := HD.out W hkW
        have hms : s.size - wr.iterPos w1.heap.size = s.size - pos := by simp [World.iterPos, hit]
        have HM := Lib.hid (fun (w2 : World) (k2 : Wt.Kept B b W w2) => (show s.size - w2.iterPos w1.heap.size < s.size - wr.iterPos w1.heap.size by
          rw [hms]
          have := k2.iter hit2 (by omega)
          simp only [World.iterPos, this]
          omega))
        have hBW : B ≤ W.heap.size := Nat.le_trans (by omega) hkW.size
        have hal2 : (bs ++ Lib.byteCells acc).length + 100 ≤ 140737488355328 := by rw [List.length_append, Lib.byteCells_length]; omega
        clear hR hit hW hr hn hit2 hkW hms hd1 hal hwd hp
        have hcase : (r = 7 ∨ r = 8 ∨ r = 9 ∨ r = 10 ∨ r = 11 ∨ r = 12 ∨ r = 13) ∨ (r = 34 ∨ r = 92) ∨ (¬ (7 ≤ r ∧ r ≤ 13) ∧ r ≠ 34 ∧ r ≠ 92) := by omega
        rcases hcase with hcase | hcase | ⟨h7, h34, h92⟩
        · have KW : ∀ w3, Below W.heap.size W w3 → ∀ c : ByteArray, c.size = 1 → Calls Tryz.prog 43 #[.pointer (some ⟨b, 0, none⟩), .string (⟨#[92]⟩ ++ c)] w3 fun e w' => e = .returned (.tuple #[.int .i64 (⟨#[92]⟩ ++ c : ByteArray).size, .nilIface]) ∧ (Wr.At B b (.pointer (some ⟨b, 0, none⟩)) true (bs ++ Lib.byteCells acc ++ Lib.strCells (⟨#[92]⟩ ++ c)) w' ∧ Wt.Kept B b W w') := by
            intro w3 hb3 c hc
            refine (Wt.writeString B b true _ _ w3 (hAt.keptBelow hb3).is (by rw [Wt.size_cons, hc]; omega) (by have := hb3.size; omega)).mono ?_
            rintro e w4 ⟨rfl, h4, k4⟩
            exact ⟨rfl, h4, (Wt.Kept.below hb3 hBW).trans k4⟩
          have HW := Lib.hid KW
          clear KW hbW hAt
          obtain ⟨g0, g1, g2, g3, g4, g5, g6, g7⟩ := Wt.wr32
          rcases hcase with rfl | rfl | rfl | rfl | rfl | rfl | rfl
          all_goals
            go_wp2_with fail
            go_region_held3 (fun w' => W.heap.size ≤ w'.heap.size)
              (first | exact Nat.le_refl _ | exact hkeep)
              (first
                | (go_at_call 43
                   refine (HW.out W.drew (Below.drew (Below.refl _ _)) _ (by rfl)).mono ?_
                   rintro z2 w2 ⟨rfl, h2, k2⟩
                   have hkeep : W.heap.size ≤ w2.heap.size := k2.size))
            go_wp2_with fail
            exact ⟨⟨_, _, HN.out _ w2 h2 k2 rfl⟩, HM.out w2 k2⟩
        · have KW : ∀ c : ByteArray, c.size = 1 → Calls Tryz.prog 43 #[.pointer (some ⟨b, 0, none⟩), .string (⟨#[92]⟩ ++ c)] W fun e w' => e = .returned (.tuple #[.int .i64 (⟨#[92]⟩ ++ c : ByteArray).size, .nilIface]) ∧ (Wr.At B b (.pointer (some ⟨b, 0, none⟩)) true (bs ++ Lib.byteCells acc ++ Lib.strCells (⟨#[92]⟩ ++ c)) w' ∧ Wt.Kept B b W w') := by
            intro c hc
            exact Wt.writeString B b true _ _ W hAt.is (by rw [Wt.size_cons, hc]; omega) hBW
          have HW := Lib.hid KW
          clear KW hbW hAt
          rcases hcase with rfl | rfl
          all_goals
            go_wp2_with fail
            refine (HW.out _ (by rfl)).mono ?_
            rintro z2 w2 ⟨rfl, h2, k2⟩
            go_wp2_with fail
            exact ⟨⟨_, _, HN.out _ w2 h2 k2 rfl⟩, HM.out w2 k2⟩
        · have KH := Wt.hex_any B b true (bs ++ Lib.byteCells acc) r [92] [59] W hAt.is hrb hbW (by decide) (by decide) hal2
          have KR := Wt.writeRune B b true (bs ++ Lib.byteCells acc) (r : Int) (by omega) (by omega) W hAt.is (by omega) hBW
          rw [← Lib.byteCells_encodeRune] at KR
          have HH := Lib.hid KH
          have HR := Lib.hid KR
          have i34 : ((r : Int) == 34) = false := beq_eq_false_iff_ne.2 (by omega)
          have i92 : ((r : Int) == 92) = false := beq_eq_false_iff_ne.2 (by omega)
          have hI : ¬ (7 ≤ (r : Int) ∧ (r : Int) ≤ 13) := by omega
          have HU := Lib.hid (fun ho => Wt.strU_esc (r := (r : Int)) hI (by omega) (by omega) ho)
          have HV := Lib.hid (fun ho => Wt.strU_enc (r := (r : Int)) hI (by omega) (by omega) ho)
          have HE : Hid (Wt.esc (r : Int) = [92] ++ [120] ++ Wt.hex r ++ [59]) := Lib.hid (by simp [Wt.esc])
          have h713 : (r : Int) < 7 ∨ 13 < (r : Int) := by omega
          clear KH KR hbW hAt hI h7 h34 h92 hrb hok
          obtain ⟨o, ho⟩ : ∃ z, Wt.odd (r : Int) = z := ⟨_, rfl⟩
          obtain ⟨p, hp8⟩ : ∃ z, ((r : Int) == 8232) = z := ⟨_, rfl⟩
          obtain ⟨q, hq6⟩ : ∃ z, ((r : Int) == 65279) = z := ⟨_, rfl⟩
          have HO : Hid ((Wt.odd (r : Int) || decide ((r : Int) = 8232) || decide ((r : Int) = 65279)) = (o || p || q)) := Lib.hid (by rw [ho, ← hp8, ← hq6]; simp [Bool.beq_eq_decide_eq])
          rcases h713 with h713 | h713
          all_goals cases o
          all_goals cases p
          all_goals cases q
          all_goals
            go_wp2_with (first
              | (go_at_call 161; refine (Wt.odd_any _ _).mono ?_; rintro e w' ⟨rfl, rfl⟩)
              | (go_at_call 163; refine HH.out.mono ?_; rintro e w2 ⟨rfl, h2, k2⟩)
              | (go_at_call 44; refine HR.out.mono ?_; rintro e w2 ⟨rfl, h2, k2⟩))
          all_goals first | exact ⟨⟨_, _, HN.out _ w2 h2 k2 ((HU.out (HO.out.trans rfl)).trans HE.out)⟩, HM.out w2 k2⟩ | exact ⟨⟨_, _, HN.out _ w2 h2 k2 (HV.out (HO.out.trans rfl))⟩, HM.out w2 k2⟩
      · have hnx : ∀ ty, (Instr.next (.pointer (some ⟨w1.heap.size, 0, none⟩)) true ty).run Tryz.prog wr = _ := fun ty => Lib.run_next_end_at wr w1.heap.size s pos ty hit hp
        have hsay := hR.says
        rw [Wt.runes_end s pos hp] at hsay
        have hacc : acc ++ [34] = Wt.str s.data.toList := by simpa using hsay
        have hal : acc.length ≤ 9437186 := by
          have h1 := Wt.str_len s.data.toList
          have h2 := congrArg List.length hacc
          rw [List.length_append] at h2
          have h3 : s.data.toList.length = s.size := by simp
          simp only [List.length_cons, List.length_nil] at h2
          omega
        have KB := Wt.writeByte B b true (bs ++ Lib.byteCells acc) 34 wr hR.at_.is (by rw [List.length_append, Lib.byteCells_length]; omega) (by omega)
        have HB := Lib.hid KB
        have HK := Lib.hid hR.kept
        have HA := Lib.hid hacc
        clear KB hR hsay hacc hit hp
        go_wp2_with fail
        refine HB.out.mono ?_
        rintro e w2 ⟨rfl, h2, k2⟩
        go_wp2_with fail
        go_end0
        refine ⟨rfl, ?_, HK.out.trans k2⟩
        have h3 := Wt.cells_snoc bs acc 34
        rw [HA.out] at h3
        show Wr.At B b _ true (bs ++ Lib.byteCells (Wt.str s.data.toList)) w2
        rw [← h3]
        exact h2

theorem Wt.indexByte_no : ∀ (l : List UInt8) (c : UInt8), (∀ x ∈ l, x.toNat < 128) → 128 ≤ c.toNat → Lib.indexByte l c = -1
  | [], c, _, _ => rfl
  | x :: l, c, hl, hc => by
    have hx := hl x (by simp)
    have hne : (x == c) = false := beq_eq_false_iff_ne.2 (fun e => by rw [e] at hx; omega)
    rw [Lib.indexByte, hne, Wt.indexByte_no l c (fun y hy => hl y (by simp [hy])) hc]
    rfl
theorem Wt.ib (s : ByteArray) (c : UInt8) (hs : ∀ x ∈ s.data.toList, x.toNat < 128) (hc : 128 ≤ c.toNat) (w : World) :
    Calls Tryz.prog 180 #[.string s, .int .u8 c.toNat] w fun e w' => e = .returned (.int .i64 (-1)) ∧ w' = w := by
  refine (Tryz.strings_IndexByte s c.toNat w).mono ?_
  rintro e w' ⟨rfl, rfl⟩
  refine ⟨?_, rfl⟩
  have : ((c.toNat : Int).toNat.toUInt8) = c := by simp
  rw [this, Wt.indexByte_no _ _ hs hc]
def Wt.cA : ByteArray := ⟨#[33, 36, 37, 38, 42, 47, 58, 60, 61, 62, 63, 94, 95, 126]⟩
def Wt.cB : ByteArray := ⟨#[43, 45, 46, 64]⟩
/-- The encoding of a character beyond ASCII. -/
theorem Wt.enc_hi {r : Int} (h : Ru.okR r) (h1 : 128 ≤ r) : (∃ a c : UInt8, Lib.encodeRune r = [a, c] ∧ 128 ≤ c.toNat) ∨ (∃ a b c : UInt8, Lib.encodeRune r = [a, b, c] ∧ 128 ≤ c.toNat) ∨ (∃ a b d c : UInt8, Lib.encodeRune r = [a, b, d, c] ∧ 128 ≤ c.toNat) := by
  unfold Ru.okR at h
  have hlow : ∀ z : Int, 0 ≤ z → 128 ≤ ((128 + z % 64).toNat.toUInt8).toNat := fun z hz => by
    have := Ru.byteNat (128 + z % 64) (by omega) (by omega)
    rw [this]
    omega
  unfold Lib.encodeRune
  by_cases c2 : r ≤ 2047
  · rw [Lib.encodeRuneZ_two (by omega) c2]
    exact .inl ⟨_, _, rfl, hlow r (by omega)⟩
  by_cases c3 : r ≤ 65535
  · rw [Lib.encodeRuneZ_three (by omega)]
    exact .inr (.inl ⟨_, _, _, rfl, hlow r (by omega)⟩)
  · rw [Lib.encodeRuneZ_four (by omega) (by omega)]
    exact .inr (.inr ⟨_, _, _, _, rfl, hlow r (by omega)⟩)
theorem Wt.wr64 : IntKind.i64.wrap 0 = 0 ∧ IntKind.i64.wrap 1 = 1 ∧ IntKind.i64.wrap 2 = 2 ∧ IntKind.i64.wrap 3 = 3 ∧ IntKind.i64.wrap 4 = 4 := by decide
set_option maxHeartbeats 4000000 in
set_option maxRecDepth 1000000 in
theorem Wt.indexRune_hi (s : ByteArray) (hs : s = Wt.cA ∨ s = Wt.cB) (r : Int) (h : Ru.okR r) (h1 : 128 ≤ r) (h2 : r ≠ 65533) (w : World) :
    Calls Tryz.prog 175 #[.string s, .int .i32 r] w fun e w' => e = .returned (.int .i64 (-1)) ∧ Below w.heap.size w w' := by
  have hne : ((r : Int) == 65533) = false := beq_eq_false_iff_ne.2 h2
  have hr2 : r ≤ 2147483647 := by unfold Ru.okR at h; omega
  have hv : Lib.validRune r = true := by
    unfold Ru.okR at h
    unfold Lib.validRune
    simp only [Bool.or_eq_true, Bool.and_eq_true, decide_eq_true_eq]
    omega
  obtain ⟨g0, g1, g2, g3, g4⟩ := Wt.wr64
  have KV := fun w' => Tryz.utf8_ValidRune r w'
  rw [hv] at KV
  have henc := Sl.encode_eq r
  rcases Wt.enc_hi h h1 with ⟨a, c, e, hc⟩ | ⟨a, b, c, e, hc⟩ | ⟨a, b, d, c, e, hc⟩
  all_goals
    rw [e] at henc
    have d36 : ((36 : Int) = (c.toNat : Int)) = False := eq_false (by omega)
    have e36 : ((36 : Int) != (c.toNat : Int)) = true := bne_iff_ne.2 (by omega)
    have d37 : ((37 : Int) = (c.toNat : Int)) = False := eq_false (by omega)
    have e37 : ((37 : Int) != (c.toNat : Int)) = true := bne_iff_ne.2 (by omega)
    have d38 : ((38 : Int) = (c.toNat : Int)) = False := eq_false (by omega)
    have e38 : ((38 : Int) != (c.toNat : Int)) = true := bne_iff_ne.2 (by omega)
    have d45 : ((45 : Int) = (c.toNat : Int)) = False := eq_false (by omega)
    have e45 : ((45 : Int) != (c.toNat : Int)) = true := bne_iff_ne.2 (by omega)
    have d46 : ((46 : Int) = (c.toNat : Int)) = False := eq_false (by omega)
    have e46 : ((46 : Int) != (c.toNat : Int)) = true := bne_iff_ne.2 (by omega)
    have d64 : ((64 : Int) = (c.toNat : Int)) = False := eq_false (by omega)
    have e64 : ((64 : Int) != (c.toNat : Int)) = true := bne_iff_ne.2 (by omega)
    have KI := Lib.hid (fun (s : ByteArray) (hs : ∀ x ∈ s.data.toList, x.toNat < 128) w' => Wt.ib s c hs hc w')
    clear e hc
    rcases hs with rfl | rfl
  all_goals clear h hv
  all_goals first | unfold Wt.cA | unfold Wt.cB
  all_goals
    go_enter Tryz.func175, Tryz.ntmps175
    go_wp2_with (go_at_call 181; refine (KV _).mono ?_; rintro e w' ⟨rfl, rfl⟩)
    go_step3
    go_wp2_with fail
    refine wp_loop_rounds 1 ?_
    rw [rounds_succ]
    go_wp2_with fail
    go_step3
    go_wp2_with fail
    go_region
    all_goals go_wp2_with fail
    rotate_left
    · rename_i hx _ _
      first
        | exact absurd ((show ((36 : Int) != (c.toNat : Int)) = false from hx).symm.trans e36) (by decide)
        | exact absurd ((show ((37 : Int) != (c.toNat : Int)) = false from hx).symm.trans e37) (by decide)
        | exact absurd ((show ((38 : Int) != (c.toNat : Int)) = false from hx).symm.trans e38) (by decide)
        | exact absurd ((show ((45 : Int) != (c.toNat : Int)) = false from hx).symm.trans e45) (by decide)
        | exact absurd ((show ((46 : Int) != (c.toNat : Int)) = false from hx).symm.trans e46) (by decide)
        | exact absurd ((show ((64 : Int) != (c.toNat : Int)) = false from hx).symm.trans e64) (by decide)
    go_region_held3 (fun wx => True) (trivial)
      (first
        | (go_at_call 180
           refine (KI.out _ (by decide) _).mono ?_
           rintro z2 w2 ⟨rfl, hw2⟩
           subst hw2))
    go_wp2_with fail
    rw [Exit.noGoto_ret]
    repeat (first | rw [Exit.noGoto_ret] | (simp only [Exit.inBlock, Exit.then]))
    go_ret
    exact ⟨rfl, Below.drew (Below.drew (Below.refl _ _))⟩
set_option maxHeartbeats 4000000 in
set_option maxRecDepth 1000000 in
theorem Wt.indexRune_bad (s : ByteArray) (hs : ∀ i (h : i < s.size), (s[i]'h).toNat < 128) (w : World) :
    Calls Tryz.prog 175 #[.string s, .int .i32 65533] w fun e w' => e = .returned (.int .i64 (-1)) ∧ Below w.heap.size w w' := by
  have H0 : (w.alloc (.stringIter s 0)).heap[w.heap.size]? = some (.stringIter s 0) := heap_alloc_new w _
  have HB0 : Below w.heap.size w (w.alloc (.stringIter s 0)) := (Below.refl _ _).alloc (Nat.le_refl _) _
  have HS := Lib.hid hs
  clear hs
  go_enter Tryz.func175, Tryz.ntmps175
  go_wp2_with fail
  go_loopw [] (fun wr => ∃ (pos : Nat), wr.heap[w.heap.size]? = some (.stringIter s pos) ∧ Below w.heap.size w wr) (fun wr => s.size - wr.iterPos w.heap.size)
  case atStart => exact ⟨0, H0, HB0⟩
  case round =>
    obtain ⟨pos, hit, hb⟩ := hrel
    clear H0 HB0
    by_cases hp : pos < s.size
    · have ha := HS.out pos hp
      have hnx : ∀ ty, (Instr.next (.pointer (some ⟨w.heap.size, 0, none⟩)) true ty).run Tryz.prog wr = _ := fun ty => Lib.run_next_ascii_at wr w.heap.size s pos ty hit hp ha
      have hit2 := Lib.iterAt_heap wr w.heap.size s pos (pos + 1) hit
      have hb2 := Lib.below_iterAt hb (k := w.heap.size) (Nat.le_refl _) s (pos + 1)
      obtain ⟨v, hv⟩ : ∃ z, (s[pos]'hp).toNat = z := ⟨_, rfl⟩
      rw [hv] at hnx ha
      have hne : ((v : Int) == 65533) = false := beq_eq_false_iff_ne.2 (by omega)
      obtain ⟨W, hW⟩ : ∃ z, wr.iterAt w.heap.size s (pos + 1) = z := ⟨_, rfl⟩
      rw [hW] at hnx hit2 hb2
      have HM : Hid (s.size - W.iterPos w.heap.size < s.size - wr.iterPos w.heap.size) := Lib.hid (by simp only [World.iterPos, hit2, hit]; omega)
      have HI := Lib.hid (And.intro hit2 hb2)
      clear hit hb hit2 hb2 hv hW ha
      go_wp2_with fail
      exact ⟨⟨_, HI.out⟩, HM.out⟩
    · have hnx : ∀ ty, (Instr.next (.pointer (some ⟨w.heap.size, 0, none⟩)) true ty).run Tryz.prog wr = _ := fun ty => Lib.run_next_end_at wr w.heap.size s pos ty hit hp
      go_wp2_with fail
      go_ret
      exact ⟨rfl, hb⟩
end Go.Proofs.YtdjllmogejkimaaGreatDoor
