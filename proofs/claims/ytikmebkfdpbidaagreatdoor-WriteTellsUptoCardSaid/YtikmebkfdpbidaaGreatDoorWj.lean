/-
  write's symbol.
  The document's symbol.
  write's character.
  The writer's datum of a node that has no list and no bytes.
  The document's tell of a node that has no list and no bytes.
  The writer's datum of a vector.
  '[]byte(s)' of a text, in plain Lean over worlds.
  The writer's datum of bytes.
  The document's row of data, its tell of a vector, of bytes.
  The document's tell of bytes.
-/
import Derived.Lib.Hide
import Derived.Deep.RegionHeld3
import Derived.Laws.IdiomStrings
import Derived.Test.YtikmebkfdpbidaaGreatDoorWh
import Derived.Test.YtikmebkfdpbidaaGreatDoorWi
import Derived.Test.YtikmebkfdpbidaaGreatDoorWtRFirstW
import Derived.Test.YtikmebkfdpbidaaGreatDoorWg
import Derived.Test.YtikmebkfdpbidaaGreatDoorWc
namespace Go.Proofs.YtikmebkfdpbidaaGreatDoor
open Go.RowKit
set_option linter.unusedVariables false
set_option linter.unusedSimpArgs false

theorem Wt.str_ne {x : ByteArray} (hn : ¬ x.toList = []) : (x.toList = []) = False ∧ x.toList.isEmpty = false := ⟨by simp [hn], by simpa using hn⟩
/-- What holds at each round of symbol's loop. -/
structure Wt.SymRel (B b it : Nat) (bs : List Value) (s : ByteArray) (R : List UInt8) (F : Bool) (w : World) (pos : Nat) (f : Bool) (acc : List UInt8) (wr : World) : Prop where
  at_ : Wr.Is B b true (bs ++ Lib.byteCells acc) wr
  used : 0 < pos ∨ f = false → Wr.At B b (.pointer (some ⟨b, 0, none⟩)) true (bs ++ Lib.byteCells acc) wr
  fst : f = true → F = true
  it_ : wr.heap[it]? = some (.stringIter s pos)
  kept : Wt.Kept B b w wr
  says : acc ++ Wt.syms f (Ru.runes (s.data.toList.drop pos)) = R
  len : acc.length ≤ 2 + 9 * pos
  lo : B ≤ b ∧ b < w.heap.size ∧ w.heap.size ≤ it
/-- A character more. -/
theorem Wt.SymRel.next {B b it : Nat} {bs : List Value} {s : ByteArray} {R : List UInt8} {F : Bool} {w : World} {pos : Nat} {f : Bool} {acc : List UInt8} {wr w1 : World} (h : Wt.SymRel B b it bs s R F w pos f acc wr) (hp : pos < s.size) {u : List UInt8}
    (h1 : Wr.At B b (.pointer (some ⟨b, 0, none⟩)) true (bs ++ Lib.byteCells acc ++ Lib.byteCells u) w1) (k1 : Wt.Kept B b (wr.iterAt it s (pos + (Utf8.decode s pos).2)) w1) (hu : Wt.symU f ((Utf8.decode s pos).1 : Int) = u) :
    Wt.SymRel B b it bs s R F w (pos + (Utf8.decode s pos).2) false (acc ++ u) w1 := by
  have hwd := Lib.decode_width_pos s pos hp
  have hlt : it < wr.heap.size := (Array.getElem?_eq_some_iff.1 h.it_).1
  have hb := h.lo
  rw [Wt.cells_app] at h1
  refine ⟨h1.is, fun _ => h1, fun e => (by cases e), k1.iter (Lib.iterAt_heap wr it s pos _ h.it_) (by omega), (h.kept.iterAt (by omega) hb.2.2 s _).trans k1, ?_, ?_, hb⟩
  · rw [← h.says, Wt.runes_at s pos hp, Wt.syms, hu]
    simp
  · have := Wt.symU_len (f := f) (Wt.decode_ok s pos hp)
    rw [hu] at this
    have := h.len
    rw [List.length_append]
    omega
theorem Wr.Is.iterAt {B b : Nat} {m : Bool} {bs : List Value} {w : World} (h : Wr.Is B b m bs w) {k : Nat} {s : ByteArray} {pos : Nat} (hk : w.heap[k]? = some (.stringIter s pos)) (pos' : Nat) : Wr.Is B b m bs (w.iterAt k s pos') := h.imp (·.iterAt hk pos') (·.iterAt hk pos')
set_option maxHeartbeats 4000000 in
set_option maxRecDepth 1000000 in
theorem Wt.symbol_any (B b : Nat) (m : Bool) (bs : List Value) (s : ByteArray) (w : World) (h : Wr.Is B b m bs w) (hd : Wt.Bits w) (hT : 5 < B) (hs : s.size ≤ 1048576) (hlen : bs.length + 16777216 ≤ 140737488355328) :
    Calls Tryz.prog 99 #[.pointer (some ⟨b, 0, none⟩), .string s] w fun e w' => e = .returned (.tuple #[]) ∧ (Wr.At B b (.pointer (some ⟨b, 0, none⟩)) m (bs ++ Lib.byteCells (if m = true then Wt.sym s.data.toList else s.data.toList)) w' ∧ Wt.Kept B b w w') := by
  have hm := h.marked
  obtain ⟨hBb, hblt⟩ := h.blk
  have KW := Lib.hid (Wt.writeString B b m bs s w h (by omega) (by omega))
  have KN := Lib.hid (Wt.writeString B b m bs ⟨#[124, 124]⟩ w h (by show _ + 2 ≤ _; omega) (by omega))
  cases m
  · go_enter Tryz.func99, Tryz.ntmps99
    go_wp2_with (go_at_call 45; refine KW.out.mono ?_)
    rintro e w1 ⟨rfl, h1, k1⟩
    go_wp2
    refine bodyPost_ret (results_none rfl _ _ _) rfl ?_
    rw [Wt.strCells] at h1
    exact ⟨rfl, h1, k1⟩
  · by_cases hone : s = ⟨#[43]⟩ ∨ s = ⟨#[45]⟩ ∨ s = ⟨#[46, 46, 46]⟩
    · have hsym : Wt.sym s.data.toList = s.data.toList := by
        rcases hone with rfl | rfl | rfl <;> rfl
      have HS := Lib.hid hsym
      clear hsym
      rcases hone with rfl | rfl | rfl
      all_goals
        go_enter Tryz.func99, Tryz.ntmps99
        go_wp2_with (go_at_call 45; refine KW.out.mono ?_; rintro e w1 ⟨rfl, h1, k1⟩)
        refine bodyPost_ret (results_none rfl _ _ _) rfl ?_
        rw [Wt.strCells] at h1
        refine ⟨rfl, ?_, k1⟩
        first | rw [if_pos rfl, HS.out] | rw [HS.out]
        exact h1
    · have hby : ∀ l : List UInt8, s.toList = l → s = ⟨l.toArray⟩ := fun l e => by
        rw [ByteArray.toList_eq] at e
        exact ByteArray.ext (by have := congrArg List.toArray e; simpa using this)
      have n43 : (s.toList == [43]) = false := beq_eq_false_iff_ne.2 (fun e => hone (.inl (hby _ e)))
      have n45 : (s.toList == [45]) = false := beq_eq_false_iff_ne.2 (fun e => hone (.inr (.inl (hby _ e))))
      have n46 : (s.toList == [46, 46, 46]) = false := beq_eq_false_iff_ne.2 (fun e => hone (.inr (.inr (hby _ e))))
      by_cases h0 : s = ⟨#[]⟩
      · subst h0
        go_enter Tryz.func99, Tryz.ntmps99
        go_wp2_with (go_at_call 45; refine KN.out.mono ?_)
        rintro e w1 ⟨rfl, h1, k1⟩
        go_wp2
        refine bodyPost_ret (results_none rfl _ _ _) rfl ?_
        exact ⟨rfl, h1, k1⟩
      · obtain ⟨n0, n1⟩ := Wt.str_ne (x := s) (fun e => h0 (hby _ e))
        clear hby
        -- the loop, from whatever stands ahead of it
        have hl0 : s.data.toList ≠ [] := fun e => h0 (ByteArray.ext (by have := congrArg List.toArray e; simpa using this))
        have hsym : Wt.sym s.data.toList = Wt.symL s.data.toList := by
          unfold Wt.sym
          rw [if_neg (by
            rintro (e | e | e)
            · exact hone (.inl (ByteArray.ext (by have := congrArg List.toArray e; simpa using this)))
            · exact hone (.inr (.inl (ByteArray.ext (by have := congrArg List.toArray e; simpa using this))))
            · exact hone (.inr (.inr (ByteArray.ext (by have := congrArg List.toArray e; simpa using this))))), if_neg hl0]
        have KA := Lib.hid (Wt.writeString B b true bs ⟨#[45, 62]⟩ w h (by show _ + 2 ≤ _; omega) (by omega))
        have KC := fun w' => Tryz.strings_CutPrefix s ⟨#[45, 62]⟩ w'
        have harrow : (∃ T : List UInt8, Lib.trimPrefix s.data.toList [45, 62] = T ∧ T.length ≤ s.size ∧ Lib.hasPrefix s.data.toList [45, 62] = true ∧ Wt.symL s.data.toList = [45, 62] ++ Wt.syms false (Ru.runes T)) ∨ (Lib.trimPrefix s.data.toList [45, 62] = s.data.toList ∧ Lib.hasPrefix s.data.toList [45, 62] = false ∧ Wt.symL s.data.toList = Wt.syms true (Ru.runes s.data.toList)) := by
          have hlen2 : s.data.toList.length = s.size := by simp
          rw [← hlen2]
          generalize s.data.toList = l
          unfold Wt.symL
          split
          · rename_i t
            refine .inl ⟨t, ?_, ?_, ?_, rfl⟩
            · simp [Lib.trimPrefix, Lib.hasPrefix]
            · simp; omega
            · simp [Lib.hasPrefix]
          · rename_i hn
            have hp : Lib.hasPrefix l [45, 62] = false := by
              unfold Lib.hasPrefix
              match l, hn with
              | [], _ => rfl
              | [x], _ => simp [List.isPrefixOf]
              | x :: y :: t, hn =>
                simp [List.isPrefixOf]
                rintro rfl rfl
                exact hn t rfl
            exact .inr ⟨by simp [Lib.trimPrefix, hp], hp, rfl⟩
        obtain ⟨R, hR⟩ : ∃ z, Wt.symL s.data.toList = z := ⟨_, rfl⟩
        rw [hR] at harrow hsym
        have hRlen : R.length ≤ 9 * s.size + 2 := by
          have := Wt.symL_len s.data.toList
          have h3 : s.data.toList.length = s.size := by simp
          rw [hR] at this
          omega
        have HSYM := Lib.hid hsym
        have HD := Lib.hid (fun w' (hk : Wt.Kept B b w w') => hd.kept hT hk)
        have HIS := Lib.hid h
        have K0 : Wt.Kept B b w w := Wt.Kept.refl _ _ _
        have HRL := Lib.hid hRlen
        clear hsym hl0 hone h0 hR hd h KW KN hRlen
        have harrow2 : ∃ (X : ByteArray) (F : Bool), X.size ≤ s.size ∧ (F = true → X = s) ∧ (∀ w', Calls Tryz.prog 157 #[.string s, .string ⟨#[45, 62]⟩] w' fun e w'' => e = .returned (.tuple #[.string X, .bool (!F)]) ∧ w'' = w') ∧ (if F = true then [] else [45, 62]) ++ Wt.syms F (Ru.runes X.data.toList) = R := by
          rcases harrow with ⟨T, hT1, hT2, hT3, hT4⟩ | ⟨hT1, hT2, hT4⟩
          · refine ⟨⟨T.toArray⟩, false, (by show (List.toArray T).size ≤ _; simpa using hT2), (fun e => by cases e), fun w' => ?_, hT4.symm⟩
            have := KC w'
            rw [show (⟨#[45, 62]⟩ : ByteArray).data.toList = [45, 62] from rfl, hT1, hT3] at this
            exact this
          · refine ⟨s, true, Nat.le_refl _, fun _ => rfl, fun w' => ?_, hT4.symm⟩
            have := KC w'
            rw [show (⟨#[45, 62]⟩ : ByteArray).data.toList = [45, 62] from rfl, hT1, hT2] at this
            exact this
        obtain ⟨X, F, hXs, hXe, KX, hXR⟩ := harrow2
        have hXs2 : X.size ≤ 1048576 := by omega
        have hs0 : 0 < s.size := by
          rcases Nat.eq_zero_or_pos s.size with h | h
          · rw [ByteArray.toList_eq] at n0
            have h5 : s.data.toList.length = 0 := by rw [Array.length_toList]; exact h
            exact absurd (List.length_eq_zero_iff.1 h5) (by rw [n0]; exact fun e => e)
          · exact h
        have HEND : Hid (∀ (pos : Nat) (f : Bool) (acc : List UInt8) (it : Nat) (wr : World), Wt.SymRel B b it bs X R F w pos f acc wr → ¬ pos < X.size → Wr.At B b (.pointer (some ⟨b, 0, none⟩)) true (bs ++ Lib.byteCells R) wr ∧ Wt.Kept B b w wr) := Lib.hid (fun pos f acc it wr hR hp => by
          have hsay := hR.says
          rw [Wt.runes_end X pos hp] at hsay
          have hacc : acc = R := by cases f <;> simpa [Wt.syms] using hsay
          rw [← hacc]
          refine ⟨hR.used ?_, hR.kept⟩
          cases f with
          | false => exact .inr rfl
          | true =>
            have := hXe (hR.fst rfl)
            rw [this] at hp
            exact .inl (by omega))
        have HX0 : Hid (∀ w1, Wr.Is B b true (bs ++ Lib.byteCells (if F = true then [] else [45, 62])) w1 → (F = false → Wr.At B b (.pointer (some ⟨b, 0, none⟩)) true (bs ++ Lib.byteCells [45, 62]) w1) → Wt.Kept B b w w1 → Wt.SymRel B b w1.heap.size bs X R F w 0 F (if F = true then [] else [45, 62]) (w1.alloc (.stringIter X 0))) := Lib.hid (fun w1 h1 h2 k1 => by
          have hz := k1.size
          refine ⟨h1.alloc _, fun e => ?_, fun e => e, heap_alloc_new w1 _, k1.alloc (by omega) _, by simpa using hXR, by split <;> simp, hBb, hblt, hz⟩
          have hF : F = false := by rcases e with e | e; exact absurd e (by omega); exact e
          subst hF
          exact (h2 rfl).alloc _)
        have HXE := Lib.hid hXe
        clear harrow KC hXR hXe hXs n0
        cases F
        all_goals
          go_enter Tryz.func99, Tryz.ntmps99
          go_wp2_with (first
            | (go_at_call 157; refine (KX _).mono ?_; rintro e w' ⟨rfl, hw⟩; have hw2 := hw.symm; subst hw2; clear hw)
            | (go_at_call 45; refine KA.out.mono ?_; rintro e w1 ⟨rfl, h1, k1⟩))
        · have H0 := HX0.out w1 h1.is (fun _ => h1) k1
          have hz1 := k1.size
          clear h1
          go_loopw [4] (fun v wr => ∃ (pos : Nat) (f : Bool) (acc : List UInt8), v = .bool f ∧ Wt.SymRel B b w1.heap.size bs X R false w pos f acc wr) (fun _ wr => X.size - wr.iterPos w1.heap.size)
          case atStart => exact ⟨0, false, _, rfl, H0⟩
          case round =>
            obtain ⟨pos, f, acc, rfl, hR⟩ := hrel
            have hit := hR.it_
            have hsz : w1.heap.size < wr.heap.size := (Array.getElem?_eq_some_iff.1 hit).1
            clear H0 HX0 hm
            by_cases hp : pos < X.size
            · have hwd := Lib.decode_width_pos X pos hp
              have hok := Wt.decode_ok X pos hp
              have HN := Lib.hid (fun u w2 => hR.next (u := u) (w1 := w2) hp)
              have hIs := hR.at_.iterAt hit (pos + (Utf8.decode X pos).2)
              have hit2 := Lib.iterAt_heap wr w1.heap.size X pos (pos + (Utf8.decode X pos).2) hit
              have hnx : ∀ ty, (Instr.next (.pointer (some ⟨w1.heap.size, 0, none⟩)) true ty).run Tryz.prog wr = _ := fun ty => Lib.run_next_any_at wr w1.heap.size X pos ty hit hp
              have hkW := (hR.kept.iterAt (by omega) hz1 X (pos + (Utf8.decode X pos).2))
              have hal := hR.len
              obtain ⟨W, hW⟩ : ∃ z, wr.iterAt w1.heap.size X (pos + (Utf8.decode X pos).2) = z := ⟨_, rfl⟩
              obtain ⟨r, hr⟩ : ∃ z, (Utf8.decode X pos).1 = z := ⟨_, rfl⟩
              obtain ⟨n, hn⟩ : ∃ z, (Utf8.decode X pos).2 = z := ⟨_, rfl⟩
              rw [hW] at HN hIs hit2 hnx hkW
              rw [hr] at HN hok hnx
              rw [hn] at HN hwd hit2
              have hrb : r ≤ 1114111 := by unfold Ru.okR at hok; omega
              have hbW := HD.out W hkW
              have hms : X.size - wr.iterPos w1.heap.size = X.size - pos := by simp [World.iterPos, hit]
              have HM := Lib.hid (fun (w2 : World) (k2 : Wt.Kept B b W w2) => (show X.size - w2.iterPos w1.heap.size < X.size - wr.iterPos w1.heap.size by
                rw [hms]
                have := k2.iter hit2 (by omega)
                simp only [World.iterPos, this]
                omega))
              have hBW : B ≤ W.heap.size := Nat.le_trans (by omega) hkW.size
              have hal2 : (bs ++ Lib.byteCells acc).length + 100 ≤ 140737488355328 := by rw [List.length_append, Lib.byteCells_length]; omega
              have HF := Lib.hid (fun w' => Wt.First_any (r : Int) hok w')
              have HG := Lib.hid (fun w' => Wt.Rest_any (r : Int) hok w')
              have HH := Lib.hid (fun (W2 : World) (hb2 : Below W.heap.size W W2) => ((Wt.hex_any B b true (bs ++ Lib.byteCells acc) r [92] [59] W2 (hIs.keptBelow hb2) hrb (hbW.below hb2) (by decide) (by decide) hal2).mono (fun e w2 h2 => ⟨h2.1, h2.2.1, (Wt.Kept.below hb2 hBW).trans h2.2.2⟩ : ∀ e w2, _ → (e = .returned (.tuple #[]) ∧ (Wr.At B b (.pointer (some ⟨b, 0, none⟩)) true (bs ++ Lib.byteCells acc ++ Lib.byteCells ([92] ++ [120] ++ Wt.hex r ++ [59])) w2 ∧ Wt.Kept B b W w2)))))
              have HR := Lib.hid (fun (W2 : World) (hb2 : Below W.heap.size W W2) => ((Wt.writeRune B b true (bs ++ Lib.byteCells acc) (r : Int) (by omega) (by omega) W2 (hIs.keptBelow hb2) (by omega) (by have := hb2.size; omega)).mono (fun e w2 h2 => ⟨h2.1, by rw [Lib.byteCells_encodeRune]; exact h2.2.1, (Wt.Kept.below hb2 hBW).trans h2.2.2⟩ : ∀ e w2, _ → (e = .returned (.tuple #[.int .i64 (Lib.runeCells r).length, .nilIface]) ∧ (Wr.At B b (.pointer (some ⟨b, 0, none⟩)) true (bs ++ Lib.byteCells acc ++ Lib.byteCells (Lib.encodeRune (r : Int))) w2 ∧ Wt.Kept B b W w2)))))
              have HE : Hid (Wt.esc (r : Int) = [92] ++ [120] ++ Wt.hex r ++ [59]) := Lib.hid (by simp [Wt.esc])
              obtain ⟨x, hx⟩ : ∃ z, Wt.firstB (r : Int) = z := ⟨_, rfl⟩
              obtain ⟨y, hy⟩ : ∃ z, Wt.restB (r : Int) = z := ⟨_, rfl⟩
              rw [hx] at HF
              rw [hy] at HG
              have HU : Hid (Wt.symU f (r : Int) = if (if f = true then x else y) = true then Lib.encodeRune r else Wt.esc r) := Lib.hid (by unfold Wt.symU; rw [hx, hy])
              clear hR hit hW hr hn hit2 hkW hms hal hwd hp hIs hbW hx hy hok hal2
              cases f
              all_goals cases x
              all_goals cases y
              all_goals
                go_wp2_with (first
                  | (go_at_call 158; refine (HF.out _).mono ?_; rintro e w3 ⟨rfl, hb3⟩)
                  | (go_at_call 159; refine (HG.out _).mono ?_; rintro e w3 ⟨rfl, hb3⟩)
                  | (go_at_call 156; refine (HH.out _ hb3).mono ?_; rintro e w2 ⟨rfl, h2, k2⟩)
                  | (go_at_call 46; refine (HR.out _ hb3).mono ?_; rintro e w2 ⟨rfl, h2, k2⟩))
              all_goals first | exact ⟨⟨_, false, _, rfl, HN.out _ w2 h2 k2 (HU.out.trans HE.out)⟩, HM.out w2 k2⟩ | exact ⟨⟨_, false, _, rfl, HN.out _ w2 h2 k2 HU.out⟩, HM.out w2 k2⟩
            · have hnx : ∀ ty, (Instr.next (.pointer (some ⟨w1.heap.size, 0, none⟩)) true ty).run Tryz.prog wr = _ := fun ty => Lib.run_next_end_at wr w1.heap.size X pos ty hit hp
              have HZ := Lib.hid (HEND.out _ _ _ _ _ hR hp)
              clear hR hit hp HEND
              go_wp2_with fail
              go_end0
              refine ⟨rfl, ?_, HZ.out.2⟩
              show Wr.At B b _ true (bs ++ Lib.byteCells (Wt.sym s.data.toList)) wr
              rw [HSYM.out]
              exact HZ.out.1
        · have hxs : X = s := (by first | exact HXE.out rfl | exact HXE.out trivial | exact HXE.out)
          subst hxs
          have H0 := HX0.out w (by simpa [Lib.byteCells] using HIS.out) (fun e => by cases e) K0
          have hz1 : w.heap.size ≤ w.heap.size := Nat.le_refl _
          go_loopw [4] (fun v wr => ∃ (pos : Nat) (f : Bool) (acc : List UInt8), v = .bool f ∧ Wt.SymRel B b w.heap.size bs X R true w pos f acc wr) (fun _ wr => X.size - wr.iterPos w.heap.size)
          case atStart => exact ⟨0, true, _, rfl, H0⟩
          case round =>
            obtain ⟨pos, f, acc, rfl, hR⟩ := hrel
            have hit := hR.it_
            have hsz : w.heap.size < wr.heap.size := (Array.getElem?_eq_some_iff.1 hit).1
            clear H0 HX0 hm
            by_cases hp : pos < X.size
            · have hwd := Lib.decode_width_pos X pos hp
              have hok := Wt.decode_ok X pos hp
              have HN := Lib.hid (fun u w2 => hR.next (u := u) (w1 := w2) hp)
              have hIs := hR.at_.iterAt hit (pos + (Utf8.decode X pos).2)
              have hit2 := Lib.iterAt_heap wr w.heap.size X pos (pos + (Utf8.decode X pos).2) hit
              have hnx : ∀ ty, (Instr.next (.pointer (some ⟨w.heap.size, 0, none⟩)) true ty).run Tryz.prog wr = _ := fun ty => Lib.run_next_any_at wr w.heap.size X pos ty hit hp
              have hkW := (hR.kept.iterAt (by omega) hz1 X (pos + (Utf8.decode X pos).2))
              have hal := hR.len
              obtain ⟨W, hW⟩ : ∃ z, wr.iterAt w.heap.size X (pos + (Utf8.decode X pos).2) = z := ⟨_, rfl⟩
              obtain ⟨r, hr⟩ : ∃ z, (Utf8.decode X pos).1 = z := ⟨_, rfl⟩
              obtain ⟨n, hn⟩ : ∃ z, (Utf8.decode X pos).2 = z := ⟨_, rfl⟩
              rw [hW] at HN hIs hit2 hnx hkW
              rw [hr] at HN hok hnx
              rw [hn] at HN hwd hit2
              have hrb : r ≤ 1114111 := by unfold Ru.okR at hok; omega
              have hbW := HD.out W hkW
              have hms : X.size - wr.iterPos w.heap.size = X.size - pos := by simp [World.iterPos, hit]
              have HM := Lib.hid (fun (w2 : World) (k2 : Wt.Kept B b W w2) => (show X.size - w2.iterPos w.heap.size < X.size - wr.iterPos w.heap.size by
                rw [hms]
                have := k2.iter hit2 (by omega)
                simp only [World.iterPos, this]
                omega))
              have hBW : B ≤ W.heap.size := Nat.le_trans (by omega) hkW.size
              have hal2 : (bs ++ Lib.byteCells acc).length + 100 ≤ 140737488355328 := by rw [List.length_append, Lib.byteCells_length]; omega
              have HF := Lib.hid (fun w' => Wt.First_any (r : Int) hok w')
              have HG := Lib.hid (fun w' => Wt.Rest_any (r : Int) hok w')
              have HH := Lib.hid (fun (W2 : World) (hb2 : Below W.heap.size W W2) => ((Wt.hex_any B b true (bs ++ Lib.byteCells acc) r [92] [59] W2 (hIs.keptBelow hb2) hrb (hbW.below hb2) (by decide) (by decide) hal2).mono (fun e w2 h2 => ⟨h2.1, h2.2.1, (Wt.Kept.below hb2 hBW).trans h2.2.2⟩ : ∀ e w2, _ → (e = .returned (.tuple #[]) ∧ (Wr.At B b (.pointer (some ⟨b, 0, none⟩)) true (bs ++ Lib.byteCells acc ++ Lib.byteCells ([92] ++ [120] ++ Wt.hex r ++ [59])) w2 ∧ Wt.Kept B b W w2)))))
              have HR := Lib.hid (fun (W2 : World) (hb2 : Below W.heap.size W W2) => ((Wt.writeRune B b true (bs ++ Lib.byteCells acc) (r : Int) (by omega) (by omega) W2 (hIs.keptBelow hb2) (by omega) (by have := hb2.size; omega)).mono (fun e w2 h2 => ⟨h2.1, by rw [Lib.byteCells_encodeRune]; exact h2.2.1, (Wt.Kept.below hb2 hBW).trans h2.2.2⟩ : ∀ e w2, _ → (e = .returned (.tuple #[.int .i64 (Lib.runeCells r).length, .nilIface]) ∧ (Wr.At B b (.pointer (some ⟨b, 0, none⟩)) true (bs ++ Lib.byteCells acc ++ Lib.byteCells (Lib.encodeRune (r : Int))) w2 ∧ Wt.Kept B b W w2)))))
              have HE : Hid (Wt.esc (r : Int) = [92] ++ [120] ++ Wt.hex r ++ [59]) := Lib.hid (by simp [Wt.esc])
              obtain ⟨x, hx⟩ : ∃ z, Wt.firstB (r : Int) = z := ⟨_, rfl⟩
              obtain ⟨y, hy⟩ : ∃ z, Wt.restB (r : Int) = z := ⟨_, rfl⟩
              rw [hx] at HF
              rw [hy] at HG
              have HU : Hid (Wt.symU f (r : Int) = if (if f = true then x else y) = true then Lib.encodeRune r else Wt.esc r) := Lib.hid (by unfold Wt.symU; rw [hx, hy])
              clear hR hit hW hr hn hit2 hkW hms hal hwd hp hIs hbW hx hy hok hal2
              cases f
              all_goals cases x
              all_goals cases y
              all_goals
                go_wp2_with (first
                  | (go_at_call 158; refine (HF.out _).mono ?_; rintro e w3 ⟨rfl, hb3⟩)
                  | (go_at_call 159; refine (HG.out _).mono ?_; rintro e w3 ⟨rfl, hb3⟩)
                  | (go_at_call 156; refine (HH.out _ hb3).mono ?_; rintro e w2 ⟨rfl, h2, k2⟩)
                  | (go_at_call 46; refine (HR.out _ hb3).mono ?_; rintro e w2 ⟨rfl, h2, k2⟩))
              all_goals first | exact ⟨⟨_, false, _, rfl, HN.out _ w2 h2 k2 (HU.out.trans HE.out)⟩, HM.out w2 k2⟩ | exact ⟨⟨_, false, _, rfl, HN.out _ w2 h2 k2 HU.out⟩, HM.out w2 k2⟩
            · have hnx : ∀ ty, (Instr.next (.pointer (some ⟨w.heap.size, 0, none⟩)) true ty).run Tryz.prog wr = _ := fun ty => Lib.run_next_end_at wr w.heap.size X pos ty hit hp
              have HZ := Lib.hid (HEND.out _ _ _ _ _ hR hp)
              clear hR hit hp HEND
              go_wp2_with fail
              go_end0
              refine ⟨rfl, ?_, HZ.out.2⟩
              show Wr.At B b _ true (bs ++ Lib.byteCells (Wt.sym X.data.toList)) wr
              rw [HSYM.out]
              exact HZ.out.1
end Go.Proofs.YtikmebkfdpbidaaGreatDoor
namespace Go.Proofs.YtikmebkfdpbidaaGreatDoor
open Go.RowKit
set_option linter.unusedVariables false
set_option linter.unusedSimpArgs false

/-- What holds at each round of the document's symbol. -/
structure Wt.RSymRel (xs : List Int) (R : List UInt8) (W : World) (k : Nat) (acc : List UInt8) (wr : World) : Prop where
  bw : Below W.heap.size W wr
  says : acc ++ Wt.syms (k == 0) (xs.drop k) = R
  le : k ≤ xs.length
  len : acc.length ≤ 2 + 9 * k
theorem Wt.RSymRel.next {xs : List Int} {R : List UInt8} {W : World} {k : Nat} {acc : List UInt8} {wr w1 : World} (h : Wt.RSymRel xs R W k acc wr) {r : Int} (hr : xs[k]? = some r) (hok : Ru.okR r) {u : List UInt8} (hb : Below wr.heap.size wr w1) (hu : Wt.symU (k == 0) r = u) : Wt.RSymRel xs R W (k + 1) (acc ++ u) w1 := by
  obtain ⟨h2, h3⟩ := List.getElem?_eq_some_iff.1 hr
  refine ⟨h.bw.trans (hb.mono h.bw.size), ?_, h2, ?_⟩
  · rw [← h.says, List.drop_eq_getElem_cons h2, h3, Wt.syms, hu]
    simp
  · have := Wt.symU_len (f := (k == 0)) hok
    rw [hu] at this
    have := h.len
    rw [List.length_append]
    omega
set_option maxHeartbeats 8000000 in
set_option maxRecDepth 1000000 in
theorem Wt.symbolR_any (s : ByteArray) (w : World) (hs : s.size ≤ 1048576) :
    Calls Tryz.prog 72 #[.string s] w fun e w' => e = .returned (.string ⟨(Wt.sym s.data.toList).toArray⟩) ∧ Below w.heap.size w w' := by
  by_cases h0 : s = ⟨#[]⟩
  · subst h0
    go_enter Tryz.func72, Tryz.ntmps72
    go_wp2_with fail
    go_ret
    exact ⟨rfl, Below.refl _ _⟩
  have hby : ∀ l : List UInt8, s.toList = l → s = ⟨l.toArray⟩ := fun l e => by
    rw [ByteArray.toList_eq] at e
    exact ByteArray.ext (by have := congrArg List.toArray e; simpa using this)
  obtain ⟨n0, n1⟩ := Wt.str_ne (x := s) (fun e => h0 (hby _ e))
  by_cases hone : s = ⟨#[43]⟩ ∨ s = ⟨#[45]⟩ ∨ s = ⟨#[46, 46, 46]⟩
  · clear n0 n1 hby
    rcases hone with rfl | rfl | rfl
    all_goals
      go_enter Tryz.func72, Tryz.ntmps72
      go_wp2_with fail
      go_ret
      exact ⟨rfl, Below.refl _ _⟩
  have n43 : (s.toList == [43]) = false := beq_eq_false_iff_ne.2 (fun e => hone (.inl (hby _ e)))
  have n45 : (s.toList == [45]) = false := beq_eq_false_iff_ne.2 (fun e => hone (.inr (.inl (hby _ e))))
  have n46 : (s.toList == [46, 46, 46]) = false := beq_eq_false_iff_ne.2 (fun e => hone (.inr (.inr (hby _ e))))
  have hl0 : s.data.toList ≠ [] := fun e => h0 (ByteArray.ext (by have := congrArg List.toArray e; simpa using this))
  have hsym : Wt.sym s.data.toList = Wt.symL s.data.toList := by
    unfold Wt.sym
    rw [if_neg (by
      rintro (e | e | e)
      · exact hone (.inl (ByteArray.ext (by have := congrArg List.toArray e; simpa using this)))
      · exact hone (.inr (.inl (ByteArray.ext (by have := congrArg List.toArray e; simpa using this))))
      · exact hone (.inr (.inr (ByteArray.ext (by have := congrArg List.toArray e; simpa using this))))), if_neg hl0]
  have harr := Wt.symL_runes s.data.toList
  have hxlen := Wt.runes_len s.data.toList
  have hsl : s.data.toList.length = s.size := by simp
  have KR := Wt.runesR_any s w (by omega)
  have hoks := Ru.runes_okR s.data.toList
  have hne : Ru.runes s.data.toList ≠ [] := by rw [Ru.runes_step _ hl0]; simp
  rw [hsym]
  obtain ⟨xs, hxs⟩ : ∃ z, Ru.runes s.data.toList = z := ⟨_, rfl⟩
  obtain ⟨R, hR⟩ : ∃ z, Wt.symL s.data.toList = z := ⟨_, rfl⟩
  rw [hxs] at harr hxlen KR hoks hne
  rw [hR] at harr ⊢
  have hL1 : xs.length ≤ 1048576 := by omega
  have HKR := Lib.hid KR
  have HOK := Lib.hid hoks
  have HARR := Lib.hid harr
  clear hsym hl0 hone hby hxs hR harr hxlen hsl KR hoks h0
  go_enter Tryz.func72, Tryz.ntmps72
  go_wp2_with fail
  refine HKR.out.mono ?_
  rintro e w1 ⟨v, rfl, hown, hb1⟩
  obtain ⟨bb, off, cap, rfl, hblt, hcell⟩ : ∃ b off cap, v = .slice (some ⟨b, off, none⟩) xs.length cap ∧ b < w1.heap.size ∧ ∀ i, i < xs.length → w1.cell? ⟨b, off + i, none⟩ = some (.int .i32 (xs.getD i 0)) := by
    rcases Sl.IntsAt.of_own hown with ⟨_, h⟩ | h
    · exact absurd h hne
    · exact h
  have HB1 := Lib.hid hb1
  obtain ⟨L, hL⟩ : ∃ z, xs.length = z := ⟨_, rfl⟩
  have HCELL : Hid (∀ (k : Nat) (r : Int), xs[k]? = some r → ∀ wr, Below w1.heap.size w1 wr → wr.cell? ⟨bb, off + k, none⟩ = some (.int .i32 r)) := Lib.hid (fun k r hk wr hb => by
    have hk2 := (List.getElem?_eq_some_iff.1 hk).1
    rw [hb.cell (p := ⟨bb, off + k, none⟩) hblt, hcell k hk2]
    simp [hk])
  have HGET : Hid (∀ k, k < L → ∃ r, xs[k]? = some r ∧ Ru.okR r) := Lib.hid (fun k hk => ⟨xs[k]'(by omega), List.getElem?_eq_getElem _, HOK.out _ (List.getElem_mem _)⟩)
  have HL := Lib.hid hL
  have hpos : 0 < L := by
    rw [← hL]
    exact List.length_pos_iff.2 hne
  rw [hL] at hL1 ⊢
  -- the two ways to the loop
  have hways : (∃ (r0 r1 : Int), 2 ≤ L ∧ xs[0]? = some 45 ∧ xs[1]? = some 62 ∧ Wt.RSymRel xs R w1 2 [45, 62] w1) ∨ (Wt.RSymRel xs R w1 0 [] w1 ∧ (L < 2 ∨ ∃ r0 r1, xs[0]? = some r0 ∧ xs[1]? = some r1 ∧ 2 ≤ L ∧ (r0 ≠ 45 ∨ r1 ≠ 62))) := by
    rcases HARR.out with ⟨ys, h1, h2⟩ | ⟨h1, h2⟩
    · rw [h1]
      refine .inl ⟨0, 0, by rw [← hL, h1]; simp, rfl, rfl, ⟨Below.refl _ _, ?_, by simp, by simp⟩⟩
      rw [h2]
      rfl
    · refine .inr ⟨⟨Below.refl _ _, h2.symm, Nat.zero_le _, by simp⟩, ?_⟩
      by_cases hl2 : L < 2
      · exact .inl hl2
      · refine .inr ⟨xs[0]'(by omega), xs[1]'(by omega), List.getElem?_eq_getElem _, List.getElem?_eq_getElem _, by omega, ?_⟩
        rcases Int.decEq (xs[0]'(by omega)) 45 with e | e
        · exact .inl e
        · refine .inr (fun e2 => h1 (xs.drop 2) ?_)
          have e3 : xs = xs[0]'(by omega) :: xs[1]'(by omega) :: xs.drop 2 := by
            rw [← List.drop_eq_getElem_cons (by omega), ← List.drop_eq_getElem_cons (i := 0) (by omega)]
            rfl
          rw [e3]
          simp [e, e2]
  clear hown hb1 hcell hne
  have hways2 : (∃ (k0 : Nat) (acc0 : List UInt8), ((k0 = 2 ∧ acc0 = [45, 62]) ∨ (k0 = 0 ∧ acc0 = [])) ∧ Wt.RSymRel xs R w1 k0 acc0 w1 ∧
      ((k0 = 2 ∧ (2 : Int) ≤ L ∧ w1.cell? ⟨bb, off, none⟩ = some (.int .i32 45) ∧ w1.cell? ⟨bb, off + 1, none⟩ = some (.int .i32 62)) ∨ (k0 = 0 ∧ (L : Int) < 2) ∨
       (k0 = 0 ∧ (2 : Int) ≤ L ∧ ∃ r0, w1.cell? ⟨bb, off, none⟩ = some (.int .i32 r0) ∧ (r0 == 45) = false) ∨
       (k0 = 0 ∧ (2 : Int) ≤ L ∧ ∃ r1, w1.cell? ⟨bb, off, none⟩ = some (.int .i32 45) ∧ w1.cell? ⟨bb, off + 1, none⟩ = some (.int .i32 r1) ∧ (r1 == 62) = false))) := by
    rcases hways with ⟨_, _, h1, h2, h3, h4⟩ | ⟨h1, h2 | ⟨r0, r1, h3, h4, h5, h6⟩⟩
    · exact ⟨2, _, .inl ⟨rfl, rfl⟩, h4, .inl ⟨rfl, by omega, HCELL.out 0 45 h2 w1 (Below.refl _ _), HCELL.out 1 62 h3 w1 (Below.refl _ _)⟩⟩
    · exact ⟨0, _, .inr ⟨rfl, rfl⟩, h1, .inr (.inl ⟨rfl, by omega⟩)⟩
    · by_cases e : r0 = 45
      · subst e
        have e2 : r1 ≠ 62 := by rcases h6 with h | h; exact absurd rfl h; exact h
        exact ⟨0, _, .inr ⟨rfl, rfl⟩, h1, .inr (.inr (.inr ⟨rfl, by omega, r1, HCELL.out 0 45 h3 w1 (Below.refl _ _), HCELL.out 1 r1 h4 w1 (Below.refl _ _), beq_eq_false_iff_ne.2 e2⟩))⟩
      · exact ⟨0, _, .inr ⟨rfl, rfl⟩, h1, .inr (.inr (.inl ⟨rfl, by omega, r0, HCELL.out 0 r0 h3 w1 (Below.refl _ _), beq_eq_false_iff_ne.2 e⟩))⟩
  obtain ⟨k0, acc0, hk0, hrel0, hcase⟩ := hways2
  have H0 := Lib.hid hrel0
  have HK0 := Lib.hid hk0
  clear hways hrel0 hk0 hL
  rcases hcase with ⟨hk, h2, c0, c1⟩ | ⟨hk, h2⟩ | ⟨hk, h2, r0, c0, hr0⟩ | ⟨hk, h2, r1, c0, c1, hr1⟩
  all_goals have HKK := Lib.hid hk
  all_goals clear hk
  all_goals
    go_wp2_with fail
    go_loopw [4, 6] (fun v i wr => ∃ (k : Nat) (acc : List UInt8), v = .string ⟨acc.toArray⟩ ∧ i = .int .i64 k ∧ Wt.RSymRel xs R w1 k acc wr) (fun _ i _ => L - (intOf i).toNat)
    case atStart =>
      rcases HK0.out with ⟨e1, e2⟩ | ⟨e1, e2⟩
      · have := HKK.out
        subst e1 e2
        first
          | exact ⟨2, [45, 62], rfl, rfl, H0.out⟩
          | (exfalso; omega)
      · have := HKK.out
        subst e1 e2
        first
          | exact ⟨0, [], rfl, rfl, H0.out⟩
          | (exfalso; omega)
    case round =>
      obtain ⟨k, acc, rfl, rfl, hR⟩ := hrel
      have hle := hR.le
      rw [HL.out] at hle
      have hal := hR.len
      by_cases hk : k < L
      · obtain ⟨r, hxk, hok⟩ := HGET.out k hk
        obtain ⟨r, rfl⟩ := Int.eq_ofNat_of_zero_le (a := r) (by unfold Ru.okR at hok; omega)
        have hrb : r ≤ 1114111 := by unfold Ru.okR at hok; omega
        have KF := Lib.hid (fun w' => Wt.FirstR_any (r : Int) hok w')
        have KG := Lib.hid (fun w' => Wt.RestR_any (r : Int) hok w')
        have KH := Lib.hid (fun w' => Wt.hexR_any r w' hrb)
        have hl6 := Wt.hex_len hrb
        have he4 := Wt.enc_len (r : Int)
        have henc : Utf8.encode (r : Int) = ⟨(Lib.encodeRune (r : Int)).toArray⟩ := Sl.encode_eq _
        have HC := Lib.hid (fun wr' (hb : Below wr.heap.size wr wr') => HCELL.out k _ hxk wr' (hR.bw.trans (hb.mono hR.bw.size)))
        have HN := Lib.hid (fun (u : List UInt8) (w9 : World) (hb : Below wr.heap.size wr w9) (hu : Wt.symU (k == 0) (r : Int) = u) => hR.next hxk hok hb hu)
        obtain ⟨x, hx⟩ : ∃ z, Wt.firstB (r : Int) = z := ⟨_, rfl⟩
        obtain ⟨y, hy⟩ : ∃ z, Wt.restB (r : Int) = z := ⟨_, rfl⟩
        obtain ⟨E, hE⟩ : ∃ z, Lib.encodeRune (r : Int) = z := ⟨_, rfl⟩
        obtain ⟨H, hH⟩ : ∃ z, Wt.hex r = z := ⟨_, rfl⟩
        have HU : Hid (Wt.symU (k == 0) (r : Int) = if (if (k == 0) = true then x else y) = true then E else [92, 120] ++ H ++ [59]) := Lib.hid (by unfold Wt.symU Wt.esc; rw [hx, hy, hE, Int.toNat_natCast, hH, List.append_assoc])
        rw [hx] at KF
        rw [hy] at KG
        rw [hE] at he4 henc
        rw [hH] at KH hl6
        have HS1 : Hid ((⟨acc.toArray⟩ : ByteArray) ++ ((⟨#[92, 120]⟩ : ByteArray) ++ (⟨H.toArray⟩ : ByteArray) ++ (⟨#[59]⟩ : ByteArray)) = ⟨(acc ++ ([92, 120] ++ H ++ [59])).toArray⟩) := Lib.hid (by
          rw [show (⟨#[92, 120]⟩ : ByteArray) = ⟨([92, 120] : List UInt8).toArray⟩ from rfl, show (⟨#[59]⟩ : ByteArray) = ⟨([59] : List UInt8).toArray⟩ from rfl, Wt.str_app, Wt.str_app, Wt.str_app])
        have HS2 : Hid ((⟨acc.toArray⟩ : ByteArray) ++ (⟨E.toArray⟩ : ByteArray) = ⟨(acc ++ E).toArray⟩) := Lib.hid (Wt.str_app _ _)
        have z2 : (9223372036854775807 < 2 + H.length) = False := eq_false (by omega)
        have z3 : (9223372036854775807 < 2 + H.length + 1) = False := eq_false (by omega)
        have z4 : (9223372036854775807 < acc.length + (2 + H.length + 1)) = False := eq_false (by omega)
        have z5 : (9223372036854775807 < acc.length + E.length) = False := eq_false (by omega)
        have c := HC.out wr (Below.refl _ _)
        clear hR hx hy hE hH hok hrb hxk hal
        try clear c0
        try clear c1
        by_cases hk0 : k = 0
        · subst hk0
          rw [Nat.add_zero] at c
          cases x
          all_goals
            go_wp2_with fail
            refine (KG.out _).mono ?_
            rintro e w2 ⟨rfl, hb2⟩
            clear c
            have c := HC.out w2 hb2
            rw [Nat.add_zero] at c
            go_wp2_with fail
            refine (KF.out _).mono ?_
            rintro e w3 ⟨rfl, hb3⟩
            clear c
            have hb23 := hb2.trans (hb3.mono hb2.size)
            have c := HC.out w3 hb23
            rw [Nat.add_zero] at c
            go_wp2_with (go_at_call 111; refine (KH.out _).mono ?_; rintro e w4 ⟨rfl, hb4⟩)
            go_roundw
            case rel => first
              | exact ⟨1, _, by rw [HS1.out]; rfl, by first | rfl | go_num | (simp; try omega), HN.out _ w4 (hb23.trans (hb4.mono hb23.size)) (HU.out.trans rfl)⟩
              | exact ⟨1, _, by rw [HS2.out]; rfl, by first | rfl | go_num | (simp; try omega), HN.out _ w3 hb23 (HU.out.trans rfl)⟩
            case measure => simp [intOf]; omega
        · have hkI : ((k : Int) == 0) = false := beq_eq_false_iff_ne.2 (by omega)
          have hkN : (k == 0) = false := beq_eq_false_iff_ne.2 hk0
          rw [hkN] at HU HN
          cases y
          all_goals
            go_wp2_with fail
            refine (KG.out _).mono ?_
            rintro e w2 ⟨rfl, hb2⟩
            clear c
            have c := HC.out w2 hb2
            go_wp2_with (go_at_call 111; refine (KH.out _).mono ?_; rintro e w4 ⟨rfl, hb4⟩)
            go_roundw
            case rel => first
              | exact ⟨k + 1, _, by rw [HS1.out]; rfl, by first | rfl | go_num | (simp; try omega), HN.out _ w4 (hb2.trans (hb4.mono hb2.size)) (HU.out.trans rfl)⟩
              | exact ⟨k + 1, _, by rw [HS2.out]; rfl, by first | rfl | go_num | (simp; try omega), HN.out _ w2 hb2 (HU.out.trans rfl)⟩
            case measure => simp [intOf]; omega
      · have hsay := hR.says
        rw [List.drop_eq_nil_of_le (by have := HL.out; omega)] at hsay
        have hacc : acc = R := by simpa [Wt.syms] using hsay
        have HBW := Lib.hid hR.bw
        have HA := Lib.hid hacc
        clear hR hsay hacc
        go_wp2_with fail
        go_ret
        exact ⟨by rw [HA.out]; rfl, HB1.out.trans (HBW.out.mono HB1.out.size)⟩
end Go.Proofs.YtikmebkfdpbidaaGreatDoor
namespace Go.Proofs.YtikmebkfdpbidaaGreatDoor
open Go.RowKit
set_option linter.unusedVariables false
set_option linter.unusedSimpArgs false

set_option maxHeartbeats 4000000 in
set_option maxRecDepth 1000000 in
theorem Wt.char_any (B b : Nat) (m : Bool) (bs : List Value) (r : Nat) (w : World) (h : Wr.Is B b m bs w) (hd : Wt.Bits w) (hr : Ru.okR (r : Int)) (hlen : bs.length + 100 ≤ 140737488355328) :
    Calls Tryz.prog 97 #[.pointer (some ⟨b, 0, none⟩), .int .i32 r] w fun e w' => e = .returned (.tuple #[]) ∧ (Wr.At B b (.pointer (some ⟨b, 0, none⟩)) m (bs ++ Lib.byteCells (Wt.chr m r)) w' ∧ Wt.Kept B b w w') := by
  have hm := h.marked
  obtain ⟨hBb, hblt⟩ := h.blk
  have hrb : r ≤ 1114111 := by unfold Ru.okR at hr; omega
  have hwr : IntKind.i64.wrap (r : Int) = r := by rw [IntKind.wrap_i64]; omega
  have KR := Wt.writeRune B b m bs (r : Int) (by omega) (by omega) w h (by omega) (by omega)
  rw [← Lib.byteCells_encodeRune] at KR
  have KH := Wt.hex_any B b m bs r [35, 92] [] w h hrb hd (by decide) (by decide) hlen
  have KW : ∀ s : ByteArray, ∀ l : List UInt8, s = ⟨l.toArray⟩ → l.length ≤ 50 → Calls Tryz.prog 45 #[.pointer (some ⟨b, 0, none⟩), .string s] w fun e w' => e = .returned (.tuple #[.int .i64 s.size, .nilIface]) ∧ (Wr.At B b (.pointer (some ⟨b, 0, none⟩)) m (bs ++ Lib.byteCells l) w' ∧ Wt.Kept B b w w') := by
    intro s l hs hl
    subst hs
    refine (Wt.writeString B b m bs _ w h (by show _ + (List.toArray _).size ≤ _; simp; omega) (by omega)).mono ?_
    rintro e w2 ⟨rfl, h2, k2⟩
    rw [Wt.strCells_str] at h2
    exact ⟨rfl, h2, k2⟩
  have HR := Lib.hid KR
  have HH := Lib.hid KH
  have HW := Lib.hid KW
  obtain ⟨N, hN⟩ : ∃ z, Wt.name (r : Int) = z := ⟨_, rfl⟩
  have hN9 := Wt.name_len (r : Int)
  rw [hN] at hN9
  have KN := fun w' => Wt.CharName_any (r : Int) w'
  rw [hN] at KN
  obtain ⟨o, ho⟩ : ∃ z, Wt.odd (r : Int) = z := ⟨_, rfl⟩
  obtain ⟨q, hq⟩ : ∃ z, Ch.blankB (r : Int) = z := ⟨_, rfl⟩
  have KO := fun w' => Wt.odd_any (r : Int) w'
  have KB := fun w' => Wt.blank_any (r : Int) w'
  rw [ho] at KO
  rw [hq] at KB
  have HC : Hid (Wt.chr m (r : Int) = if m = false then Lib.encodeRune r else if N ≠ [] then [35, 92] ++ N else if (o || q) = true then [35, 92, 120] ++ Wt.hex r else [35, 92] ++ Lib.encodeRune r) := Lib.hid (by
    unfold Wt.chr
    rw [hN, ho, hq]
    rfl)
  have he4 := Wt.enc_len (r : Int)
  have henc : Utf8.encode (r : Int) = ⟨(Lib.encodeRune (r : Int)).toArray⟩ := Sl.encode_eq _
  obtain ⟨E, hE⟩ : ∃ z, Lib.encodeRune (r : Int) = z := ⟨_, rfl⟩
  rw [hE] at HC HR he4 henc
  have HR2 := Lib.hid (And.intro HW HR)
  clear KR KH KW HW HR h hd ho hq hN hr hE
  cases m
  · go_enter Tryz.func97, Tryz.ntmps97
    go_wp2_with (first
      | (go_at_call 153; refine (KN _).mono ?_; rintro e w' ⟨rfl, rfl⟩)
      | (go_at_call 46; refine HR2.out.2.out.mono ?_; rintro e w2 ⟨rfl, h2, k2⟩))
    go_end0
    refine ⟨rfl, ?_, k2⟩
    rw [HC.out]
    exact h2
  · cases N with
    | cons a l =>
      have hl : l.length + 1 ≤ 9 := hN9
      have hne : ((⟨(a :: l).toArray⟩ : ByteArray) = ⟨#[]⟩) = False := eq_false (fun e => by have := congrArg ByteArray.size e; simp [ByteArray.size] at this)
      have hs1 : (9223372036854775807 < 2 + (l.length + 1)) = False := eq_false (by omega)
      go_enter Tryz.func97, Tryz.ntmps97
      go_wp2_with (first
        | (go_at_call 153; refine (KN _).mono ?_; rintro e w' ⟨rfl, rfl⟩)
        | (go_at_call 45; refine (HR2.out.1.out _ ([35, 92] ++ (a :: l)) (by rw [show (⟨#[35, 92]⟩ : ByteArray) = ⟨([35, 92] : List UInt8).toArray⟩ from rfl, Wt.str_app]) (by simp; omega)).mono ?_; rintro e w2 ⟨rfl, h2, k2⟩))
      go_end0
      have he : Wt.chr true (r : Int) = [35, 92] ++ (a :: l) := by rw [HC.out]; simp
      exact ⟨rfl, by rw [he]; exact h2, k2⟩
    | nil =>
      have hs1 : (9223372036854775807 < 2 + E.length) = False := eq_false (by omega)
      cases o
      all_goals cases q
      all_goals
        go_enter Tryz.func97, Tryz.ntmps97
        go_wp2_with (first
          | (go_at_call 153; refine (KN _).mono ?_; rintro e w' ⟨rfl, rfl⟩)
          | (go_at_call 154; refine (KO _).mono ?_; rintro e w' ⟨rfl, rfl⟩)
          | (go_at_call 155; refine (KB _).mono ?_; rintro e w' ⟨rfl, rfl⟩)
          | (go_at_call 156; refine HH.out.mono ?_; rintro e w2 ⟨rfl, h2, k2⟩)
          | (go_at_call 45; refine (HR2.out.1.out _ ([35, 92] ++ E) (by rw [show (⟨#[35, 92]⟩ : ByteArray) = ⟨([35, 92] : List UInt8).toArray⟩ from rfl, Wt.str_app]) (by simp; omega)).mono ?_; rintro e w2 ⟨rfl, h2, k2⟩))
      all_goals
        go_end0
        refine ⟨rfl, ?_, k2⟩
        first
          | (have he : Wt.chr true (r : Int) = [35, 92] ++ E := by rw [HC.out]; simp
             rw [he]; exact h2)
          | (have he : Wt.chr true (r : Int) = [35, 92] ++ [120] ++ Wt.hex r ++ [] := by rw [HC.out]; simp
             rw [he]; exact h2)
end Go.Proofs.YtikmebkfdpbidaaGreatDoor
namespace Go.Proofs.YtikmebkfdpbidaaGreatDoor
open Go.RowKit
set_option linter.unusedVariables false
set_option linter.unusedSimpArgs false

/-- What the writer's datum does of a datum. -/
def Wt.Says (m : Bool) (t : Tr) : Prop := ∀ (B b : Nat) (bs : List Value) (C : Array Value) (w : World), Wr.Is B b m bs w → Tr.In w (fun q => q < B) t (.agg C) → Wt.Env B w → Tr.good t → Wt.fit t → bs.length + 16777216 * Tr.size t ≤ 140737488355328 →
  Calls Tryz.prog 68 #[.pointer (some ⟨b, 0, none⟩), .agg C] w fun e w' => e = .returned (.tuple #[]) ∧ (Wr.At B b (.pointer (some ⟨b, 0, none⟩)) m (bs ++ Lib.byteCells (Wt.tell m t)) w' ∧ Wt.Kept B b w w')
/-- The box of the parameter, and what is kept of it. -/
theorem Wt.boxed {B b : Nat} {m : Bool} {bs : List Value} {w : World} (hW : Wr.Is B b m bs w) (hE : Wt.Env B w) (A : Array Value) :
    Wr.Is B b m bs (w.alloc (.cells A 30)) ∧ Wt.Env B (w.alloc (.cells A 30)) ∧ (∀ w', Wt.Kept B b (w.alloc (.cells A 30)) w' → (∀ j, w'.cell? ⟨w.heap.size, j, none⟩ = A[j]?) ∧ Wt.Kept B b w w') := by
  have hb := hW.blk
  have h0 : (w.alloc (.cells A 30)).heap[w.heap.size]? = some (.cells A 30 (0, 0)) := heap_alloc_new w _
  refine ⟨hW.alloc _, hE.below ((Below.refl _ _).alloc (by omega) _), fun w' hk => ⟨?_, ((Wt.Kept.refl B b w).alloc (by omega) _).trans hk⟩⟩
  have h1 := hk.box h0 (by omega) (by decide)
  exact Lib.cell_of_heap h1
theorem Wt.own_k {k n : Int} {l : Nat} (h : Tr.own k n l = true) : 1 ≤ k ∧ k ≤ 11 := by
  unfold Tr.own at h
  split at h
  · omega
  split at h
  · omega
  split at h
  · omega
  split at h
  · omega
  simp only [Bool.and_eq_true, decide_eq_true_eq] at h
  omega
set_option maxHeartbeats 4000000 in
set_option maxRecDepth 1000000 in
theorem Wt.datum_leaf (m : Bool) (h : Tr.Hd) (l : List Tr) (h7 : h.k ≠ 7) (h8 : h.k ≠ 8) (h9 : h.k ≠ 9) : Wt.Says m (.mk h l) := by
  intro B b bs C w hW hI hE hg hf hlen
  obtain ⟨hsh, hgl⟩ := Tr.good_mk.1 hg
  obtain ⟨⟨hx, hr⟩, hfl⟩ := Wt.fit_mk.1 hf
  rw [Wt.tell_atom h8]
  have hown := Wt.shape_own hsh
  have hk11 := Wt.own_k hown
  have hlen2 : bs.length + 16777216 ≤ 140737488355328 := by
    have := Tr.size_pos (.mk h l)
    omega
  obtain ⟨hBb, hblt⟩ := hW.blk
  rw [Tr.In_mk] at hI
  obtain ⟨v3, v4, v6, v7, v9, v10, e, hH, hL⟩ := hI
  cases e
  obtain ⟨W0, hW0⟩ : ∃ z, w.alloc (.cells (Tr.cells h v3 v4 v6 v7 v9 v10) 30) = z := ⟨_, rfl⟩
  have hb0 : Below w.heap.size w W0 := by rw [← hW0]; exact (Below.refl _ _).alloc (Nat.le_refl _) _
  obtain ⟨hIs, hEn, hKe⟩ := Wt.boxed hW hE (Tr.cells h v3 v4 v6 v7 v9 v10)
  rw [hW0] at hIs hEn hKe
  have KN := fun hk => Wt.Text_any h l.length _ v3 v4 v6 v7 v9 W0 (hH.kept (Tr.Kept.all hb0 (Nat.le_refl _))) hsh hk
  have KW : ∀ w1, Below W0.heap.size W0 w1 → ∀ (s : ByteArray) (u : List UInt8), s = ⟨u.toArray⟩ → u.length ≤ 16777216 → Calls Tryz.prog 45 #[.pointer (some ⟨b, 0, none⟩), .string s] w1 fun e w' => e = .returned (.tuple #[.int .i64 s.size, .nilIface]) ∧ (Wr.At B b (.pointer (some ⟨b, 0, none⟩)) m (bs ++ Lib.byteCells u) w' ∧ Wt.Kept B b w w' ∧ Wt.Kept B b W0 w') := by
    intro w1 hb1 s u hs hu
    subst hs
    have hz := hb0.size
    have hz1 := hb1.size
    refine (Wt.writeString B b m bs _ w1 (hIs.keptBelow hb1) (by show _ + (List.toArray _).size ≤ _; simp; omega) (by omega)).mono ?_
    rintro e w2 ⟨rfl, h2, k2⟩
    rw [Wt.strCells_str] at h2
    have k3 := (Wt.Kept.below hb1 (by omega)).trans k2
    exact ⟨rfl, h2, (hKe _ k3).2, k3⟩
  have HW := Lib.hid KW
  have HIS := Lib.hid hIs
  have HEN := Lib.hid hEn
  have HKE := Lib.hid (fun w' hk => (hKe w' hk).2)
  have HKC := Lib.hid (fun w' hk => (hKe w' hk).1 8)
  obtain ⟨dd, _⟩ := hKe W0 (Wt.Kept.refl _ _ _)
  obtain ⟨k, n, s1, t1, b1, s2, t2, b2, x, raw⟩ := h
  unfold Tr.cells at dd hW0 ⊢
  have q0 := dd 0
  have q1 := dd 1
  have q2 := dd 2
  have q3 := dd 3
  have q4 := dd 4
  have q5 := dd 5
  have q6 := dd 6
  have q7 := dd 7
  have q8 := dd 8
  have HSH := Lib.hid hsh
  have HOWN := Lib.hid hown
  clear KW hIs hEn hKe dd hH hL hW hE hg hf hlen hgl hfl hb0 hsh hown
  simp only at h7 h8 h9 hk11 hx KN
  have hcase : k = 1 ∨ k = 2 ∨ k = 3 ∨ k = 4 ∨ k = 5 ∨ k = 6 ∨ k = 10 ∨ k = 11 := by omega
  clear h7 h8 h9 hk11
  rcases hcase with rfl | rfl | rfl | rfl | rfl | rfl | rfl | rfl
  · clear KN
    go_enter Tryz.func68, Tryz.ntmps68
    go_wp2_with fail
    refine (HW.out _ (Below.refl _ _) _ [40, 41] rfl (by decide)).mono ?_
    rintro e w2 ⟨rfl, h2, k2, k3⟩
    go_wp2_with fail
    go_end0
    exact ⟨rfl, h2, k2⟩
  · clear KN
    have hn : n = 0 ∨ n = 1 := by
      have := HOWN.out
      simp [Tr.own] at this
      exact this.1
    have HBD : Hid (∀ o, Below W0.heap.size W0 (W0.alloc o).drew) := Lib.hid (fun o => Below.drew ((Below.refl _ _).alloc (Nat.le_refl _) o))
    have hq : ∀ o, (W0.alloc o).drew.cell? ⟨w.heap.size, 1, none⟩ = some (.int .i64 n) := fun o => by
      have hlt := World.block_lt_of_cell? W0 _ q1
      have := (HBD.out o).cell (p := ⟨w.heap.size, 1, none⟩) hlt
      rw [this]
      exact q1
    rcases hn with rfl | rfl
    · go_enter Tryz.func68, Tryz.ntmps68
      go_wp2_with fail
      go_region_with (go_at_call 45; refine (HW.out _ (HBD.out _) _ [35, 102] rfl (by decide)).mono ?_; rintro e w2 ⟨rfl, h2, k2, k3⟩)
      all_goals
        go_wp2_with fail
        go_end0
        exact ⟨rfl, h2, k2⟩
    · go_enter Tryz.func68, Tryz.ntmps68
      go_wp2_with fail
      go_region_with (go_at_call 45; refine (HW.out _ (HBD.out _) _ [35, 116] rfl (by decide)).mono ?_; rintro e w2 ⟨rfl, h2, k2, k3⟩)
      all_goals
        go_wp2_with fail
        go_end0
        exact ⟨rfl, h2, k2⟩
  · have KT := Lib.hid (KN rfl)
    clear KN
    have hnl := Wt.num_len HSH.out rfl
    obtain ⟨N, hN⟩ : ∃ z, Wt.num ⟨3, n, s1, t1, b1, s2, t2, b2, x, raw⟩ = z := ⟨_, rfl⟩
    rw [hN] at KT hnl
    have HN := Lib.hid hN
    clear hN
    go_enter Tryz.func68, Tryz.ntmps68
    go_wp2_with fail
    refine KT.out.mono ?_
    rintro e w1 ⟨rfl, hb1⟩
    go_wp2_with fail
    refine (HW.out _ hb1 _ N rfl (by omega)).mono ?_
    rintro e w2 ⟨rfl, h2, k2, k3⟩
    go_wp2_with fail
    go_end0
    refine ⟨rfl, ?_, k2⟩
    rw [← HN.out] at h2
    exact h2
  · clear KN
    have hok := Wt.shape_char HSH.out rfl
    have hok : Ru.okR n := hok
    obtain ⟨r, rfl⟩ := Int.eq_ofNat_of_zero_le (a := n) (by unfold Ru.okR at hok; omega)
    have hwr : IntKind.i32.wrap (r : Int) = r := by rw [IntKind.wrap_i32]; unfold Ru.okR at hok; omega
    have KC := Lib.hid (Wt.char_any B b m bs r W0 HIS.out HEN.out.bits hok (by omega))
    clear hok
    go_enter Tryz.func68, Tryz.ntmps68
    go_wp2_with fail
    refine KC.out.mono ?_
    rintro e w2 ⟨rfl, h2, k2⟩
    go_wp2_with fail
    go_end0
    exact ⟨rfl, h2, HKE.out _ k2⟩
  · clear KN
    have KC := Lib.hid (Wt.text_any B b m bs x W0 HIS.out HEN.out.bits HEN.out.lt.1 hx hlen2)
    go_enter Tryz.func68, Tryz.ntmps68
    go_wp2_with fail
    refine KC.out.mono ?_
    rintro e w2 ⟨rfl, h2, k2⟩
    go_wp2_with fail
    go_end0
    exact ⟨rfl, h2, HKE.out _ k2⟩
  · clear KN
    have KC := Lib.hid (Wt.symbol_any B b m bs x W0 HIS.out HEN.out.bits HEN.out.lt.1 hx hlen2)
    go_enter Tryz.func68, Tryz.ntmps68
    go_wp2_with fail
    refine KC.out.mono ?_
    rintro e w2 ⟨rfl, h2, k2⟩
    go_wp2_with fail
    go_end0
    exact ⟨rfl, h2, HKE.out _ k2⟩
  · clear KN
    go_enter Tryz.func68, Tryz.ntmps68
    go_wp2_with fail
    refine (HW.out _ (Below.refl _ _) _ [35, 60, 118, 111, 105, 100, 62] rfl (by decide)).mono ?_
    rintro e w2 ⟨rfl, h2, k2, k3⟩
    go_wp2_with fail
    go_end0
    exact ⟨rfl, h2, k2⟩
  · clear KN
    have hz1 : (9223372036854775807 < 2 + x.size) = False := eq_false (by omega)
    have hz2 : (9223372036854775807 < 2 + x.size + 1) = False := eq_false (by omega)
    have hxe : (⟨#[35, 60]⟩ ++ x ++ ⟨#[62]⟩ : ByteArray) = ⟨([35, 60] ++ (x.data.toList ++ [62])).toArray⟩ := by
      apply ByteArray.ext
      first | (simp; done) | (simp; apply Array.ext'; simp)
    have hxl : ([35, 60] ++ (x.data.toList ++ [62]) : List UInt8).length ≤ 16777216 := by
      have : x.data.toList.length = x.size := Array.length_toList
      simp only [List.length_append, List.length_cons, List.length_nil]
      omega
    have HX := Lib.hid (And.intro hxe hxl)
    clear hxe hxl
    go_enter Tryz.func68, Tryz.ntmps68
    go_wp2_with fail
    go_region_held3 (fun w' => w'.cell? ⟨w.heap.size, 8, none⟩ = some (.string x))
      (first | exact q8 | exact hkeep)
      (first
        | (go_at_call 45
           refine (HW.out _ (Below.drew (Below.refl _ _)) _ _ HX.out.1 HX.out.2).mono ?_
           rintro e w2 ⟨rfl, h2, k2, k3⟩
           have hkeep : w2.cell? ⟨w.heap.size, 8, none⟩ = some (.string x) := HKC.out _ k3))
    go_wp2_with fail
    go_end0
    exact ⟨rfl, h2, k2⟩
end Go.Proofs.YtikmebkfdpbidaaGreatDoor
namespace Go.Proofs.YtikmebkfdpbidaaGreatDoor
open Go.RowKit
set_option linter.unusedVariables false
set_option linter.unusedSimpArgs false

/-- What the document's tell answers of a datum. -/
def Wt.TSays (m : Bool) (t : Tr) : Prop := ∀ (S : Nat → Prop) (C : Array Value) (w : World), Tr.In w S t (.agg C) → Tr.good t → Wt.fit t → 16777216 * Tr.size t ≤ 140737488355328 →
  Calls Tryz.prog 41 #[.agg C, .bool m] w fun e w' => e = .returned (.string (Tx.str (Wt.tell m t))) ∧ Below w.heap.size w w'
theorem Wt.ret1 {X Y : ByteArray} (h : X = Y) : Ending.returned (.string X) = .returned (.string Y) := by rw [h]
set_option maxHeartbeats 4000000 in
set_option maxRecDepth 1000000 in
theorem Wt.tell_leaf (m : Bool) (h : Tr.Hd) (l : List Tr) (h7 : h.k ≠ 7) (h8 : h.k ≠ 8) (h9 : h.k ≠ 9) : Wt.TSays m (.mk h l) := by
  intro S C w hI hg hf hlen
  obtain ⟨hsh, hgl⟩ := Tr.good_mk.1 hg
  obtain ⟨⟨hx, hr⟩, hfl⟩ := Wt.fit_mk.1 hf
  rw [Wt.tell_atom h8]
  have hown := Wt.shape_own hsh
  have hk11 := Wt.own_k hown
  rw [Tr.In_mk] at hI
  obtain ⟨v3, v4, v6, v7, v9, v10, e, hH, hL⟩ := hI
  cases e
  obtain ⟨W0, hW0⟩ : ∃ z, w.alloc (.cells (Tr.cells h v3 v4 v6 v7 v9 v10) 30) = z := ⟨_, rfl⟩
  have hb0 : Below w.heap.size w W0 := by rw [← hW0]; exact (Below.refl _ _).alloc (Nat.le_refl _) _
  have hq0 : W0.heap[w.heap.size]? = some (.cells (Tr.cells h v3 v4 v6 v7 v9 v10) 30 (0, 0)) := by rw [← hW0]; exact heap_alloc_new w _
  have KN := fun hk => Wt.TextR_any h l.length _ v3 v4 v6 v7 v9 W0 (hH.kept (Tr.Kept.all hb0 (Nat.le_refl _))) hsh hk
  have dd := Lib.cell_of_heap hq0
  have HB := Lib.hid hb0
  obtain ⟨R, hR⟩ : ∃ R, Tx.str (Wt.atom m h (Wt.row m true l)) = R := ⟨_, rfl⟩
  rw [hR]
  obtain ⟨k, n, s1, t1, b1, s2, t2, b2, x, raw⟩ := h
  unfold Tr.cells at dd hW0 ⊢
  have q0 := dd 0
  have q1 := dd 1
  have q2 := dd 2
  have q3 := dd 3
  have q4 := dd 4
  have q5 := dd 5
  have q6 := dd 6
  have q7 := dd 7
  have q8 := dd 8
  have HSH := Lib.hid hsh
  have HOWN := Lib.hid hown
  have HR := Lib.hid hR
  clear dd hH hL hg hf hlen hgl hfl hsh hown hR hb0 hq0
  simp only at h7 h8 h9 hk11 hx KN
  have hcase : k = 1 ∨ k = 2 ∨ k = 3 ∨ k = 4 ∨ k = 5 ∨ k = 6 ∨ k = 10 ∨ k = 11 := by omega
  clear h7 h8 h9 hk11
  rcases hcase with rfl | rfl | rfl | rfl | rfl | rfl | rfl | rfl
  · clear KN
    go_enter Tryz.func41, Tryz.ntmps41
    go_wp2_with fail
    go_ret
    exact ⟨by rw [← HR.out]; rfl, HB.out⟩
  · clear KN
    have hn : n = 0 ∨ n = 1 := by
      have := HOWN.out
      simp [Tr.own] at this
      exact this.1
    rcases hn with rfl | rfl
    · go_enter Tryz.func41, Tryz.ntmps41
      go_wp2_with fail
      go_ret
      exact ⟨by rw [← HR.out]; rfl, HB.out⟩
    · go_enter Tryz.func41, Tryz.ntmps41
      go_wp2_with fail
      go_ret
      exact ⟨by rw [← HR.out]; rfl, HB.out⟩
  · have KT := Lib.hid (KN rfl)
    clear KN
    obtain ⟨N, hN⟩ : ∃ z, Wt.num ⟨3, n, s1, t1, b1, s2, t2, b2, x, raw⟩ = z := ⟨_, rfl⟩
    rw [hN] at KT
    have HN := Lib.hid hN
    clear hN
    go_enter Tryz.func41, Tryz.ntmps41
    go_wp2_with fail
    refine KT.out.mono ?_
    rintro e w1 ⟨rfl, hb1⟩
    go_wp2_with fail
    go_ret
    exact ⟨by rw [← HR.out, ← HN.out]; rfl, HB.out.trans (hb1.mono HB.out.size)⟩
  · clear KN
    have hok : Ru.okR n := Wt.shape_char HSH.out rfl
    obtain ⟨r, rfl⟩ := Int.eq_ofNat_of_zero_le (a := n) (by unfold Ru.okR at hok; omega)
    have hwr : IntKind.i32.wrap (r : Int) = r := by rw [IntKind.wrap_i32]; unfold Ru.okR at hok; omega
    have KC := Lib.hid (Wt.charR_any r W0 hok)
    have HOK := Lib.hid hok
    clear hok
    cases m
    · go_enter Tryz.func41, Tryz.ntmps41
      go_wp2_with fail
      go_ret
      exact ⟨by rw [← HR.out]; exact Wt.ret1 (Sl.encode_eq _), HB.out⟩
    · go_enter Tryz.func41, Tryz.ntmps41
      go_wp2_with fail
      refine KC.out.mono ?_
      rintro e w2 ⟨rfl, hb2⟩
      go_wp2_with fail
      go_ret
      exact ⟨by rw [← HR.out]; rfl, HB.out.trans (hb2.mono HB.out.size)⟩
  · clear KN
    have KC := Lib.hid (Wt.strR_any x W0 hx)
    cases m
    · go_enter Tryz.func41, Tryz.ntmps41
      go_wp2_with fail
      go_ret
      exact ⟨by rw [← HR.out]; rfl, HB.out⟩
    · go_enter Tryz.func41, Tryz.ntmps41
      go_wp2_with fail
      refine KC.out.mono ?_
      rintro e w2 ⟨rfl, hb2⟩
      go_wp2_with fail
      go_ret
      exact ⟨by rw [← HR.out]; rfl, HB.out.trans (hb2.mono HB.out.size)⟩
  · clear KN
    have KC := Lib.hid (Wt.symbolR_any x W0 hx)
    cases m
    · go_enter Tryz.func41, Tryz.ntmps41
      go_wp2_with fail
      go_ret
      exact ⟨by rw [← HR.out]; rfl, HB.out⟩
    · go_enter Tryz.func41, Tryz.ntmps41
      go_wp2_with fail
      refine KC.out.mono ?_
      rintro e w2 ⟨rfl, hb2⟩
      go_wp2_with fail
      go_ret
      exact ⟨by rw [← HR.out]; rfl, HB.out.trans (hb2.mono HB.out.size)⟩
  · clear KN
    go_enter Tryz.func41, Tryz.ntmps41
    go_wp2_with fail
    go_ret
    exact ⟨by rw [← HR.out]; rfl, HB.out⟩
  · clear KN
    have hz1 : (9223372036854775807 < 2 + x.size) = False := eq_false (by omega)
    have hz2 : (9223372036854775807 < 2 + x.size + 1) = False := eq_false (by omega)
    have hxe : (⟨#[35, 60]⟩ ++ x ++ ⟨#[62]⟩ : ByteArray) = ⟨([35, 60] ++ (x.data.toList ++ [62])).toArray⟩ := by
      apply ByteArray.ext
      first | (simp; done) | (simp; apply Array.ext'; simp)
    have HX := Lib.hid hxe
    clear hxe
    go_enter Tryz.func41, Tryz.ntmps41
    go_wp2_with fail
    go_ret
    exact ⟨by rw [← HR.out]; exact Wt.ret1 HX.out, HB.out⟩
end Go.Proofs.YtikmebkfdpbidaaGreatDoor
namespace Go.Proofs.YtikmebkfdpbidaaGreatDoor
open Go.RowKit
set_option linter.unusedVariables false
set_option linter.unusedSimpArgs false

/-- What holds at each round of the vector's loop. -/
structure Wt.VecRel (B b : Nat) (m : Bool) (bs : List Value) (l : List Tr) (W0 : World) (k : Nat) (acc : List UInt8) (wr : World) : Prop where
  at_ : Wr.At B b (.pointer (some ⟨b, 0, none⟩)) m (bs ++ Lib.byteCells acc) wr
  kept : Wt.Kept B b W0 wr
  le : k ≤ l.length
  says : acc ++ (Wt.row m (k == 0) (l.drop k) ++ [41]) = [35, 40] ++ (Wt.row m true l ++ [41])
  len : acc.length + 16777216 * Tr.sizeL (l.drop k) ≤ 16777216 * Tr.sizeL l + 2
theorem Wt.VecRel.next {B b : Nat} {m : Bool} {bs : List Value} {l : List Tr} {W0 : World} {k : Nat} {acc : List UInt8} {wr w1 : World} (h : Wt.VecRel B b m bs l W0 k acc wr) {t : Tr} (ht : l[k]? = some t) (hg : Tr.good t) (hf : Wt.fit t)
    (h1 : Wr.At B b (.pointer (some ⟨b, 0, none⟩)) m (bs ++ Lib.byteCells (acc ++ ((if k = 0 then [] else [32]) ++ Wt.tell m t))) w1) (k1 : Wt.Kept B b wr w1) :
    Wt.VecRel B b m bs l W0 (k + 1) (acc ++ ((if k = 0 then [] else [32]) ++ Wt.tell m t)) w1 := by
  have hd : l.drop k = t :: l.drop (k + 1) := by
    obtain ⟨h2, h3⟩ := List.getElem?_eq_some_iff.1 ht
    rw [List.drop_eq_getElem_cons h2, h3]
  have hk : k < l.length := (List.getElem?_eq_some_iff.1 ht).1
  refine ⟨h1, h.kept.trans k1, hk, ?_, ?_⟩
  · rw [← h.says, hd, Wt.row_cons]
    by_cases h0 : k = 0 <;> simp [h0]
  · have h2 := h.len
    rw [hd, Tr.sizeL_cons] at h2
    have h3 := (Wt.small m t hg hf).1
    have : (if k = 0 then ([] : List UInt8) else [32]).length ≤ 1 := by split <;> simp
    simp only [List.length_append]
    omega
set_option maxHeartbeats 4000000 in
set_option maxRecDepth 1000000 in
theorem Wt.datum_vec (m : Bool) (h : Tr.Hd) (l : List Tr) (h9 : h.k = 9) (IH : ∀ u, Tr.size u < Tr.size (.mk h l) → Wt.Says m u) : Wt.Says m (.mk h l) := by
  intro B b bs C w hW hI hE hg hf hlen
  obtain ⟨hsh, hgl⟩ := Tr.good_mk.1 hg
  obtain ⟨⟨hx, hr⟩, hfl⟩ := Wt.fit_mk.1 hf
  rw [Wt.tell_atom (by omega)]
  rw [Tr.size_mk] at hlen
  obtain ⟨hBb, hblt⟩ := hW.blk
  rw [Tr.In_mk] at hI
  obtain ⟨v3, v4, v6, v7, v9, v10, e, hH, hL⟩ := hI
  cases e
  obtain ⟨W0, hW0⟩ : ∃ z, w.alloc (.cells (Tr.cells h v3 v4 v6 v7 v9 v10) 30) = z := ⟨_, rfl⟩
  have hb0 : Below w.heap.size w W0 := by rw [← hW0]; exact (Below.refl _ _).alloc (Nat.le_refl _) _
  obtain ⟨hIs, hEn, hKe⟩ := Wt.boxed hW hE (Tr.cells h v3 v4 v6 v7 v9 v10)
  rw [hW0] at hIs hEn hKe
  have hz0 := hb0.size
  obtain ⟨p10, d10, rfl, hcap10, hmax10⟩ := Tr.Sl.slice hL
  have hlen10 : l.length ≤ 9223372036854775807 := by
    rcases hmax10 with h0 | h0 <;> omega
  have hdata : ∀ k t, l[k]? = some t → ∃ (bb off : Nat) (C : Array Value), p10 = some ⟨bb, off, none⟩ ∧ ∀ wr, Wt.Kept B b W0 wr → Tr.In wr (fun q => q < B) t (.agg C) ∧ Tr.Mem wr bb (off + k * 11) C := by
    intro k t ht
    have hk := (List.getElem?_eq_some_iff.1 ht).1
    obtain ⟨bb, off, e, _, _, _, hblt, hSb, hall⟩ := Tr.Sl.at hL (by omega)
    obtain ⟨Ck, hIk, hMk⟩ := Tr.All.at _ _ _ hall k t ht
    rw [Nat.mul_comm 11 k] at hMk
    refine ⟨bb, off, Ck, e, fun wr hkw => ?_⟩
    have hkp : Tr.Kept (fun q => q < B) w wr := ⟨Nat.le_trans hz0 hkw.size, fun q hq hl => (hkw.1.block q hq).trans (hb0.block q hl)⟩
    exact ⟨Tr.In.kept hkp t _ hIk, hMk.kept hkp hSb hblt⟩
  have K5 := Lib.hid (Wt.writeString B b m bs ⟨#[35, 40]⟩ W0 hIs (by show _ + 2 ≤ _; omega) (by omega))
  obtain ⟨dd, _⟩ := hKe W0 (Wt.Kept.refl _ _ _)
  have q0 := dd 0
  have HDATA := Lib.hid hdata
  have HKE := Lib.hid hKe
  have HEN := Lib.hid hEn
  have HIH : Hid (∀ k t, l[k]? = some t → Wt.Says m t ∧ Tr.good t ∧ Wt.fit t ∧ Tr.size t ≤ Tr.sizeL (l.drop k)) := Lib.hid (fun k t ht => by
    refine ⟨IH t (Tr.size_lt (t := .mk h l) ht), Tr.goodL_at l hgl k t ht, Wt.fitL_at hfl ht, ?_⟩
    have hd : l.drop k = t :: l.drop (k + 1) := by
      obtain ⟨h2, h3⟩ := List.getElem?_eq_some_iff.1 ht
      rw [List.drop_eq_getElem_cons h2, h3]
    rw [hd, Tr.sizeL_cons]
    omega)
  have HGET : Hid (∀ k, k < l.length → ∃ t, l[k]? = some t) := Lib.hid (fun k hk => ⟨_, List.getElem?_eq_getElem hk⟩)
  obtain ⟨k, n, s1, t1, b1, s2, t2, b2, x, raw⟩ := h
  simp only at h9
  subst h9
  unfold Tr.cells at q0 HKE hW0 ⊢
  obtain ⟨L, hL2⟩ : ∃ z, z = l.length := ⟨_, rfl⟩
  rw [← hL2] at q0 HKE hW0 HGET hcap10 hlen10 ⊢
  have HLL := Lib.hid hL2
  clear dd hdata hKe hIs hEn hH hL hL2 hW hE hg hf hfl hgl hsh hb0 hmax10 IH
  go_enter Tryz.func68, Tryz.ntmps68
  go_wp2_with fail
  refine K5.out.mono ?_
  rintro e w1 ⟨rfl, h1, k1⟩
  obtain ⟨dd1, kw1⟩ := HKE.out _ k1
  have q10 := dd1 10
  have H0 : Wt.VecRel B b m bs l W0 0 [35, 40] w1 := ⟨h1, k1, Nat.zero_le _, rfl, by simp; omega⟩
  clear h1 dd1 q0
  go_wp2_with fail
  go_loopw [115] (fun i wr => ∃ (k : Nat) (acc : List UInt8), i = .int .i64 k ∧ Wt.VecRel B b m bs l W0 k acc wr) (fun i _ => L - (intOf i).toNat)
  case atStart => exact ⟨0, _, rfl, H0⟩
  case round =>
    obtain ⟨k, acc, rfl, hR⟩ := hrel
    clear H0 q10
    have hle := hR.le
    rw [← HLL.out] at hle
    have hal := hR.len
    have hbW := Wr.At.is hR.at_ |>.blk
    by_cases hk : k < L
    · obtain ⟨t, ht⟩ := HGET.out k hk
      obtain ⟨bb, off, C, rfl, hel⟩ := HDATA.out k t ht
      obtain ⟨hS, hgt, hft, hst⟩ := HIH.out k t ht
      have hIk := (hel wr hR.kept).1
      obtain ⟨he, le, ab3, ab4, ab6, ab7, ab9, ab10, nb3, nb4, nb6, nb7, nb9, nb10, cb3, cb4, cb6, cb7, cb9, cb10, eCb, ebt, hbH, hbL⟩ := Tr.In.form2 hIk
      subst eCb
      clear ebt hbH hbL hIk
      have hM := (hel wr hR.kept).2
      unfold Tr.cells at hM hel
      obtain ⟨e0, e1, e2, e3, e4, e5, e6, e7, e8, e9, e10⟩ := Tr.Mem.cells hM
      clear hM
      have hEW := HEN.out.kept hR.kept
      have HREC := Lib.hid (fun (w5 : World) (k5 : Wt.Kept B b wr w5) (ac : List UInt8) (hAt : Wr.At B b (.pointer (some ⟨b, 0, none⟩)) m (bs ++ Lib.byteCells ac) w5) (hac : ac.length ≤ acc.length + 1) =>
        hS B b (bs ++ Lib.byteCells ac) _ w5 hAt.is (hel w5 (hR.kept.trans k5)).1 (hEW.kept k5) hgt hft (by rw [List.length_append, Lib.byteCells_length]; omega))
      have HN := Lib.hid (fun w2 => hR.next (w1 := w2) ht hgt hft)
      have HAT := Lib.hid hR.at_
      have HKA := Lib.hid (fun o => (Wt.Kept.refl B b wr).alloc (by omega) o)
      by_cases hk0 : k = 0
      · subst hk0
        rw [Nat.zero_mul, Nat.add_zero] at e0 e1 e2 e3 e4 e5 e6 e7 e8 e9 e10
        clear hR hel hS
        go_wp2_with fail
        refine (HREC.out _ (HKA.out _) acc (HAT.out.alloc _) (by omega)).mono ?_
        rintro e w3 ⟨rfl, h3, k3⟩
        rw [Wt.cells_app] at h3
        go_wp2_with fail
        go_roundw
        case rel => exact ⟨1, _, by first | rfl | go_num | (simp; try omega), HN.out w3 h3 ((HKA.out _).trans k3)⟩
        case measure => simp [intOf]; omega
      · have hk0I : (0 : Int) < (k : Int) := by omega
        have HB := Lib.hid (fun o => Wt.writeByte B b m (bs ++ Lib.byteCells acc) 32 (wr.alloc o) (HAT.out.alloc o).is (by rw [List.length_append, Lib.byteCells_length]; omega) (by simp; omega))
        clear hR hel hS hle
        go_wp2_with fail
        refine (HB.out _).mono ?_
        rintro e w5 ⟨rfl, h5, k5⟩
        have h5 : Wr.At B b (.pointer (some ⟨b, 0, none⟩)) m (bs ++ Lib.byteCells (acc ++ [32])) w5 := by rw [← Wt.cells_snoc]; exact h5
        have HBX := k5.box (heap_alloc_new wr _) (by omega) (by decide)
        have hc := Lib.cell_of_heap HBX
        have d0 := hc 0
        have d1 := hc 1
        have d2 := hc 2
        have d3 := hc 3
        have d4 := hc 4
        have d5 := hc 5
        have d6 := hc 6
        have d7 := hc 7
        have d8 := hc 8
        have d9 := hc 9
        have d10 := hc 10
        have HREC2 := Lib.hid (HREC.out w5 ((HKA.out _).trans k5) (acc ++ [32]) h5 (by simp))
        have HKK := Lib.hid ((HKA.out _).trans k5)
        clear h5 k5 HBX hc e0 e1 e2 e3 e4 e5 e6 e7 e8 e9 e10
        go_wp2_with fail
        refine HREC2.out.mono ?_
        rintro e w3 ⟨rfl, h3, k3⟩
        rw [Wt.cells_app] at h3
        go_wp2_with fail
        go_roundw
        case rel =>
          refine ⟨k + 1, _, by first | rfl | go_num | (simp; try omega), HN.out w3 ?_ (HKK.out.trans k3)⟩
          rw [if_neg hk0, ← List.append_assoc]
          exact h3
        case measure => simp [intOf]; omega
    · have hkL : k = L := by omega
      have HB := Lib.hid (Wt.writeByte B b m (bs ++ Lib.byteCells acc) 41 wr hR.at_.is (by rw [List.length_append, Lib.byteCells_length]; omega) (by omega))
      have hsay : Hid (acc ++ [41] = [35, 40] ++ (Wt.row m true l ++ [41])) := Lib.hid (by
        rw [← hR.says, List.drop_eq_nil_of_le (by have := HLL.out; omega), Wt.row_nil]
        simp)
      have HKW := Lib.hid (HKE.out _ hR.kept).2
      clear hR hal hle
      go_wp2_with fail
      refine HB.out.mono ?_
      rintro e w2 ⟨rfl, h2, k2⟩
      go_wp2_with fail
      go_end0
      refine ⟨rfl, ?_, HKW.out.trans k2⟩
      have h3 := Wt.cells_snoc bs acc 41
      rw [hsay.out] at h3
      show Wr.At B b _ m (bs ++ Lib.byteCells ([35, 40] ++ (Wt.row m true l ++ [41]))) w2
      rw [← h3]
      exact h2
end Go.Proofs.YtikmebkfdpbidaaGreatDoor
namespace Go.Proofs.YtikmebkfdpbidaaGreatDoor
open Go.RowKit
set_option linter.unusedVariables false

theorem By.byt_data (s : ByteArray) (j : Nat) (h : j < s.data.size) : Cd.byt s j = (s.data[j].toNat : Int) := by
  unfold Cd.byt
  have : s.get! j = s.data[j] := by
    exact getElem!_pos s.data j h
  rw [this]
theorem By.In.drew {w : World} {v : Value} {s : ByteArray} (h : By.In w v s) : By.In w.drew v s := h
/-- The row that the conversion lays can be read as the text's bytes. -/
theorem By.In.of_string (w : World) (t : TypeId) (s : ByteArray) (cap : Nat) (fr : Nat × Nat) (hcap : s.size ≤ cap) : By.In (w.alloc (.cells (bytesRow s cap) t fr)) (.slice (some ⟨w.heap.size, 0, none⟩) s.size cap) s := by
  rcases Nat.eq_zero_or_pos s.size with h0 | h0
  · exact .inr (.inl ⟨_, _, by rw [h0], h0⟩)
  · refine .inr (.inr ⟨h0, w.heap.size, 0, cap, rfl, hcap, by simp, fun j hj => ?_⟩)
    rw [Nat.zero_add, World.cell?_alloc_mark, bytesRow_at s cap j hj, By.byt_data s j hj]
end Go.Proofs.YtikmebkfdpbidaaGreatDoor
namespace Go.Proofs.YtikmebkfdpbidaaGreatDoor
open Go.RowKit
set_option linter.unusedVariables false
set_option linter.unusedSimpArgs false

/-- What holds at each round of the bytes' loop. -/
structure Wt.BytRel (B b : Nat) (m : Bool) (bs : List Value) (raw : ByteArray) (W0 : World) (k : Nat) (acc : List UInt8) (wr : World) : Prop where
  at_ : Wr.At B b (.pointer (some ⟨b, 0, none⟩)) m (bs ++ Lib.byteCells acc) wr
  kept : Wt.Kept B b W0 wr
  le : k ≤ raw.size
  says : acc ++ (Wt.raws (k == 0) (raw.data.toList.drop k) ++ [41]) = [35, 118, 117, 56, 40] ++ (Wt.raws true raw.data.toList ++ [41])
  len : acc.length ≤ 5 + 10 * k
theorem Wt.BytRel.next {B b : Nat} {m : Bool} {bs : List Value} {raw : ByteArray} {W0 : World} {k : Nat} {acc : List UInt8} {wr w1 : World} (h : Wt.BytRel B b m bs raw W0 k acc wr) (hk : k < raw.size) {x : UInt8} (hx : raw.data.toList[k]? = some x)
    (h1 : Wr.At B b (.pointer (some ⟨b, 0, none⟩)) m (bs ++ Lib.byteCells (acc ++ ((if k = 0 then [] else [32]) ++ Tx.dec x.toNat))) w1) (k1 : Wt.Kept B b wr w1) :
    Wt.BytRel B b m bs raw W0 (k + 1) (acc ++ ((if k = 0 then [] else [32]) ++ Tx.dec x.toNat)) w1 := by
  refine ⟨h1, h.kept.trans k1, hk, ?_, ?_⟩
  · rw [← h.says]
    have hd : raw.data.toList.drop k = x :: raw.data.toList.drop (k + 1) := by
      obtain ⟨h2, h3⟩ := List.getElem?_eq_some_iff.1 hx
      rw [List.drop_eq_getElem_cons h2, h3]
    rw [hd, Wt.raws]
    by_cases h0 : k = 0 <;> simp [h0]
  · have := h.len
    have := Wt.dec_byte x
    have : (if k = 0 then ([] : List UInt8) else [32]).length ≤ 1 := by split <;> simp
    simp only [List.length_append]
    omega
set_option maxHeartbeats 4000000 in
set_option maxRecDepth 1000000 in
theorem Wt.datum_bytes (m : Bool) (h : Tr.Hd) (l : List Tr) (h7 : h.k = 7) : Wt.Says m (.mk h l) := by
  intro B b bs C w hW hI hE hg hf hlen
  obtain ⟨⟨hx, hr⟩, hfl⟩ := Wt.fit_mk.1 hf
  rw [Wt.tell_atom (by omega)]
  have hlen2 : bs.length + 16777216 ≤ 140737488355328 := by
    have := Tr.size_pos (.mk h l)
    omega
  obtain ⟨hBb, hblt⟩ := hW.blk
  rw [Tr.In_mk] at hI
  obtain ⟨v3, v4, v6, v7, v9, v10, e, hH, hL⟩ := hI
  cases e
  obtain ⟨W0, hW0⟩ : ∃ z, w.alloc (.cells (Tr.cells h v3 v4 v6 v7 v9 v10) 30) = z := ⟨_, rfl⟩
  have hb0 : Below w.heap.size w W0 := by rw [← hW0]; exact (Below.refl _ _).alloc (Nat.le_refl _) _
  obtain ⟨hIs, hEn, hKe⟩ := Wt.boxed hW hE (Tr.cells h v3 v4 v6 v7 v9 v10)
  rw [hW0] at hIs hEn hKe
  have hz0 := hb0.size
  obtain ⟨a9, c9, hv9⟩ := hH.i9.slice
  have hI9 := hH.i9
  have hO9 := hH.o9
  rw [hv9] at hI9 hO9
  have hdata : ∀ k, k < h.raw.size → ∃ (bb off : Nat) (x : UInt8), a9 = some ⟨bb, off, none⟩ ∧ h.raw.data.toList[k]? = some x ∧ ∀ wr, Wt.Kept B b W0 wr → wr.cell? ⟨bb, off + k, none⟩ = some (.int .u8 x.toNat) := by
    intro k hk
    obtain ⟨bb, off, e, hlt, _, hc⟩ := By.In.at hI9 (by omega)
    have hS := hO9 (by omega) bb off _ _ (by rw [e])
    have hk2 : k < h.raw.data.size := hk
    refine ⟨bb, off, h.raw.data[k], e, by simp [hk2], fun wr hkw => ?_⟩
    have h1 := hc k hk
    rw [By.byt_data h.raw k hk2] at h1
    rw [hkw.1.cell (p := ⟨bb, off + k, none⟩) hS, hb0.cell (p := ⟨bb, off + k, none⟩) hlt]
    exact h1
  have hcap : h.raw.size ≤ c9 ∨ True := .inr trivial
  have K5 := Lib.hid (Wt.writeString B b m bs ⟨#[35, 118, 117, 56, 40]⟩ W0 hIs (by show _ + 5 ≤ _; omega) (by omega))
  obtain ⟨dd, _⟩ := hKe W0 (Wt.Kept.refl _ _ _)
  have q0 := dd 0
  have HDATA := Lib.hid hdata
  have HKE := Lib.hid hKe
  have HEN := Lib.hid hEn
  subst hv9
  obtain ⟨k, n, s1, t1, b1, s2, t2, b2, x, raw⟩ := h
  simp only at h7
  subst h7
  simp only at hr hx HDATA
  unfold Tr.cells at q0 HKE hW0 ⊢
  obtain ⟨L, hL⟩ : ∃ z, z = raw.size := ⟨_, rfl⟩
  rw [← hL] at q0 HKE hW0 HDATA hr ⊢
  have HLL := Lib.hid hL
  clear dd hdata hKe hIs hEn hH hL hW hE hg hf hlen hfl hb0 hI9 hO9 hcap
  go_enter Tryz.func68, Tryz.ntmps68
  go_wp2_with fail
  refine K5.out.mono ?_
  rintro e w1 ⟨rfl, h1, k1⟩
  obtain ⟨dd1, kw1⟩ := HKE.out _ k1
  have q9 := dd1 9
  have H0 : Wt.BytRel B b m bs raw W0 0 [35, 118, 117, 56, 40] w1 := ⟨h1, k1, Nat.zero_le _, rfl, by simp⟩
  clear h1 dd1 q0
  go_wp2_with fail
  go_loopw [78] (fun i wr => ∃ (k : Nat) (acc : List UInt8), i = .int .i64 k ∧ Wt.BytRel B b m bs raw W0 k acc wr) (fun i _ => L - (intOf i).toNat)
  case atStart => exact ⟨0, _, rfl, H0⟩
  case round =>
    obtain ⟨k, acc, rfl, hR⟩ := hrel
    clear H0 q9
    have hle := hR.le
    rw [← HLL.out] at hle
    have hal := hR.len
    have hbW := Wr.At.is hR.at_ |>.blk
    by_cases hk : k < L
    · obtain ⟨bb, off, x, rfl, hxk, hcell⟩ := HDATA.out k hk
      have c := hcell wr hR.kept
      have hxb := x.toNat_lt
      have hwx : IntKind.i64.wrap (x.toNat : Int) = x.toNat := by rw [IntKind.wrap_i64]; omega
      have HI := Lib.hid (fun W (hkW : Wt.Kept B b W0 W) => Wt.itoa_any x W (HEN.out.kept hkW).tab)
      have HS : Hid (∀ (W : World) (ac : List UInt8), Wr.At B b (.pointer (some ⟨b, 0, none⟩)) m (bs ++ Lib.byteCells ac) W → ac.length ≤ 10485800 → ∀ W2, Below W.heap.size W W2 → Calls Tryz.prog 45 #[.pointer (some ⟨b, 0, none⟩), .string ⟨(Tx.dec x.toNat).toArray⟩] W2 fun e w' => e = .returned (.tuple #[.int .i64 (⟨(Tx.dec x.toNat).toArray⟩ : ByteArray).size, .nilIface]) ∧ (Wr.At B b (.pointer (some ⟨b, 0, none⟩)) m (bs ++ Lib.byteCells (ac ++ Tx.dec x.toNat)) w' ∧ Wt.Kept B b W w')) := Lib.hid (fun W ac hAt hac W2 hb2 => by
        have hd := Wt.dec_byte x
        have hz := hb2.size
        have hbl := (Wr.At.is hAt).blk
        refine (Wt.writeString B b m _ _ W2 (hAt.keptBelow hb2).is (by rw [List.length_append, Lib.byteCells_length]; show _ + (List.toArray _).size ≤ _; simp; omega) (by omega)).mono ?_
        rintro e w2 ⟨rfl, h2, k2⟩
        rw [Wt.strCells_str, Wt.cells_app] at h2
        exact ⟨rfl, h2, (Wt.Kept.below hb2 (by omega)).trans k2⟩)
      have HN := Lib.hid (fun w2 => hR.next (w1 := w2) (by have := HLL.out; omega) hxk)
      have HAT := Lib.hid hR.at_
      have HKW := Lib.hid hR.kept
      by_cases hk0 : k = 0
      · subst hk0
        have HS2 := Lib.hid (HS.out wr acc HAT.out (by omega))
        clear hR hcell hxk hle hal
        rw [Nat.add_zero] at c
        go_wp2_with fail
        go_region_held3 (fun w' => wr.heap.size ≤ w'.heap.size)
          (first | exact Nat.le_refl _ | exact hkeep)
          (first
            | (go_at_call 101
               refine (HI.out wr.drew HKW.out.drew).mono ?_
               rintro z1 w2 ⟨rfl, hb2⟩
               have hbe : Below wr.heap.size wr w2 := (Below.drew (Below.refl _ _)).trans hb2
               have hkeep : wr.heap.size ≤ w2.heap.size := hb2.size)
            | (go_at_call 45
               refine (HS2.out w2 hbe).mono ?_
               rintro z2 w3 ⟨rfl, h3, k3⟩
               have hkeep : wr.heap.size ≤ w3.heap.size := k3.size))
        go_wp2_with fail
        go_roundw
        case rel => exact ⟨1, _, by first | rfl | go_num | (simp; try omega), HN.out w3 h3 k3⟩
        case measure => simp [intOf]; omega
      · have HB := Lib.hid (Wt.writeByte B b m (bs ++ Lib.byteCells acc) 32 wr HAT.out.is (by rw [List.length_append, Lib.byteCells_length]; omega) (by omega))
        have hk0I : (0 : Int) < (k : Int) := by omega
        clear hR hcell hxk hle
        go_wp2_with fail
        refine HB.out.mono ?_
        rintro e w5 ⟨rfl, h5, k5⟩
        have h5 : Wr.At B b (.pointer (some ⟨b, 0, none⟩)) m (bs ++ Lib.byteCells (acc ++ [32])) w5 := by rw [← Wt.cells_snoc]; exact h5
        have HS2 := Lib.hid (HS.out w5 (acc ++ [32]) h5 (by simp; omega))
        have HK5 := Lib.hid (HKW.out.trans k5)
        have HKK := Lib.hid k5
        clear h5 k5 hal
        go_wp2_with fail
        go_region_held3 (fun w' => w5.heap.size ≤ w'.heap.size)
          (first | exact Nat.le_refl _ | exact hkeep)
          (first
            | (go_at_call 101
               refine (HI.out w5.drew HK5.out.drew).mono ?_
               rintro z1 w2 ⟨rfl, hb2⟩
               have hbe : Below w5.heap.size w5 w2 := (Below.drew (Below.refl _ _)).trans hb2
               have hkeep : w5.heap.size ≤ w2.heap.size := hb2.size)
            | (go_at_call 45
               refine (HS2.out w2 hbe).mono ?_
               rintro z2 w3 ⟨rfl, h3, k3⟩
               have hkeep : w5.heap.size ≤ w3.heap.size := k3.size))
        go_wp2_with fail
        go_roundw
        case rel =>
          refine ⟨k + 1, _, by first | rfl | go_num | (simp; try omega), HN.out w3 ?_ (HKK.out.trans k3)⟩
          rw [if_neg hk0, ← List.append_assoc]
          exact h3
        case measure => simp [intOf]; omega
    · have hkL : k = L := by omega
      have HB := Lib.hid (Wt.writeByte B b m (bs ++ Lib.byteCells acc) 41 wr hR.at_.is (by rw [List.length_append, Lib.byteCells_length]; omega) (by omega))
      have hsay : Hid (acc ++ [41] = [35, 118, 117, 56, 40] ++ (Wt.raws true raw.data.toList ++ [41])) := Lib.hid (by
        rw [← hR.says, List.drop_eq_nil_of_le (by rw [Array.length_toList]; have := HLL.out; show raw.size ≤ k; omega)]
        simp [Wt.raws])
      have HKW := Lib.hid (HKE.out _ hR.kept).2
      clear hR hal hle
      go_wp2_with fail
      refine HB.out.mono ?_
      rintro e w2 ⟨rfl, h2, k2⟩
      go_wp2_with fail
      go_end0
      refine ⟨rfl, ?_, HKW.out.trans k2⟩
      have h3 := Wt.cells_snoc bs acc 41
      rw [hsay.out] at h3
      show Wr.At B b _ m (bs ++ Lib.byteCells ([35, 118, 117, 56, 40] ++ (Wt.raws true raw.data.toList ++ [41]))) w2
      rw [← h3]
      exact h2
end Go.Proofs.YtikmebkfdpbidaaGreatDoor
namespace Go.Proofs.YtikmebkfdpbidaaGreatDoor
open Go.RowKit
set_option linter.unusedVariables false
set_option linter.unusedSimpArgs false

/-- What holds at each round of the row's loop. -/
structure Wt.RowRel (m : Bool) (l : List Tr) (w : World) (k : Nat) (acc : List UInt8) (wr : World) : Prop where
  bel : Below w.heap.size w wr
  le : k ≤ l.length
  says : acc ++ Wt.row m (k == 0) (l.drop k) = Wt.row m true l
  len : acc.length + 16777216 * Tr.sizeL (l.drop k) ≤ 16777216 * Tr.sizeL l
theorem Wt.RowRel.next {m : Bool} {l : List Tr} {w : World} {k : Nat} {acc : List UInt8} {wr w1 : World} (h : Wt.RowRel m l w k acc wr) {t : Tr} (ht : l[k]? = some t) (hg : Tr.good t) (hf : Wt.fit t)
    (k1 : Below w.heap.size w w1) : Wt.RowRel m l w (k + 1) (acc ++ ((if k = 0 then [] else [32]) ++ Wt.tell m t)) w1 := by
  have hd : l.drop k = t :: l.drop (k + 1) := by
    obtain ⟨h2, h3⟩ := List.getElem?_eq_some_iff.1 ht
    rw [List.drop_eq_getElem_cons h2, h3]
  have hk : k < l.length := (List.getElem?_eq_some_iff.1 ht).1
  refine ⟨k1, hk, ?_, ?_⟩
  · rw [← h.says, hd, Wt.row_cons]
    by_cases h0 : k = 0 <;> simp [h0]
  · have h2 := h.len
    rw [hd, Tr.sizeL_cons] at h2
    have h3 := (Wt.small m t hg hf).1
    have : (if k = 0 then ([] : List UInt8) else [32]).length ≤ 1 := by split <;> simp
    simp only [List.length_append]
    omega
theorem Wt.str_size (l : List UInt8) : (Tx.str l).size = l.length := by unfold Tx.str; show (List.toArray _).size = _; simp
set_option maxHeartbeats 4000000 in
set_option maxRecDepth 1000000 in
theorem Wt.row_step (m : Bool) (l : List Tr) (IH : ∀ (k : Nat) (t : Tr), l[k]? = some t → Wt.TSays m t) (S : Nat → Prop) (v : Value) (w : World) (hL : Tr.LIn w S l v) (hgl : Tr.goodL l) (hfl : Wt.fitL l) (hlen : 16777216 * Tr.sizeL l ≤ 140737488355328) :
    Calls Tryz.prog 74 #[v, .bool m] w fun e w' => e = .returned (.string (Tx.str (Wt.row m true l))) ∧ Below w.heap.size w w' := by
  obtain ⟨p10, d10, rfl, hcap10, hmax10⟩ := Tr.Sl.slice hL
  have hlen10 : l.length ≤ 9223372036854775807 := by
    rcases hmax10 with h0 | h0 <;> omega
  have hdata : ∀ (k : Nat) (t : Tr), l[k]? = some t → ∃ (bb off : Nat) (C : Array Value), p10 = some ⟨bb, off, none⟩ ∧ ∀ wr, Below w.heap.size w wr → Tr.In wr S t (.agg C) ∧ Tr.Mem wr bb (off + k * 11) C := by
    intro k t ht
    have hk := (List.getElem?_eq_some_iff.1 ht).1
    obtain ⟨bb, off, e, _, _, _, hblt, hSb, hall⟩ := Tr.Sl.at hL (by omega)
    obtain ⟨Ck, hIk, hMk⟩ := Tr.All.at _ _ _ hall k t ht
    rw [Nat.mul_comm 11 k] at hMk
    refine ⟨bb, off, Ck, e, fun wr hkw => ?_⟩
    exact ⟨Tr.In.below hIk hkw (Nat.le_refl _), hMk.kept (Tr.Kept.all (S := S) hkw (Nat.le_refl _)) hSb hblt⟩
  have HDATA := Lib.hid hdata
  have HIH : Hid (∀ (k : Nat) (t : Tr), l[k]? = some t → Wt.TSays m t ∧ Tr.good t ∧ Wt.fit t ∧ Tr.size t ≤ Tr.sizeL (l.drop k)) := Lib.hid (fun k t ht => by
    refine ⟨IH k t ht, Tr.goodL_at l hgl k t ht, Wt.fitL_at hfl ht, ?_⟩
    have hd : l.drop k = t :: l.drop (k + 1) := by
      obtain ⟨h2, h3⟩ := List.getElem?_eq_some_iff.1 ht
      rw [List.drop_eq_getElem_cons h2, h3]
    rw [hd, Tr.sizeL_cons]
    omega)
  have HGET : Hid (∀ k, k < l.length → ∃ t, l[k]? = some t) := Lib.hid (fun k hk => ⟨_, List.getElem?_eq_getElem hk⟩)
  obtain ⟨L, hL2⟩ : ∃ z, z = l.length := ⟨_, rfl⟩
  rw [← hL2] at HGET hcap10 hlen10 ⊢
  have HLL := Lib.hid hL2
  have H0 : Wt.RowRel m l w 0 [] w := ⟨Below.refl _ _, Nat.zero_le _, rfl, by simp⟩
  obtain ⟨R, hR⟩ : ∃ R, Tx.str (Wt.row m true l) = R := ⟨_, rfl⟩
  rw [hR]
  have HRR := Lib.hid hR
  clear hdata hL hL2 hgl hfl hmax10 IH hR
  go_enter Tryz.func74, Tryz.ntmps74
  go_wp2_with fail
  go_loopw [5, 6] (fun s i wr => ∃ (k : Nat) (acc : List UInt8), i = .int .i64 k ∧ s = .string (Tx.str acc) ∧ Wt.RowRel m l w k acc wr) (fun _ i _ => L - (intOf i).toNat)
  case atStart => exact ⟨0, [], rfl, rfl, H0⟩
  case round =>
    obtain ⟨k, acc, rfl, rfl, hR⟩ := hrel
    clear H0
    have hle := hR.le
    rw [← HLL.out] at hle
    have hal := hR.len
    obtain ⟨A, hA⟩ : ∃ z, Tx.str acc = z := ⟨_, rfl⟩
    have hAs : A.size = acc.length := by rw [← hA, Wt.str_size]
    have HA := Lib.hid hA
    rw [hA]
    clear hA
    by_cases hk : k < L
    · obtain ⟨t, ht⟩ := HGET.out k hk
      obtain ⟨bb, off, C, rfl, hel⟩ := HDATA.out k t ht
      obtain ⟨hS, hgt, hft, hst⟩ := HIH.out k t ht
      have hIk := (hel wr hR.bel).1
      obtain ⟨he, le, ab3, ab4, ab6, ab7, ab9, ab10, nb3, nb4, nb6, nb7, nb9, nb10, cb3, cb4, cb6, cb7, cb9, cb10, eCb, ebt, hbH, hbL⟩ := Tr.In.form2 hIk
      subst eCb
      clear ebt hbH hbL hIk
      have hM := (hel wr hR.bel).2
      have hsm := (Wt.small m t hgt hft).1
      have HREC := Lib.hid (hS S _ wr (hel wr hR.bel).1 hgt hft (by omega))
      unfold Tr.cells at hM HREC
      obtain ⟨e0, e1, e2, e3, e4, e5, e6, e7, e8, e9, e10⟩ := Tr.Mem.cells hM
      have HN := Lib.hid (fun w2 => hR.next (w1 := w2) ht hgt hft)
      have HBW := Lib.hid hR.bel
      obtain ⟨T, hT⟩ : ∃ z, Tx.str (Wt.tell m t) = z := ⟨_, rfl⟩
      have hTs : T.size = (Wt.tell m t).length := by rw [← hT, Wt.str_size]
      rw [hT] at HREC
      have HT := Lib.hid hT
      obtain ⟨n1, hn1⟩ : ∃ z, A.size = z := ⟨_, rfl⟩
      obtain ⟨n2, hn2⟩ : ∃ z, T.size = z := ⟨_, rfl⟩
      have hs1 : (9223372036854775807 < n1 + 1) = False := eq_false (by omega)
      have hs2 : (9223372036854775807 < n1 + n2) = False := eq_false (by omega)
      have hs3 : (9223372036854775807 < n1 + 1 + n2) = False := eq_false (by omega)
      clear hM hel hS hR hT hTs hAs hal hst hsm hgt hft ht
      by_cases hk0 : k = 0
      · subst hk0
        rw [Nat.zero_mul, Nat.add_zero] at e0 e1 e2 e3 e4 e5 e6 e7 e8 e9 e10
        go_wp2_with fail
        refine HREC.out.mono ?_
        rintro e w3 ⟨rfl, hb3⟩
        go_wp2_with fail
        go_roundw
        case rel =>
          refine ⟨1, _, by first | rfl | go_num | (simp; try omega), ?_, HN.out w3 (HBW.out.trans (hb3.mono HBW.out.size))⟩
          rw [← HA.out, ← HT.out, Tx.str_append]
          rfl
        case measure => simp [intOf]; omega
      · have hk0I : (0 : Int) < (k : Int) := by omega
        go_wp2_with fail
        refine HREC.out.mono ?_
        rintro e w3 ⟨rfl, hb3⟩
        go_wp2_with fail
        go_roundw
        case rel =>
          refine ⟨k + 1, _, by first | rfl | go_num | (simp; try omega), ?_, HN.out w3 (HBW.out.trans (hb3.mono HBW.out.size))⟩
          rw [if_neg hk0, ← HA.out, ← HT.out, ← Tx.str_append, ← Tx.str_append]
          first | rfl | (simp [Tx.str]; done) | (simp [Tx.str]; apply ByteArray.ext; simp)
        case measure => simp [intOf]; omega
    · have hkL : k = L := by omega
      have hsay : acc = Wt.row m true l := by
        rw [← hR.says, List.drop_eq_nil_of_le (by have := HLL.out; omega), Wt.row_nil]
        simp
      have HS := Lib.hid hsay
      have HBW := Lib.hid hR.bel
      clear hR hal hle hsay
      go_wp2_with fail
      go_ret
      exact ⟨by rw [← HA.out, ← HRR.out, HS.out]; rfl, HBW.out⟩
set_option maxHeartbeats 4000000 in
set_option maxRecDepth 1000000 in
theorem Wt.tell_vec (m : Bool) (h : Tr.Hd) (l : List Tr) (h9 : h.k = 9) (IH : ∀ u, Tr.size u < Tr.size (.mk h l) → Wt.TSays m u) : Wt.TSays m (.mk h l) := by
  intro S C w hI hg hf hlen
  obtain ⟨hsh, hgl⟩ := Tr.good_mk.1 hg
  obtain ⟨⟨hx, hr⟩, hfl⟩ := Wt.fit_mk.1 hf
  rw [Wt.tell_atom (by omega)]
  rw [Tr.size_mk] at hlen
  rw [Tr.In_mk] at hI
  obtain ⟨v3, v4, v6, v7, v9, v10, e, hH, hL⟩ := hI
  cases e
  obtain ⟨p10, d10, rfl, hcap10, hmax10⟩ := Tr.Sl.slice hL
  obtain ⟨W0, hW0⟩ : ∃ z, w.alloc (.cells (Tr.cells h v3 v4 v6 v7 v9 (.slice p10 l.length d10)) 30) = z := ⟨_, rfl⟩
  have hb0 : Below w.heap.size w W0 := by rw [← hW0]; exact (Below.refl _ _).alloc (Nat.le_refl _) _
  have hq0 : W0.heap[w.heap.size]? = some (.cells (Tr.cells h v3 v4 v6 v7 v9 (.slice p10 l.length d10)) 30 (0, 0)) := by rw [← hW0]; exact heap_alloc_new w _
  have hL0 : Tr.LIn W0 S l (.slice p10 l.length d10) := Tr.LIn.below (l := l) hL hb0 (Nat.le_refl _)
  have KR := Lib.hid (Wt.row_step m l (fun k t ht => IH t (Tr.size_lt (t := .mk h l) ht)) S _ W0 hL0 hgl hfl (by omega))
  have hrs := Wt.row_small m true l (fun k t e => Wt.small m t) hgl hfl
  have dd := Lib.cell_of_heap hq0
  have HB := Lib.hid hb0
  obtain ⟨T, hT⟩ : ∃ z, Tx.str (Wt.row m true l) = z := ⟨_, rfl⟩
  have hTs : T.size = (Wt.row m true l).length := by rw [← hT, Wt.str_size]
  rw [hT] at KR
  have HE : Hid (Tx.str (Wt.atom m h (Wt.row m true l)) = ⟨#[35, 40]⟩ ++ T ++ ⟨#[41]⟩) := Lib.hid (by
    unfold Wt.atom
    simp only [h9]
    rw [← hT]
    simp [Tx.str]
    apply ByteArray.ext
    simp)
  obtain ⟨R, hR⟩ : ∃ R, Tx.str (Wt.atom m h (Wt.row m true l)) = R := ⟨_, rfl⟩
  rw [hR] at HE ⊢
  obtain ⟨n1, hn1⟩ : ∃ z, T.size = z := ⟨_, rfl⟩
  have hs1 : (9223372036854775807 < 2 + n1) = False := eq_false (by omega)
  have hs2 : (9223372036854775807 < 2 + n1 + 1) = False := eq_false (by omega)
  obtain ⟨k, n, s1, t1, b1, s2, t2, b2, x, raw⟩ := h
  simp only at h9
  subst h9
  unfold Tr.cells at dd hW0 ⊢
  have q0 := dd 0
  have q10 := dd 10
  clear dd hH hL hL0 hg hf hlen hgl hfl hsh hR hb0 hq0 hT hTs hrs IH
  generalize l.length = L at *
  go_enter Tryz.func41, Tryz.ntmps41
  go_wp2_with fail
  refine KR.out.mono ?_
  rintro e w1 ⟨rfl, hb1⟩
  go_wp2_with fail
  go_ret
  exact ⟨Wt.ret1 HE.out.symm, HB.out.trans (hb1.mono HB.out.size)⟩
end Go.Proofs.YtikmebkfdpbidaaGreatDoor
namespace Go.Proofs.YtikmebkfdpbidaaGreatDoor
open Go.RowKit
set_option linter.unusedVariables false
set_option linter.unusedSimpArgs false

/-- What holds at each round of the bytes' loop: the box lies in block q. -/
structure Wt.RBytRel (raw : ByteArray) (w : World) (q : Nat) (A : Array Value) (k : Nat) (acc : List UInt8) (wr : World) : Prop where
  box : wr.heap[q]? = some (.cells A 30 (0, 0))
  bel : Below w.heap.size w wr
  le : k ≤ raw.size
  says : acc ++ Wt.raws (k == 0) (raw.data.toList.drop k) = Wt.raws true raw.data.toList
  len : acc.length ≤ 10 * k
theorem Wt.RBytRel.next {raw : ByteArray} {w : World} {q : Nat} {A : Array Value} {k : Nat} {acc : List UInt8} {wr w1 : World} (h : Wt.RBytRel raw w q A k acc wr) (hk : k < raw.size) {x : UInt8} (hx : raw.data.toList[k]? = some x)
    (k1 : Below wr.heap.size wr w1) : Wt.RBytRel raw w q A (k + 1) (acc ++ ((if k = 0 then [] else [32]) ++ Tx.dec x.toNat)) w1 := by
  refine ⟨(k1.block q (Array.getElem?_eq_some_iff.1 h.box).1).trans h.box, h.bel.trans (k1.mono h.bel.size), hk, ?_, ?_⟩
  · rw [← h.says]
    have hd : raw.data.toList.drop k = x :: raw.data.toList.drop (k + 1) := by
      obtain ⟨h2, h3⟩ := List.getElem?_eq_some_iff.1 hx
      rw [List.drop_eq_getElem_cons h2, h3]
    rw [hd, Wt.raws]
    by_cases h0 : k = 0 <;> simp [h0]
  · have := h.len
    have := Wt.dec_byte x
    have : (if k = 0 then ([] : List UInt8) else [32]).length ≤ 1 := by split <;> simp
    simp only [List.length_append]
    omega
set_option maxHeartbeats 4000000 in
set_option maxRecDepth 1000000 in
theorem Wt.tell_bytes (m : Bool) (h : Tr.Hd) (l : List Tr) (h7 : h.k = 7) : Wt.TSays m (.mk h l) := by
  intro S C w hI hg hf hlen
  obtain ⟨⟨hx, hr⟩, hfl⟩ := Wt.fit_mk.1 hf
  rw [Wt.tell_atom (by omega)]
  rw [Tr.In_mk] at hI
  obtain ⟨v3, v4, v6, v7, v9, v10, e, hH, hL⟩ := hI
  cases e
  obtain ⟨a9, c9, hv9⟩ := hH.i9.slice
  have hI9 := hH.i9
  rw [hv9] at hI9
  have hdata : ∀ (k : Nat), k < h.raw.size → ∃ (bb off : Nat) (x : UInt8), a9 = some ⟨bb, off, none⟩ ∧ h.raw.data.toList[k]? = some x ∧ ∀ wr, Below w.heap.size w wr → wr.cell? ⟨bb, off + k, none⟩ = some (.int .u8 x.toNat) := by
    intro k hk
    obtain ⟨bb, off, e, hlt, _, hc⟩ := By.In.at hI9 (by omega)
    have hk2 : k < h.raw.data.size := hk
    refine ⟨bb, off, h.raw.data[k], e, by simp [hk2], fun wr hkw => ?_⟩
    have h1 := hc k hk
    rw [By.byt_data h.raw k hk2] at h1
    rw [hkw.cell (p := ⟨bb, off + k, none⟩) hlt]
    exact h1
  subst hv9
  obtain ⟨W0, hW0⟩ : ∃ z, w.alloc (.cells (Tr.cells h v3 v4 v6 v7 (.slice a9 h.raw.size c9) v10) 30) = z := ⟨_, rfl⟩
  have hb0 : Below w.heap.size w W0 := by rw [← hW0]; exact (Below.refl _ _).alloc (Nat.le_refl _) _
  have hq0 : W0.heap[w.heap.size]? = some (.cells (Tr.cells h v3 v4 v6 v7 (.slice a9 h.raw.size c9) v10) 30 (0, 0)) := by rw [← hW0]; exact heap_alloc_new w _
  have dd := Lib.cell_of_heap hq0
  have H0 : Wt.RBytRel h.raw w w.heap.size (Tr.cells h v3 v4 v6 v7 (.slice a9 h.raw.size c9) v10) 0 [] W0 := ⟨hq0, hb0, Nat.zero_le _, rfl, by simp⟩
  have HDATA := Lib.hid hdata
  have HE : Hid (∀ acc, acc = Wt.raws true h.raw.data.toList → Tx.str (Wt.atom m h (Wt.row m true l)) = ⟨#[35, 118, 117, 56, 40]⟩ ++ Tx.str acc ++ ⟨#[41]⟩) := Lib.hid (fun acc e => by
    unfold Wt.atom
    simp only [h7]
    rw [← e]
    simp [Tx.str]
    apply ByteArray.ext
    simp)
  obtain ⟨R, hR⟩ : ∃ R, Tx.str (Wt.atom m h (Wt.row m true l)) = R := ⟨_, rfl⟩
  rw [hR] at HE ⊢
  obtain ⟨k, n, s1, t1, b1, s2, t2, b2, x, raw⟩ := h
  simp only at h7 hr HDATA HE H0
  subst h7
  unfold Tr.cells at dd hW0 H0 ⊢
  have q0 := dd 0
  have q9 := dd 9
  obtain ⟨L, hL⟩ : ∃ z, z = raw.size := ⟨_, rfl⟩
  simp only at hW0 H0 q9 q0 ⊢
  rw [← hL] at hW0 HDATA hr H0 q9 ⊢
  have HLL := Lib.hid hL
  clear dd hdata hH hL hg hf hlen hfl hb0 hI9 hq0 hR
  go_enter Tryz.func41, Tryz.ntmps41
  go_wp2_with fail
  go_loopw [7, 8] (fun s i wr => ∃ (k : Nat) (acc : List UInt8), i = .int .i64 k ∧ s = .string (Tx.str acc) ∧ Wt.RBytRel raw w w.heap.size #[.int .i64 7, .int .i64 n, .bool s1, v3, v4, .bool s2, v6, v7, .string x, .slice a9 L c9, v10] k acc wr) (fun _ i _ => L - (intOf i).toNat)
  case atStart => exact ⟨0, [], rfl, rfl, H0⟩
  case round =>
    obtain ⟨k, acc, rfl, rfl, hR⟩ := hrel
    clear H0 q9 q0
    have hle := hR.le
    rw [← HLL.out] at hle
    have hal := hR.len
    have q9 := Lib.cell_of_heap hR.box 9
    obtain ⟨A, hA⟩ : ∃ z, Tx.str acc = z := ⟨_, rfl⟩
    have hAs : A.size = acc.length := by rw [← hA, Wt.str_size]
    have HA := Lib.hid hA
    rw [hA]
    clear hA
    obtain ⟨n1, hn1⟩ : ∃ z, A.size = z := ⟨_, rfl⟩
    by_cases hk : k < L
    · obtain ⟨bb, off, x2, rfl, hxk, hcell⟩ := HDATA.out k hk
      have c := hcell wr hR.bel
      have hxb := x2.toNat_lt
      have hwx : IntKind.i64.wrap (x2.toNat : Int) = x2.toNat := by rw [IntKind.wrap_i64]; omega
      have HI := Lib.hid (Wt.Decimal_any x2.toNat wr (by omega))
      have hdl := Wt.dec_byte x2
      have HN := Lib.hid (fun w2 => hR.next (w1 := w2) (by have := HLL.out; omega) hxk)
      have HBW := Lib.hid hR.bel
      obtain ⟨T, hT⟩ : ∃ z, (⟨(Tx.dec x2.toNat).toArray⟩ : ByteArray) = z := ⟨_, rfl⟩
      have hTs : T.size = (Tx.dec x2.toNat).length := by rw [← hT]; exact Wt.str_size _
      rw [hT] at HI
      have HT := Lib.hid hT
      obtain ⟨n2, hn2⟩ : ∃ z, T.size = z := ⟨_, rfl⟩
      have hs1 : (9223372036854775807 < n1 + 1) = False := eq_false (by omega)
      have hs2 : (9223372036854775807 < n1 + n2) = False := eq_false (by omega)
      have hs3 : (9223372036854775807 < n1 + 1 + n2) = False := eq_false (by omega)
      clear hR hcell hxk hle hal hT hTs hdl hAs
      by_cases hk0 : k = 0
      · subst hk0
        rw [Nat.add_zero] at c
        go_wp2_with fail
        refine HI.out.mono ?_
        rintro e w3 ⟨rfl, hb3⟩
        go_wp2_with fail
        go_roundw
        case rel =>
          refine ⟨1, _, by first | rfl | go_num | (simp; try omega), ?_, HN.out w3 hb3⟩
          rw [← HA.out, ← HT.out]
          first | rfl | (simp [Tx.str]; done) | (simp [Tx.str]; apply ByteArray.ext; simp)
        case measure => simp [intOf]; omega
      · have hk0I : (0 : Int) < (k : Int) := by omega
        go_wp2_with fail
        refine HI.out.mono ?_
        rintro e w3 ⟨rfl, hb3⟩
        go_wp2_with fail
        go_roundw
        case rel =>
          refine ⟨k + 1, _, by first | rfl | go_num | (simp; try omega), ?_, HN.out w3 hb3⟩
          rw [if_neg hk0, ← HA.out, ← HT.out]
          first | rfl | (simp [Tx.str]; done) | (simp [Tx.str]; apply ByteArray.ext; simp)
        case measure => simp [intOf]; omega
    · have hkL : k = L := by omega
      have hsay : acc = Wt.raws true raw.data.toList := by
        rw [← hR.says, List.drop_eq_nil_of_le (by rw [Array.length_toList]; have := HLL.out; show raw.size ≤ k; omega)]
        simp [Wt.raws]
      have HS := Lib.hid (HE.out acc hsay)
      have hs1 : (9223372036854775807 < 5 + n1) = False := eq_false (by omega)
      have hs2 : (9223372036854775807 < 5 + n1 + 1) = False := eq_false (by omega)
      have HBW := Lib.hid hR.bel
      clear hR hal hle hsay hAs
      go_wp2_with fail
      go_ret
      exact ⟨Wt.ret1 (by rw [HS.out, HA.out]), HBW.out⟩
end Go.Proofs.YtikmebkfdpbidaaGreatDoor
