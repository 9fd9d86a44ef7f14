/-
  The walks of package chars' functions of one character: pair, Up, Down, Letter, Digit, Blank compute the plain functions. No conditions but that the character is an int32. The walks of package chars' functions of one character, second text: Up, Down, Letter compute the plain functions. The only condition: the character is an int32. datum.First and datum.Rest of any character.
-/
import Derived.Test.YtdjllmogejkimaaGreatDoorRows
import Derived.WalkKit
import Derived.WalkSpells
import Derived.WalkLawsBesides
import Derived.Handy
import Derived.Lib.Hide
import Derived.Test.YtdjllmogejkimaaGreatDoorQh
import Derived.Test.YtdjllmogejkimaaGreatDoorQj
import Derived.Test.YtdjllmogejkimaaGreatDoorQi
set_option linter.unusedVariables false
set_option linter.unusedSimpArgs false
namespace Go.Proofs.YtdjllmogejkimaaGreatDoor
open Go.RowKit

theorem Ch.ret3 {a b c d : Int} {x y : Bool} (p : Int × Int × Bool) (hp : p = (c, d, y)) (h1 : a = c) (h2 : b = d) (h3 : x = y) :
    Ending.returned (.tuple #[.int .i32 a, .int .i32 b, .bool x]) = .returned (.tuple #[.int .i32 p.1, .int .i32 p.2.1, .bool p.2.2]) := by
  subst hp h1 h2 h3; rfl

set_option maxHeartbeats 4000000 in
set_option maxRecDepth 100000 in
theorem Ch.pair_any (r : Int) (w : World) :
    Calls Tryz.prog 82 #[.int .i32 r] w fun e w' => e = .returned (.tuple #[.int .i32 (Ch.pairZ r).1, .int .i32 (Ch.pairZ r).2.1, .bool (Ch.pairZ r).2.2]) ∧ w = w' := by
  go_enter Tryz.func82, Tryz.ntmps82
  go_wp2
  all_goals
    go_ret3
    refine ⟨?_, rfl⟩
    simp only [bne_iff_ne, bne_eq_false_iff_eq, ne_eq] at *
    first
      | exact Ch.ret3 _ (Ch.pairZ_1 (by unfold Ch.p1; omega)) rfl rfl rfl
      | exact Ch.ret3 _ (Ch.pairZ_2 (by unfold Ch.p1; omega) (by unfold Ch.p2; omega)) rfl rfl rfl
      | exact Ch.ret3 _ (Ch.pairZ_3 (by unfold Ch.p1; omega) (by unfold Ch.p2; omega) (by unfold Ch.p3; omega)) rfl rfl rfl
      | exact Ch.ret3 _ (Ch.pairZ_4 (by unfold Ch.p1; omega) (by unfold Ch.p2; omega) (by unfold Ch.p3; omega) (by unfold Ch.p4; omega)) rfl rfl rfl
      | exact Ch.ret3 _ (Ch.pairZ_5 (by unfold Ch.p1; omega) (by unfold Ch.p2; omega) (by unfold Ch.p3; omega) (by unfold Ch.p4; omega) (by unfold Ch.p5; omega)) (Ch.or_1 _ (by omega) (by omega)) (Ch.andNot_1 _ (by omega) (by omega)) rfl
      | exact Ch.ret3 _ (Ch.pairZ_6 (by unfold Ch.p1; omega) (by unfold Ch.p2; omega) (by unfold Ch.p3; omega) (by unfold Ch.p4; omega) (by unfold Ch.p5; omega) (by unfold Ch.p6; omega)) (by rw [Ch.and_1 _ (by omega) (by omega)]; unfold wrap32; omega) (by rw [Ch.and_1 _ (by omega) (by omega)]; unfold wrap32; omega) rfl
      | exact Ch.ret3 _ (Ch.pairZ_0 (by unfold Ch.p1; omega) (by unfold Ch.p2; omega) (by unfold Ch.p3; omega) (by unfold Ch.p4; omega) (by unfold Ch.p5; omega) (by unfold Ch.p6; omega)) rfl rfl rfl


set_option maxHeartbeats 1000000 in
theorem Ch.up_any (r : Int) (w : World) :
    Calls Tryz.prog 46 #[.int .i32 r] w fun e w' => e = .returned (.int .i32 (Ch.upZ r)) ∧ w = w' := by
  go_enter Tryz.func46, Tryz.ntmps46
  go_wp2_with (go_at_call 82; refine (Ch.pair_any _ _).mono ?_; rintro e w' ⟨rfl, rfl⟩)
  all_goals
    go_ret
    refine ⟨?_, rfl⟩
    simp_all [Ch.upZ]

set_option maxHeartbeats 1000000 in
theorem Ch.down_any (r : Int) (w : World) :
    Calls Tryz.prog 45 #[.int .i32 r] w fun e w' => e = .returned (.int .i32 (Ch.downZ r)) ∧ w = w' := by
  go_enter Tryz.func45, Tryz.ntmps45
  go_wp2_with (go_at_call 82; refine (Ch.pair_any _ _).mono ?_; rintro e w' ⟨rfl, rfl⟩)
  all_goals
    go_ret
    refine ⟨?_, rfl⟩
    simp_all [Ch.downZ]

set_option maxHeartbeats 1000000 in
theorem Ch.letter_any (r : Int) (w : World) :
    Calls Tryz.prog 171 #[.int .i32 r] w fun e w' => e = .returned (.bool (Ch.letterB r)) ∧ w = w' := by
  go_enter Tryz.func171, Tryz.ntmps171
  go_wp2_with (go_at_call 82; refine (Ch.pair_any _ _).mono ?_; rintro e w' ⟨rfl, rfl⟩)
  all_goals
    go_ret
    refine ⟨?_, rfl⟩
    simp_all [Ch.letterB, Ch.oddLetter]


def Wt.inA (r : Int) : Bool := decide (r = 33) || decide (r = 36) || decide (r = 37) || decide (r = 38) || decide (r = 42) || decide (r = 47) || decide (r = 58) || decide (r = 60) || decide (r = 61) || decide (r = 62) || decide (r = 63) || decide (r = 94) || decide (r = 95) || decide (r = 126)
def Wt.inB (r : Int) : Bool := decide (r = 43) || decide (r = 45) || decide (r = 46) || decide (r = 64)
set_option maxRecDepth 100000 in
theorem Wt.tabA : ∀ n : Fin 128, decide (0 ≤ Lib.indexByte Wt.cA.data.toList ((n.val : Int).toNat.toUInt8)) = Wt.inA (n.val : Int) := by decide +kernel
set_option maxRecDepth 100000 in
theorem Wt.tabB : ∀ n : Fin 128, decide (0 ≤ Lib.indexByte Wt.cB.data.toList ((n.val : Int).toNat.toUInt8)) = Wt.inB (n.val : Int) := by decide +kernel
set_option maxRecDepth 100000 in
theorem Wt.asc : (∀ i (h : i < Wt.cA.size), (Wt.cA[i]'h).toNat < 128) ∧ (∀ i (h : i < Wt.cB.size), (Wt.cB[i]'h).toNat < 128) := by decide
theorem Wt.contains (s : ByteArray) (f : Int → Bool) (hs : (s = Wt.cA ∧ f = Wt.inA) ∨ (s = Wt.cB ∧ f = Wt.inB)) (r : Int) (h : Ru.okR r) (w : World) :
    Calls Tryz.prog 172 #[.string s, .int .i32 r] w fun e w' => e = .returned (.bool (f r)) ∧ Below w.heap.size w w' := by
  by_cases h1 : r < 128
  · have h0 : 0 ≤ r := by unfold Ru.okR at h; omega
    obtain ⟨n, rfl⟩ := Int.eq_ofNat_of_zero_le h0
    refine (Tryz.strings_ContainsRune_ascii s n w h0 h1).mono ?_
    rintro e w' ⟨rfl, rfl⟩
    refine ⟨?_, Below.refl _ _⟩
    rcases hs with ⟨rfl, rfl⟩ | ⟨rfl, rfl⟩
    · have := Wt.tabA ⟨n, by omega⟩
      rw [← this]
    · have := Wt.tabB ⟨n, by omega⟩
      rw [← this]
  · have KI : Calls Tryz.prog 175 #[.string s, .int .i32 r] w fun e w' => e = .returned (.int .i64 (-1)) ∧ Below w.heap.size w w' := by
      by_cases h2 : r = 65533
      · subst h2
        refine Wt.indexRune_bad s ?_ w
        rcases hs with ⟨rfl, _⟩ | ⟨rfl, _⟩
        · exact Wt.asc.1
        · exact Wt.asc.2
      · exact Wt.indexRune_hi s (by rcases hs with ⟨h3, _⟩ | ⟨h3, _⟩; exact .inl h3; exact .inr h3) r h (by omega) h2 w
    have hf : f r = false := by
      rcases hs with ⟨_, rfl⟩ | ⟨_, rfl⟩
      · simp [Wt.inA]; omega
      · simp [Wt.inB]; omega
    clear hs
    go_enter Tryz.func172, Tryz.ntmps172
    go_wp2_with fail
    refine KI.mono ?_
    rintro e w1 ⟨rfl, hb⟩
    go_wp2_with fail
    go_ret
    exact ⟨by rw [hf]; rfl, hb⟩
set_option maxHeartbeats 1000000 in
theorem Wt.First_any (r : Int) (h : Ru.okR r) (w : World) :
    Calls Tryz.prog 165 #[.int .i32 r] w fun e w' => e = .returned (.bool (Wt.firstB r)) ∧ Below w.heap.size w w' := by
  have KL := fun w' => Ch.letter_any r w'
  have KC := fun w' => Wt.contains Wt.cA Wt.inA (.inl ⟨rfl, rfl⟩) r h w'
  have KB := fun w' => Wt.blank_any r w'
  have hd : Wt.firstB r = (Ch.letterB r || Wt.inA r || (decide (127 < r) && !Ch.blankB r)) := rfl
  rw [hd]
  obtain ⟨x, hx⟩ : ∃ z, Ch.letterB r = z := ⟨_, rfl⟩
  obtain ⟨y, hy⟩ : ∃ z, Wt.inA r = z := ⟨_, rfl⟩
  obtain ⟨z, hz⟩ : ∃ z, Ch.blankB r = z := ⟨_, rfl⟩
  rw [hx] at KL ⊢
  rw [hy] at KC ⊢
  rw [hz] at KB ⊢
  clear hx hy hz hd h
  unfold Wt.cA at KC
  cases x
  all_goals cases y
  all_goals cases z
  all_goals
    go_enter Tryz.func165, Tryz.ntmps165
    go_wp2_with (first
      | (go_at_call 171; refine (KL _).mono ?_; rintro e w' ⟨rfl, rfl⟩)
      | (go_at_call 172; refine (KC _).mono ?_; rintro e w1 ⟨rfl, hb⟩)
      | (go_at_call 162; refine (KB _).mono ?_; rintro e w' ⟨rfl, rfl⟩))
  all_goals
    go_ret
    first
      | (refine ⟨Wt.retB (a := true) ?_, ?_⟩
         · simp [*]
         · first | exact hb | exact Below.refl _ _)
      | (refine ⟨Wt.retB (a := false) ?_, ?_⟩
         · first | rfl | (simp; done) | (simp; omega)
         · first | exact hb | exact Below.refl _ _)
set_option maxHeartbeats 1000000 in
theorem Wt.Rest_any (r : Int) (h : Ru.okR r) (w : World) :
    Calls Tryz.prog 166 #[.int .i32 r] w fun e w' => e = .returned (.bool (Wt.restB r)) ∧ Below w.heap.size w w' := by
  have KF := fun w' => Wt.First_any r h w'
  have KC := fun w' => Wt.contains Wt.cB Wt.inB (.inr ⟨rfl, rfl⟩) r h w'
  have hd : Wt.restB r = (Wt.firstB r || (decide (48 ≤ r) && decide (r ≤ 57)) || Wt.inB r) := rfl
  rw [hd]
  obtain ⟨x, hx⟩ : ∃ z, Wt.firstB r = z := ⟨_, rfl⟩
  obtain ⟨y, hy⟩ : ∃ z, Wt.inB r = z := ⟨_, rfl⟩
  rw [hx] at KF ⊢
  rw [hy] at KC ⊢
  clear hx hy hd h
  unfold Wt.cB at KC
  have h48 : r < 48 ∨ (48 ≤ r ∧ r ≤ 57) ∨ 57 < r := by omega
  rcases h48 with h48 | ⟨h48, h57⟩ | h57
  all_goals cases x
  all_goals cases y
  all_goals
    go_enter Tryz.func166, Tryz.ntmps166
    go_wp2_with (first
      | (go_at_call 165; refine (KF _).mono ?_; rintro e w1 ⟨rfl, hb⟩)
      | (go_at_call 172; refine (KC _).mono ?_; rintro e w2 ⟨rfl, hb2⟩))
  all_goals
    go_ret
    first
      | (refine ⟨Wt.retB (a := decide (r ≤ 57)) ?_, ?_⟩
         · simp [*]
         · first | exact hb.trans (hb2.mono hb.size) | exact hb)
      | (refine ⟨Wt.retB (a := true) ?_, ?_⟩
         · first | rfl | (simp [*]; done) | (simp [*]; omega)
         · first | exact hb.trans (hb2.mono hb.size) | exact hb)
      | (refine ⟨Wt.retB (a := false) ?_, ?_⟩
         · first | rfl | (simp [*]; done) | (simp; omega) | (simp [*]; omega)
         · first | exact hb.trans (hb2.mono hb.size) | exact hb)

theorem Wt.str_ne {x : ByteArray} (hn : ¬ x.toList = []) : (x.toList = []) = False ∧ x.toList.isEmpty = false := ⟨by simp [hn], by simpa using hn⟩
/-- What holds at each round of symbol's loop. -/
structure Wt.SymRel (B b it : Nat) (bs : List Value) (s : ByteArray) (R : List UInt8) (F : Bool) (w : World) (pos : Nat) (f : Bool) (acc : List UInt8) (wr : World) : Prop where
  at_ : Wr.Is B b true (bs ++ Lib.byteCells acc) wr
  used : 0 < pos ∨ f = false → Wr.At B b (.pointer (some ⟨b, 0, none⟩)) true (bs ++ Lib.byteCells acc) wr
  fst : f = true → F = true
  it_ : wr.heap[it]? = some (.stringIter s pos)
  kept : Wt.Kept B b w wr
  says : acc ++ Wt.syms f (Ru.runes (s.data.toList.drop pos)) = R
  len : acc.length ≤ 2 + 9 * pos
  lo : B ≤ b ∧ b < w.heap.size ∧ w.heap.size ≤ it
/-- A character more. -/
theorem Wt.SymRel.next {B b it : Nat} {bs : List Value} {s : ByteArray} {R : List UInt8} {F : Bool} {w : World} {pos : Nat} {f : Bool} {acc : List UInt8} {wr w1 : World} (h : Wt.SymRel B b it bs s R F w pos f acc wr) (hp : pos < s.size) {u : List UInt8}
    (h1 : Wr.At B b (.pointer (some ⟨b, 0, none⟩)) true (bs ++ Lib.byteCells acc ++ Lib.byteCells u) w1) (k1 : Wt.Kept B b (wr.iterAt it s (pos + (Utf8.decode s pos).2)) w1) (hu : Wt.symU f ((Utf8.decode s pos).1 : Int) = u) :
    Wt.SymRel B b it bs s R F w (pos + (Utf8.decode s pos).2) false (acc ++ u) w1 := by
  have hwd := Lib.decode_width_pos s pos hp
  have hlt : it < wr.heap.size := (Array.getElem?_eq_some_iff.1 h.it_).1
  have hb := h.lo
  rw [Wt.cells_app] at h1
  refine ⟨h1.is, fun _ => h1, fun e => (by cases e), k1.iter (Lib.iterAt_heap wr it s pos _ h.it_) (by omega), (h.kept.iterAt (by omega) hb.2.2 s _).trans k1, ?_, ?_, hb⟩
  · rw [← h.says, Wt.runes_at s pos hp, Wt.syms, hu]
    simp
  · have := Wt.symU_len (f := f) (Wt.decode_ok s pos hp)
    rw [hu] at this
    have := h.len
    rw [List.length_append]
    omega
theorem Wr.Is.iterAt {B b : Nat} {m : Bool} {bs : List Value} {w : World} (h : Wr.Is B b m bs w) {k : Nat} {s : ByteArray} {pos : Nat} (hk : w.heap[k]? = some (.stringIter s pos)) (pos' : Nat) : Wr.Is B b m bs (w.iterAt k s pos') := h.imp (·.iterAt hk pos') (·.iterAt hk pos')
set_option maxHeartbeats 4000000 in
set_option maxRecDepth 1000000 in
theorem Wt.symbol_any (B b : Nat) (m : Bool) (bs : List Value) (s : ByteArray) (w : World) (h : Wr.Is B b m bs w) (hd : Wt.Bits w) (hT : 5 < B) (hs : s.size ≤ 1048576) (hlen : bs.length + 16777216 ≤ 140737488355328) :
    Calls Tryz.prog 148 #[.pointer (some ⟨b, 0, none⟩), .string s] w fun e w' => e = .returned (.tuple #[]) ∧ (Wr.At B b (.pointer (some ⟨b, 0, none⟩)) m (bs ++ Lib.byteCells (if m = true then Wt.sym s.data.toList else s.data.toList)) w' ∧ Wt.Kept B b w w') := by
  have hm := h.marked
  obtain ⟨hBb, hblt⟩ := h.blk
  have KW := Lib.hid (Wt.writeString B b m bs s w h (by omega) (by omega))
  have KN := Lib.hid (Wt.writeString B b m bs ⟨#[124, 124]⟩ w h (by show _ + 2 ≤ _; omega) (by omega))
  cases m
  · go_enter Tryz.func148, Tryz.ntmps148
    go_wp2_with (go_at_call 43; refine KW.out.mono ?_)
    rintro e w1 ⟨rfl, h1, k1⟩
    go_wp2
    refine bodyPost_ret (results_none rfl _ _ _) rfl ?_
    rw [Wt.strCells] at h1
    exact ⟨rfl, h1, k1⟩
  · by_cases hone : s = ⟨#[43]⟩ ∨ s = ⟨#[45]⟩ ∨ s = ⟨#[46, 46, 46]⟩
    · have hsym : Wt.sym s.data.toList = s.data.toList := by
        rcases hone with rfl | rfl | rfl <;> rfl
      have HS := Lib.hid hsym
      clear hsym
      rcases hone with rfl | rfl | rfl
      all_goals
        go_enter Tryz.func148, Tryz.ntmps148
        go_wp2_with (go_at_call 43; refine KW.out.mono ?_; rintro e w1 ⟨rfl, h1, k1⟩)
        refine bodyPost_ret (results_none rfl _ _ _) rfl ?_
        rw [Wt.strCells] at h1
        refine ⟨rfl, ?_, k1⟩
        first | rw [if_pos rfl, HS.out] | rw [HS.out]
        exact h1
    · have hby : ∀ l : List UInt8, s.toList = l → s = ⟨l.toArray⟩ := fun l e => by
        rw [ByteArray.toList_eq] at e
        exact ByteArray.ext (by have := congrArg List.toArray e; simpa using this)
      have n43 : (s.toList == [43]) = false := beq_eq_false_iff_ne.2 (fun e => hone (.inl (hby _ e)))
      have n45 : (s.toList == [45]) = false := beq_eq_false_iff_ne.2 (fun e => hone (.inr (.inl (hby _ e))))
      have n46 : (s.toList == [46, 46, 46]) = false := beq_eq_false_iff_ne.2 (fun e => hone (.inr (.inr (hby _ e))))
      by_cases h0 : s = ⟨#[]⟩
      · subst h0
        go_enter Tryz.func148, Tryz.ntmps148
        go_wp2_with (go_at_call 43; refine KN.out.mono ?_)
        rintro e w1 ⟨rfl, h1, k1⟩
        go_wp2
        refine bodyPost_ret (results_none rfl _ _ _) rfl ?_
        exact ⟨rfl, h1, k1⟩
      · obtain ⟨n0, n1⟩ := Wt.str_ne (x := s) (fun e => h0 (hby _ e))
        clear hby
        -- the loop, from whatever stands ahead of it
        have hl0 : s.data.toList ≠ [] := fun e => h0 (ByteArray.ext (by have := congrArg List.toArray e; simpa using this))
        have hsym : Wt.sym s.data.toList = Wt.symL s.data.toList := by
          unfold Wt.sym
          rw [if_neg (by
            rintro (e | e | e)
            · exact hone (.inl (ByteArray.ext (by have := congrArg List.toArray e; simpa using this)))
            · exact hone (.inr (.inl (ByteArray.ext (by have := congrArg List.toArray e; simpa using this))))
            · exact hone (.inr (.inr (ByteArray.ext (by have := congrArg List.toArray e; simpa using this))))), if_neg hl0]
        have KA := Lib.hid (Wt.writeString B b true bs ⟨#[45, 62]⟩ w h (by show _ + 2 ≤ _; omega) (by omega))
        have KC := fun w' => Tryz.strings_CutPrefix s ⟨#[45, 62]⟩ w'
        have harrow : (∃ T : List UInt8, Lib.trimPrefix s.data.toList [45, 62] = T ∧ T.length ≤ s.size ∧ Lib.hasPrefix s.data.toList [45, 62] = true ∧ Wt.symL s.data.toList = [45, 62] ++ Wt.syms false (Ru.runes T)) ∨ (Lib.trimPrefix s.data.toList [45, 62] = s.data.toList ∧ Lib.hasPrefix s.data.toList [45, 62] = false ∧ Wt.symL s.data.toList = Wt.syms true (Ru.runes s.data.toList)) := by
          have hlen2 : s.data.toList.length = s.size := by simp
          rw [← hlen2]
          generalize s.data.toList = l
          unfold Wt.symL
          split
          · rename_i t
            refine .inl ⟨t, ?_, ?_, ?_, rfl⟩
            · simp [Lib.trimPrefix, Lib.hasPrefix]
            · simp; omega
            · simp [Lib.hasPrefix]
          · rename_i hn
            have hp : Lib.hasPrefix l [45, 62] = false := by
              unfold Lib.hasPrefix
              match l, hn with
              | [], _ => rfl
              | [x], _ => simp [List.isPrefixOf]
              | x :: y :: t, hn =>
                simp [List.isPrefixOf]
                rintro rfl rfl
                exact hn t rfl
            exact .inr ⟨by simp [Lib.trimPrefix, hp], hp, rfl⟩
        obtain ⟨R, hR⟩ : ∃ z, Wt.symL s.data.toList = z := ⟨_, rfl⟩
        rw [hR] at harrow hsym
        have hRlen : R.length ≤ 9 * s.size + 2 := by
          have := Wt.symL_len s.data.toList
          have h3 : s.data.toList.length = s.size := by simp
          rw [hR] at this
          omega
        have HSYM := Lib.hid hsym
        have HD := Lib.hid (fun w' (hk : Wt.Kept B b w w') => hd.kept hT hk)
        have HIS := Lib.hid h
        have K0 : Wt.Kept B b w w := Wt.Kept.refl _ _ _
        have HRL := Lib.hid hRlen
        clear hsym hl0 hone h0 hR hd h KW KN hRlen
        have harrow2 : ∃ (X : ByteArray) (F : Bool), X.size ≤ s.size ∧ (F = true → X = s) ∧ (∀ w', Calls Tryz.prog 164 #[.string s, .string ⟨#[45, 62]⟩] w' fun e w'' => e = .returned (.tuple #[.string X, .bool (!F)]) ∧ w'' = w') ∧ (if F = true then [] else [45, 62]) ++ Wt.syms F (Ru.runes X.data.toList) = R := by
          rcases harrow with ⟨T, hT1, hT2, hT3, hT4⟩ | ⟨hT1, hT2, hT4⟩
          · refine ⟨⟨T.toArray⟩, false, (by show (List.toArray T).size ≤ _; simpa using hT2), (fun e => by cases e), fun w' => ?_, hT4.symm⟩
            have := KC w'
            rw [show (⟨#[45, 62]⟩ : ByteArray).data.toList = [45, 62] from rfl, hT1, hT3] at this
            exact this
          · refine ⟨s, true, Nat.le_refl _, fun _ => rfl, fun w' => ?_, hT4.symm⟩
            have := KC w'
            rw [show (⟨#[45, 62]⟩ : ByteArray).data.toList = [45, 62] from rfl, hT1, hT2] at this
            exact this
        obtain ⟨X, F, hXs, hXe, KX, hXR⟩ := harrow2
        have hXs2 : X.size ≤ 1048576 := by omega
        have hs0 : 0 < s.size := by
          rcases Nat.eq_zero_or_pos s.size with h | h
          · rw [ByteArray.toList_eq] at n0
            have h5 : s.data.toList.length = 0 := by rw [Array.length_toList]; exact h
            exact absurd (List.length_eq_zero_iff.1 h5) (by rw [n0]; exact fun e => e)
          · exact h
        have HEND : Hid (∀ (pos : Nat) (f : Bool) (acc : List UInt8) (it : Nat) (wr : World), Wt.SymRel B b it bs X R F w pos f acc wr → ¬ pos < X.size → Wr.At B b (.pointer (some ⟨b, 0, none⟩)) true (bs ++ Lib.byteCells R) wr ∧ Wt.Kept B b w wr) := Lib.hid (fun pos f acc it wr hR hp => by
          have hsay := hR.says
          rw [Wt.runes_end X pos hp] at hsay
          have hacc : acc = R := by cases f <;> simpa [Wt.syms] using hsay
          rw [← hacc]
          refine ⟨hR.used ?_, hR.kept⟩
          cases f with
          | false => exact .inr rfl
          | true =>
            have := hXe (hR.fst rfl)
            rw [this] at hp
            exact .inl (by omega))
        have HX0 : Hid (∀ w1, Wr.Is B b true (bs ++ Lib.byteCells (if F = true then [] else [45, 62])) w1 → (F = false → Wr.At B b (.pointer (some ⟨b, 0, none⟩)) true (bs ++ Lib.byteCells [45, 62]) w1) → Wt.Kept B b w w1 → Wt.SymRel B b w1.heap.size bs X R F w 0 F (if F = true then [] else [45, 62]) (w1.alloc (.stringIter X 0))) := Lib.hid (fun w1 h1 h2 k1 => by
          have hz := k1.size
          refine ⟨h1.alloc _, fun e => ?_, fun e => e, heap_alloc_new w1 _, k1.alloc (by omega) _, by simpa using hXR, by split <;> simp, hBb, hblt, hz⟩
          have hF : F = false := by rcases e with e | e; exact absurd e (by omega); exact e
          subst hF
          exact (h2 rfl).alloc _)
        have HXE := Lib.hid hXe
        clear harrow KC hXR hXe hXs n0
        cases F
        all_goals
          go_enter Tryz.func148, Tryz.ntmps148
          go_wp2_with (first
            | (go_at_call 164; refine (KX _).mono ?_; rintro e w' ⟨rfl, hw⟩; have hw2 := hw.symm; subst hw2; clear hw)
            | (go_at_call 43; refine KA.out.mono ?_; rintro e w1 ⟨rfl, h1, k1⟩))
        · have H0 := HX0.out w1 h1.is (fun _ => h1) k1
          have hz1 := k1.size
          clear h1
          go_loopw [4] (fun v wr => ∃ (pos : Nat) (f : Bool) (acc : List UInt8), v = .bool f ∧ Wt.SymRel B b w1.heap.size bs X R false w pos f acc wr) (fun _ wr => X.size - wr.iterPos w1.heap.size)
          case atStart => exact ⟨0, false, _, rfl, H0⟩
          case round =>
            obtain ⟨pos, f, acc, rfl, hR⟩ := hrel
            have hit := hR.it_
            have hsz : w1.heap.size < wr.heap.size := (Array.getElem?_eq_some_iff.1 hit).1
            clear H0 HX0 hm
            by_cases hp : pos < X.size
            · have hwd := Lib.decode_width_pos X pos hp
              have hok := Wt.decode_ok X pos hp
              have HN := Lib.hid (fun u w2 => hR.next (u := u) (w1 := w2) hp)
              have hIs := hR.at_.iterAt hit (pos + (Utf8.decode X pos).2)
              have hit2 := Lib.iterAt_heap wr w1.heap.size X pos (pos + (Utf8.decode X pos).2) hit
              have hnx : ∀ ty, (Instr.next (.pointer (some ⟨w1.heap.size, 0, none⟩)) true ty).run Tryz.prog wr = _ := fun ty => Lib.run_next_any_at wr w1.heap.size X pos ty hit hp
              have hkW := (hR.kept.iterAt (by omega) hz1 X (pos + (Utf8.decode X pos).2))
              have hal := hR.len
              obtain ⟨W, hW⟩ : ∃ z, wr.iterAt w1.heap.size X (pos + (Utf8.decode X pos).2) = z := ⟨_, rfl⟩
              obtain ⟨r, hr⟩ : ∃ z, (Utf8.decode X pos).1 = z := ⟨_, rfl⟩
              obtain ⟨n, hn⟩ : ∃ z, (Utf8.decode X pos).2 = z := ⟨_, rfl⟩
              rw [hW] at HN hIs hit2 hnx hkW
              rw [hr] at HN hok hnx
              rw [hn] at HN hwd hit2
              have hrb : r ≤ 1114111 := by unfold Ru.okR at hok; omega
              have hbW := HD.out W hkW
              have hms : X.size - wr.iterPos w1.heap.size = X.size - pos := by simp [World.iterPos, hit]
              have HM := Lib.hid (fun (w2 : World) (k2 : Wt.Kept B b W w2) => (show X.size - w2.iterPos w1.heap.size < X.size - wr.iterPos w1.heap.size by
                rw [hms]
                have := k2.iter hit2 (by omega)
                simp only [World.iterPos, this]
                omega))
              have hBW : B ≤ W.heap.size := Nat.le_trans (by omega) hkW.size
              have hal2 : (bs ++ Lib.byteCells acc).length + 100 ≤ 140737488355328 := by rw [List.length_append, Lib.byteCells_length]; omega
              have HF := Lib.hid (fun w' => Wt.First_any (r : Int) hok w')
              have HG := Lib.hid (fun w' => Wt.Rest_any (r : Int) hok w')
              have HH := Lib.hid (fun (W2 : World) (hb2 : Below W.heap.size W W2) => ((Wt.hex_any B b true (bs ++ Lib.byteCells acc) r [92] [59] W2 (hIs.keptBelow hb2) hrb (hbW.below hb2) (by decide) (by decide) hal2).mono (fun e w2 h2 => ⟨h2.1, h2.2.1, (Wt.Kept.below hb2 hBW).trans h2.2.2⟩ : ∀ e w2, _ → (e = .returned (.tuple #[]) ∧ (Wr.At B b (.pointer (some ⟨b, 0, none⟩)) true (bs ++ Lib.byteCells acc ++ Lib.byteCells ([92] ++ [120] ++ Wt.hex r ++ [59])) w2 ∧ Wt.Kept B b W w2)))))
              have HR := Lib.hid (fun (W2 : World) (hb2 : Below W.heap.size W W2) => ((Wt.writeRune B b true (bs ++ Lib.byteCells acc) (r : Int) (by omega) (by omega) W2 (hIs.keptBelow hb2) (by omega) (by have := hb2.size; omega)).mono (fun e w2 h2 => ⟨h2.1, by rw [Lib.byteCells_encodeRune]; exact h2.2.1, (Wt.Kept.below hb2 hBW).trans h2.2.2⟩ : ∀ e w2, _ → (e = .returned (.tuple #[.int .i64 (Lib.runeCells r).length, .nilIface]) ∧ (Wr.At B b (.pointer (some ⟨b, 0, none⟩)) true (bs ++ Lib.byteCells acc ++ Lib.byteCells (Lib.encodeRune (r : Int))) w2 ∧ Wt.Kept B b W w2)))))
              have HE : Hid (Wt.esc (r : Int) = [92] ++ [120] ++ Wt.hex r ++ [59]) := Lib.hid (by simp [Wt.esc])
              obtain ⟨x, hx⟩ : ∃ z, Wt.firstB (r : Int) = z := ⟨_, rfl⟩
              obtain ⟨y, hy⟩ : ∃ z, Wt.restB (r : Int) = z := ⟨_, rfl⟩
              rw [hx] at HF
              rw [hy] at HG
              have HU : Hid (Wt.symU f (r : Int) = if (if f = true then x else y) = true then Lib.encodeRune r else Wt.esc r) := Lib.hid (by unfold Wt.symU; rw [hx, hy])
              clear hR hit hW hr hn hit2 hkW hms hal hwd hp hIs hbW hx hy hok hal2
              cases f
              all_goals cases x
              all_goals cases y
              all_goals
                go_wp2_with (first
                  | (go_at_call 165; refine (HF.out _).mono ?_; rintro e w3 ⟨rfl, hb3⟩)
                  | (go_at_call 166; refine (HG.out _).mono ?_; rintro e w3 ⟨rfl, hb3⟩)
                  | (go_at_call 163; refine (HH.out _ hb3).mono ?_; rintro e w2 ⟨rfl, h2, k2⟩)
                  | (go_at_call 44; refine (HR.out _ hb3).mono ?_; rintro e w2 ⟨rfl, h2, k2⟩))
              all_goals first | exact ⟨⟨_, false, _, rfl, HN.out _ w2 h2 k2 (HU.out.trans HE.out)⟩, HM.out w2 k2⟩ | exact ⟨⟨_, false, _, rfl, HN.out _ w2 h2 k2 HU.out⟩, HM.out w2 k2⟩
            · have hnx : ∀ ty, (Instr.next (.pointer (some ⟨w1.heap.size, 0, none⟩)) true ty).run Tryz.prog wr = _ := fun ty => Lib.run_next_end_at wr w1.heap.size X pos ty hit hp
              have HZ := Lib.hid (HEND.out _ _ _ _ _ hR hp)
              clear hR hit hp HEND
              go_wp2_with fail
              go_end0
              refine ⟨rfl, ?_, HZ.out.2⟩
              show Wr.At B b _ true (bs ++ Lib.byteCells (Wt.sym s.data.toList)) wr
              rw [HSYM.out]
              exact HZ.out.1
        · have hxs : X = s := (by first | exact HXE.out rfl | exact HXE.out trivial | exact HXE.out)
          subst hxs
          have H0 := HX0.out w (by simpa [Lib.byteCells] using HIS.out) (fun e => by cases e) K0
          have hz1 : w.heap.size ≤ w.heap.size := Nat.le_refl _
          go_loopw [4] (fun v wr => ∃ (pos : Nat) (f : Bool) (acc : List UInt8), v = .bool f ∧ Wt.SymRel B b w.heap.size bs X R true w pos f acc wr) (fun _ wr => X.size - wr.iterPos w.heap.size)
          case atStart => exact ⟨0, true, _, rfl, H0⟩
          case round =>
            obtain ⟨pos, f, acc, rfl, hR⟩ := hrel
            have hit := hR.it_
            have hsz : w.heap.size < wr.heap.size := (Array.getElem?_eq_some_iff.1 hit).1
            clear H0 HX0 hm
            by_cases hp : pos < X.size
            · have hwd := Lib.decode_width_pos X pos hp
              have hok := Wt.decode_ok X pos hp
              have HN := Lib.hid (fun u w2 => hR.next (u := u) (w1 := w2) hp)
              have hIs := hR.at_.iterAt hit (pos + (Utf8.decode X pos).2)
              have hit2 := Lib.iterAt_heap wr w.heap.size X pos (pos + (Utf8.decode X pos).2) hit
              have hnx : ∀ ty, (Instr.next (.pointer (some ⟨w.heap.size, 0, none⟩)) true ty).run Tryz.prog wr = _ := fun ty => Lib.run_next_any_at wr w.heap.size X pos ty hit hp
              have hkW := (hR.kept.iterAt (by omega) hz1 X (pos + (Utf8.decode X pos).2))
              have hal := hR.len
              obtain ⟨W, hW⟩ : ∃ z, wr.iterAt w.heap.size X (pos + (Utf8.decode X pos).2) = z := ⟨_, rfl⟩
              obtain ⟨r, hr⟩ : ∃ z, (Utf8.decode X pos).1 = z := ⟨_, rfl⟩
              obtain ⟨n, hn⟩ : ∃ z, (Utf8.decode X pos).2 = z := ⟨_, rfl⟩
              rw [hW] at HN hIs hit2 hnx hkW
              rw [hr] at HN hok hnx
              rw [hn] at HN hwd hit2
              have hrb : r ≤ 1114111 := by unfold Ru.okR at hok; omega
              have hbW := HD.out W hkW
              have hms : X.size - wr.iterPos w.heap.size = X.size - pos := by simp [World.iterPos, hit]
              have HM := Lib.hid (fun (w2 : World) (k2 : Wt.Kept B b W w2) => (show X.size - w2.iterPos w.heap.size < X.size - wr.iterPos w.heap.size by
                rw [hms]
                have := k2.iter hit2 (by omega)
                simp only [World.iterPos, this]
                omega))
              have hBW : B ≤ W.heap.size := Nat.le_trans (by omega) hkW.size
              have hal2 : (bs ++ Lib.byteCells acc).length + 100 ≤ 140737488355328 := by rw [List.length_append, Lib.byteCells_length]; omega
              have HF := Lib.hid (fun w' => Wt.First_any (r : Int) hok w')
              have HG := Lib.hid (fun w' => Wt.Rest_any (r : Int) hok w')
              have HH := Lib.hid (fun (W2 : World) (hb2 : Below W.heap.size W W2) => ((Wt.hex_any B b true (bs ++ Lib.byteCells acc) r [92] [59] W2 (hIs.keptBelow hb2) hrb (hbW.below hb2) (by decide) (by decide) hal2).mono (fun e w2 h2 => ⟨h2.1, h2.2.1, (Wt.Kept.below hb2 hBW).trans h2.2.2⟩ : ∀ e w2, _ → (e = .returned (.tuple #[]) ∧ (Wr.At B b (.pointer (some ⟨b, 0, none⟩)) true (bs ++ Lib.byteCells acc ++ Lib.byteCells ([92] ++ [120] ++ Wt.hex r ++ [59])) w2 ∧ Wt.Kept B b W w2)))))
              have HR := Lib.hid (fun (W2 : World) (hb2 : Below W.heap.size W W2) => ((Wt.writeRune B b true (bs ++ Lib.byteCells acc) (r : Int) (by omega) (by omega) W2 (hIs.keptBelow hb2) (by omega) (by have := hb2.size; omega)).mono (fun e w2 h2 => ⟨h2.1, by rw [Lib.byteCells_encodeRune]; exact h2.2.1, (Wt.Kept.below hb2 hBW).trans h2.2.2⟩ : ∀ e w2, _ → (e = .returned (.tuple #[.int .i64 (Lib.runeCells r).length, .nilIface]) ∧ (Wr.At B b (.pointer (some ⟨b, 0, none⟩)) true (bs ++ Lib.byteCells acc ++ Lib.byteCells (Lib.encodeRune (r : Int))) w2 ∧ Wt.Kept B b W w2)))))
              have HE : Hid (Wt.esc (r : Int) = [92] ++ [120] ++ Wt.hex r ++ [59]) := Lib.hid (by simp [Wt.esc])
              obtain ⟨x, hx⟩ : ∃ z, Wt.firstB (r : Int) = z := ⟨_, rfl⟩
              obtain ⟨y, hy⟩ : ∃ z, Wt.restB (r : Int) = z := ⟨_, rfl⟩
              rw [hx] at HF
              rw [hy] at HG
              have HU : Hid (Wt.symU f (r : Int) = if (if f = true then x else y) = true then Lib.encodeRune r else Wt.esc r) := Lib.hid (by unfold Wt.symU; rw [hx, hy])
              clear hR hit hW hr hn hit2 hkW hms hal hwd hp hIs hbW hx hy hok hal2
              cases f
              all_goals cases x
              all_goals cases y
              all_goals
                go_wp2_with (first
                  | (go_at_call 165; refine (HF.out _).mono ?_; rintro e w3 ⟨rfl, hb3⟩)
                  | (go_at_call 166; refine (HG.out _).mono ?_; rintro e w3 ⟨rfl, hb3⟩)
                  | (go_at_call 163; refine (HH.out _ hb3).mono ?_; rintro e w2 ⟨rfl, h2, k2⟩)
                  | (go_at_call 44; refine (HR.out _ hb3).mono ?_; rintro e w2 ⟨rfl, h2, k2⟩))
              all_goals first | exact ⟨⟨_, false, _, rfl, HN.out _ w2 h2 k2 (HU.out.trans HE.out)⟩, HM.out w2 k2⟩ | exact ⟨⟨_, false, _, rfl, HN.out _ w2 h2 k2 HU.out⟩, HM.out w2 k2⟩
            · have hnx : ∀ ty, (Instr.next (.pointer (some ⟨w.heap.size, 0, none⟩)) true ty).run Tryz.prog wr = _ := fun ty => Lib.run_next_end_at wr w.heap.size X pos ty hit hp
              have HZ := Lib.hid (HEND.out _ _ _ _ _ hR hp)
              clear hR hit hp HEND
              go_wp2_with fail
              go_end0
              refine ⟨rfl, ?_, HZ.out.2⟩
              show Wr.At B b _ true (bs ++ Lib.byteCells (Wt.sym X.data.toList)) wr
              rw [HSYM.out]
              exact HZ.out.1
end Go.Proofs.YtdjllmogejkimaaGreatDoor
