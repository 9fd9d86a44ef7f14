/-
  The document's name of a character.
  The document's Decimal and hex of any number that is not below nought.
  The document's character.
  write's text of a string.
  The document's text of a string.
  The document's Runes, and which texts begin with an arrow.
  strings.IndexRune of write's two constant texts at a character beyond ASCII: it is not there.
  The walks of package chars' functions of one character: pair, Up, Down, Letter, Digit, Blank compute the plain functions. No conditions but that the character is an int32.
  The walks of package chars' functions of one character, second text: Up, Down, Letter compute the plain functions. The only condition: the character is an int32.
  datum.First and datum.Rest of any character.
  The document's plain functions for one character (package sextantref01), said as Lean functions on Int, and that the program's are the same at every int32. No program in sight. No conditions beyond the int32's range.
  The walks of package sextantref01's functions of one character: Capital, Small, Up, Down, Letter, Digit, Blank compute the document's plain functions; a slice that Small and Letter make lies above all that was there. The only condition: the character is an int32.
  The walks of package sextantref01's functions of one character, second text: Up, Down, Letter compute the document's plain functions; what they make lies above all that was there. The only condition: the character is an int32.
-/
import Derived.Test.YtikmebkfdpbidaaGreatDoorProg
import Derived.WalkKit
import Derived.WalkSpells
import Derived.WalkLawsBesides
import Derived.Handy
import Derived.Lib.Hide
import Derived.Outline
import Derived.Laws.IdiomStrings
import Derived.Deep.LoopGhost
import Derived.Lib.SlBytesConst
import Derived.Deep.RegionHeld3
import Derived.BigCall
import Derived.Lib.RuneCount
import Derived.Test.YtikmebkfdpbidaaGreatDoorShelf
import Derived.WalkMore
import Derived.Test.YtikmebkfdpbidaaGreatDoorRows
import Derived.Test.YtikmebkfdpbidaaGreatDoorWtNamedW
import Derived.Test.YtikmebkfdpbidaaGreatDoorWf
import Derived.Test.YtikmebkfdpbidaaGreatDoorWe
import Derived.Test.YtikmebkfdpbidaaGreatDoorWh
import Derived.Test.YtikmebkfdpbidaaGreatDoorWa
namespace Go.Proofs.YtikmebkfdpbidaaGreatDoor
open Go.RowKit
set_option linter.unusedVariables false
set_option linter.unusedSimpArgs false

def Wt.nums : List Int := [0, 7, 8, 9, 10, 11, 12, 13, 27, 32, 127]
theorem Wt.name_none {n : Int} (h : ∀ j, j < 11 → n ≠ Wt.nums.getD j 0) : Wt.name n = [] := by
  have h0 : n ≠ 0 := h 0 (by decide)
  have h1 : n ≠ 7 := h 1 (by decide)
  have h2 : n ≠ 8 := h 2 (by decide)
  have h3 : n ≠ 9 := h 3 (by decide)
  have h4 : n ≠ 10 := h 4 (by decide)
  have h5 : n ≠ 11 := h 5 (by decide)
  have h6 : n ≠ 12 := h 6 (by decide)
  have h7 : n ≠ 13 := h 7 (by decide)
  have h8 : n ≠ 27 := h 8 (by decide)
  have h9 : n ≠ 32 := h 9 (by decide)
  have h10 : n ≠ 127 := h 10 (by decide)
  unfold Wt.name
  rw [if_neg h0, if_neg h1, if_neg h2, if_neg h3, if_neg h4, if_neg h5, if_neg h6, if_neg h7, if_neg h8, if_neg h9, if_neg h10]
set_option maxHeartbeats 8000000 in
set_option maxRecDepth 1000000 in
theorem Wt.nameR_any (n : Int) (w : World) : Calls Tryz.prog 108 #[.int .i64 n] w fun e w' => e = .returned (.string ⟨(Wt.name n).toArray⟩) ∧ Below w.heap.size w w' := by
  have h0 : (w.alloc (.cells #[.string ⟨#[110, 117, 108]⟩, .string ⟨#[97, 108, 97, 114, 109]⟩, .string ⟨#[98, 97, 99, 107, 115, 112, 97, 99, 101]⟩, .string ⟨#[116, 97, 98]⟩, .string ⟨#[110, 101, 119, 108, 105, 110, 101]⟩, .string ⟨#[118, 116, 97, 98]⟩, .string ⟨#[112, 97, 103, 101]⟩, .string ⟨#[114, 101, 116, 117, 114, 110]⟩, .string ⟨#[101, 115, 99]⟩, .string ⟨#[115, 112, 97, 99, 101]⟩, .string ⟨#[100, 101, 108, 101, 116, 101]⟩] 9)).heap[w.heap.size]? = some (.cells #[.string ⟨#[110, 117, 108]⟩, .string ⟨#[97, 108, 97, 114, 109]⟩, .string ⟨#[98, 97, 99, 107, 115, 112, 97, 99, 101]⟩, .string ⟨#[116, 97, 98]⟩, .string ⟨#[110, 101, 119, 108, 105, 110, 101]⟩, .string ⟨#[118, 116, 97, 98]⟩, .string ⟨#[112, 97, 103, 101]⟩, .string ⟨#[114, 101, 116, 117, 114, 110]⟩, .string ⟨#[101, 115, 99]⟩, .string ⟨#[115, 112, 97, 99, 101]⟩, .string ⟨#[100, 101, 108, 101, 116, 101]⟩] 9 (0, 0)) := heap_alloc_new w _
  obtain ⟨W0, hW0⟩ : ∃ z, w.alloc (.cells #[.string ⟨#[110, 117, 108]⟩, .string ⟨#[97, 108, 97, 114, 109]⟩, .string ⟨#[98, 97, 99, 107, 115, 112, 97, 99, 101]⟩, .string ⟨#[116, 97, 98]⟩, .string ⟨#[110, 101, 119, 108, 105, 110, 101]⟩, .string ⟨#[118, 116, 97, 98]⟩, .string ⟨#[112, 97, 103, 101]⟩, .string ⟨#[114, 101, 116, 117, 114, 110]⟩, .string ⟨#[101, 115, 99]⟩, .string ⟨#[115, 112, 97, 99, 101]⟩, .string ⟨#[100, 101, 108, 101, 116, 101]⟩] 9) = z := ⟨_, rfl⟩
  have hb0 : Below w.heap.size w W0 := by rw [← hW0]; exact (Below.refl _ _).alloc (Nat.le_refl _) _
  rw [hW0] at h0
  have hlt := (Array.getElem?_eq_some_iff.1 h0).1
  have H0 := Lib.hid h0
  have HB0 := Lib.hid hb0
  clear h0 hb0
  go_enter Tryz.func108, Tryz.ntmps108
  go_wp2_with fail
  go_loopw [7] (fun i wr => ∃ (k : Nat), i = .int .i64 k ∧ k ≤ 11 ∧ Below W0.heap.size W0 wr ∧ (∀ j, j < k → n ≠ Wt.nums.getD j 0)) (fun i _ => 12 - (intOf i).toNat)
  case atStart => exact ⟨0, rfl, by decide, Below.refl _ _, fun j hj => by omega⟩
  case round =>
    obtain ⟨k, rfl, hk, hb, hmiss⟩ := hrel
    have hbox := (hb.block w.heap.size hlt).trans H0.out
    have hc := Lib.cell_of_heap hbox
    have HM := Lib.hid hmiss
    have HBW := Lib.hid hb
    have hcase : k = 0 ∨ k = 1 ∨ k = 2 ∨ k = 3 ∨ k = 4 ∨ k = 5 ∨ k = 6 ∨ k = 7 ∨ k = 8 ∨ k = 9 ∨ k = 10 ∨ k = 11 := by omega
    clear hmiss hb hbox hk
    rcases hcase with rfl | rfl | rfl | rfl | rfl | rfl | rfl | rfl | rfl | rfl | rfl | rfl
    · have c := hc 0
      clear hc
      by_cases hn : n = 0
      · subst hn
        go_wp2_with (go_at_call 163; refine (Wt.Named_nul _).mono ?_; rintro e w2 ⟨rfl, hb2⟩)
        go_ret
        exact ⟨rfl, HB0.out.trans ((HBW.out.trans (hb2.mono HBW.out.size)).mono HB0.out.size)⟩
      · have hne : ((0 : Int) == n) = false := beq_eq_false_iff_ne.2 (fun e => hn e.symm)
        go_wp2_with (go_at_call 163; refine (Wt.Named_nul _).mono ?_; rintro e w2 ⟨rfl, hb2⟩)
        go_roundw
        case rel =>
          refine ⟨1, by first | rfl | go_num, by decide, HBW.out.trans (hb2.mono HBW.out.size), fun j hj => ?_⟩
          by_cases e : j < 0
          · exact HM.out j e
          · obtain rfl : j = 0 := by omega
            exact hn
        case measure => simp [intOf]
    · have c := hc 1
      clear hc
      by_cases hn : n = 7
      · subst hn
        go_wp2_with (go_at_call 163; refine (Wt.Named_alarm _).mono ?_; rintro e w2 ⟨rfl, hb2⟩)
        go_ret
        exact ⟨rfl, HB0.out.trans ((HBW.out.trans (hb2.mono HBW.out.size)).mono HB0.out.size)⟩
      · have hne : ((7 : Int) == n) = false := beq_eq_false_iff_ne.2 (fun e => hn e.symm)
        go_wp2_with (go_at_call 163; refine (Wt.Named_alarm _).mono ?_; rintro e w2 ⟨rfl, hb2⟩)
        go_roundw
        case rel =>
          refine ⟨2, by first | rfl | go_num, by decide, HBW.out.trans (hb2.mono HBW.out.size), fun j hj => ?_⟩
          by_cases e : j < 1
          · exact HM.out j e
          · obtain rfl : j = 1 := by omega
            exact hn
        case measure => simp [intOf]
    · have c := hc 2
      clear hc
      by_cases hn : n = 8
      · subst hn
        go_wp2_with (go_at_call 163; refine (Wt.Named_backspace _).mono ?_; rintro e w2 ⟨rfl, hb2⟩)
        go_ret
        exact ⟨rfl, HB0.out.trans ((HBW.out.trans (hb2.mono HBW.out.size)).mono HB0.out.size)⟩
      · have hne : ((8 : Int) == n) = false := beq_eq_false_iff_ne.2 (fun e => hn e.symm)
        go_wp2_with (go_at_call 163; refine (Wt.Named_backspace _).mono ?_; rintro e w2 ⟨rfl, hb2⟩)
        go_roundw
        case rel =>
          refine ⟨3, by first | rfl | go_num, by decide, HBW.out.trans (hb2.mono HBW.out.size), fun j hj => ?_⟩
          by_cases e : j < 2
          · exact HM.out j e
          · obtain rfl : j = 2 := by omega
            exact hn
        case measure => simp [intOf]
    · have c := hc 3
      clear hc
      by_cases hn : n = 9
      · subst hn
        go_wp2_with (go_at_call 163; refine (Wt.Named_tab _).mono ?_; rintro e w2 ⟨rfl, hb2⟩)
        go_ret
        exact ⟨rfl, HB0.out.trans ((HBW.out.trans (hb2.mono HBW.out.size)).mono HB0.out.size)⟩
      · have hne : ((9 : Int) == n) = false := beq_eq_false_iff_ne.2 (fun e => hn e.symm)
        go_wp2_with (go_at_call 163; refine (Wt.Named_tab _).mono ?_; rintro e w2 ⟨rfl, hb2⟩)
        go_roundw
        case rel =>
          refine ⟨4, by first | rfl | go_num, by decide, HBW.out.trans (hb2.mono HBW.out.size), fun j hj => ?_⟩
          by_cases e : j < 3
          · exact HM.out j e
          · obtain rfl : j = 3 := by omega
            exact hn
        case measure => simp [intOf]
    · have c := hc 4
      clear hc
      by_cases hn : n = 10
      · subst hn
        go_wp2_with (go_at_call 163; refine (Wt.Named_newline _).mono ?_; rintro e w2 ⟨rfl, hb2⟩)
        go_ret
        exact ⟨rfl, HB0.out.trans ((HBW.out.trans (hb2.mono HBW.out.size)).mono HB0.out.size)⟩
      · have hne : ((10 : Int) == n) = false := beq_eq_false_iff_ne.2 (fun e => hn e.symm)
        go_wp2_with (go_at_call 163; refine (Wt.Named_newline _).mono ?_; rintro e w2 ⟨rfl, hb2⟩)
        go_roundw
        case rel =>
          refine ⟨5, by first | rfl | go_num, by decide, HBW.out.trans (hb2.mono HBW.out.size), fun j hj => ?_⟩
          by_cases e : j < 4
          · exact HM.out j e
          · obtain rfl : j = 4 := by omega
            exact hn
        case measure => simp [intOf]
    · have c := hc 5
      clear hc
      by_cases hn : n = 11
      · subst hn
        go_wp2_with (go_at_call 163; refine (Wt.Named_vtab _).mono ?_; rintro e w2 ⟨rfl, hb2⟩)
        go_ret
        exact ⟨rfl, HB0.out.trans ((HBW.out.trans (hb2.mono HBW.out.size)).mono HB0.out.size)⟩
      · have hne : ((11 : Int) == n) = false := beq_eq_false_iff_ne.2 (fun e => hn e.symm)
        go_wp2_with (go_at_call 163; refine (Wt.Named_vtab _).mono ?_; rintro e w2 ⟨rfl, hb2⟩)
        go_roundw
        case rel =>
          refine ⟨6, by first | rfl | go_num, by decide, HBW.out.trans (hb2.mono HBW.out.size), fun j hj => ?_⟩
          by_cases e : j < 5
          · exact HM.out j e
          · obtain rfl : j = 5 := by omega
            exact hn
        case measure => simp [intOf]
    · have c := hc 6
      clear hc
      by_cases hn : n = 12
      · subst hn
        go_wp2_with (go_at_call 163; refine (Wt.Named_page _).mono ?_; rintro e w2 ⟨rfl, hb2⟩)
        go_ret
        exact ⟨rfl, HB0.out.trans ((HBW.out.trans (hb2.mono HBW.out.size)).mono HB0.out.size)⟩
      · have hne : ((12 : Int) == n) = false := beq_eq_false_iff_ne.2 (fun e => hn e.symm)
        go_wp2_with (go_at_call 163; refine (Wt.Named_page _).mono ?_; rintro e w2 ⟨rfl, hb2⟩)
        go_roundw
        case rel =>
          refine ⟨7, by first | rfl | go_num, by decide, HBW.out.trans (hb2.mono HBW.out.size), fun j hj => ?_⟩
          by_cases e : j < 6
          · exact HM.out j e
          · obtain rfl : j = 6 := by omega
            exact hn
        case measure => simp [intOf]
    · have c := hc 7
      clear hc
      by_cases hn : n = 13
      · subst hn
        go_wp2_with (go_at_call 163; refine (Wt.Named_return _).mono ?_; rintro e w2 ⟨rfl, hb2⟩)
        go_ret
        exact ⟨rfl, HB0.out.trans ((HBW.out.trans (hb2.mono HBW.out.size)).mono HB0.out.size)⟩
      · have hne : ((13 : Int) == n) = false := beq_eq_false_iff_ne.2 (fun e => hn e.symm)
        go_wp2_with (go_at_call 163; refine (Wt.Named_return _).mono ?_; rintro e w2 ⟨rfl, hb2⟩)
        go_roundw
        case rel =>
          refine ⟨8, by first | rfl | go_num, by decide, HBW.out.trans (hb2.mono HBW.out.size), fun j hj => ?_⟩
          by_cases e : j < 7
          · exact HM.out j e
          · obtain rfl : j = 7 := by omega
            exact hn
        case measure => simp [intOf]
    · have c := hc 8
      clear hc
      by_cases hn : n = 27
      · subst hn
        go_wp2_with (go_at_call 163; refine (Wt.Named_esc _).mono ?_; rintro e w2 ⟨rfl, hb2⟩)
        go_ret
        exact ⟨rfl, HB0.out.trans ((HBW.out.trans (hb2.mono HBW.out.size)).mono HB0.out.size)⟩
      · have hne : ((27 : Int) == n) = false := beq_eq_false_iff_ne.2 (fun e => hn e.symm)
        go_wp2_with (go_at_call 163; refine (Wt.Named_esc _).mono ?_; rintro e w2 ⟨rfl, hb2⟩)
        go_roundw
        case rel =>
          refine ⟨9, by first | rfl | go_num, by decide, HBW.out.trans (hb2.mono HBW.out.size), fun j hj => ?_⟩
          by_cases e : j < 8
          · exact HM.out j e
          · obtain rfl : j = 8 := by omega
            exact hn
        case measure => simp [intOf]
    · have c := hc 9
      clear hc
      by_cases hn : n = 32
      · subst hn
        go_wp2_with (go_at_call 163; refine (Wt.Named_space _).mono ?_; rintro e w2 ⟨rfl, hb2⟩)
        go_ret
        exact ⟨rfl, HB0.out.trans ((HBW.out.trans (hb2.mono HBW.out.size)).mono HB0.out.size)⟩
      · have hne : ((32 : Int) == n) = false := beq_eq_false_iff_ne.2 (fun e => hn e.symm)
        go_wp2_with (go_at_call 163; refine (Wt.Named_space _).mono ?_; rintro e w2 ⟨rfl, hb2⟩)
        go_roundw
        case rel =>
          refine ⟨10, by first | rfl | go_num, by decide, HBW.out.trans (hb2.mono HBW.out.size), fun j hj => ?_⟩
          by_cases e : j < 9
          · exact HM.out j e
          · obtain rfl : j = 9 := by omega
            exact hn
        case measure => simp [intOf]
    · have c := hc 10
      clear hc
      by_cases hn : n = 127
      · subst hn
        go_wp2_with (go_at_call 163; refine (Wt.Named_delete _).mono ?_; rintro e w2 ⟨rfl, hb2⟩)
        go_ret
        exact ⟨rfl, HB0.out.trans ((HBW.out.trans (hb2.mono HBW.out.size)).mono HB0.out.size)⟩
      · have hne : ((127 : Int) == n) = false := beq_eq_false_iff_ne.2 (fun e => hn e.symm)
        go_wp2_with (go_at_call 163; refine (Wt.Named_delete _).mono ?_; rintro e w2 ⟨rfl, hb2⟩)
        go_roundw
        case rel =>
          refine ⟨11, by first | rfl | go_num, by decide, HBW.out.trans (hb2.mono HBW.out.size), fun j hj => ?_⟩
          by_cases e : j < 10
          · exact HM.out j e
          · obtain rfl : j = 10 := by omega
            exact hn
        case measure => simp [intOf]
    · go_wp2_with fail
      go_ret
      exact ⟨by rw [Wt.name_none HM.out]; rfl, HB0.out.trans (HBW.out.mono HB0.out.size)⟩
end Go.Proofs.YtikmebkfdpbidaaGreatDoor
namespace Go.Proofs.YtikmebkfdpbidaaGreatDoor
open Go.RowKit
set_option linter.unusedVariables false
set_option linter.unusedSimpArgs false

theorem Wt.dec_small {n : Nat} (h : n < 10) : Tx.dec n = [Tx.dg n] := by unfold Tx.dec; rw [Tx.lo_small h]; rfl
theorem Wt.dec_big {n : Nat} (h : ¬ n < 10) : Tx.dec n = Tx.dec (n / 10) ++ [Tx.dg (n % 10)] := by unfold Tx.dec; rw [Tx.lo_big h, List.reverse_cons]
/-- What holds at each round of Decimal's loop. -/
structure Wt.DecRel (N n : Nat) (f : Bool) (D : List UInt8) : Prop where
  says : (if f = true ∨ 0 < n then Tx.dec n else []) ++ D = Tx.dec N
  le : n ≤ N
theorem Wt.DecRel.next {N n : Nat} {f : Bool} {D : List UInt8} (h : Wt.DecRel N n f D) (hf : f = true ∨ 0 < n) : Wt.DecRel N (n / 10) false (Tx.dg (n % 10) :: D) := by
  refine ⟨?_, Nat.le_trans (Nat.div_le_self _ _) h.le⟩
  rw [← h.says, if_pos hf]
  by_cases h10 : n < 10
  · have e0 : n / 10 = 0 := by omega
    have e1 : n % 10 = n := by omega
    rw [Wt.dec_small h10, e0, e1]
    simp
  · rw [if_pos (.inr (by omega)), Wt.dec_big h10]
    simp
theorem Wt.DecRel.len {N n : Nat} {f : Bool} {D : List UInt8} (h : Wt.DecRel N n f D) (hN : N < 9223372036854775808) : D.length ≤ 64 := by
  have h1 := congrArg List.length h.says
  rw [List.length_append] at h1
  have h2 : (Tx.dec N).length ≤ 64 := by
    unfold Tx.dec
    rw [List.length_reverse]
    exact Tx.lo_len 63 N hN
  omega
theorem Wt.dg_toNat {d : Nat} (h : d < 10) : ((Tx.dg d).toNat : Int) = 48 + (d : Int) := by
  unfold Tx.dg
  simp only [UInt8.toNat_ofNat']
  omega
theorem Wt.conv1 (c : UInt8) (W : World) : (convert 27 9 (.slice (some ⟨W.heap.size, 0, none⟩) 1 1)).run Tryz.prog (W.alloc (.cells #[.int .u8 (c.toNat : Int)] 5)) = .ok (.string ⟨#[c]⟩) (W.alloc (.cells #[.int .u8 (c.toNat : Int)] 5)) := by
  have h0 : (W.alloc (.cells #[.int .u8 (c.toNat : Int)] 5)).heap[W.heap.size]? = some (.cells #[.int .u8 (c.toNat : Int)] 5 (0, 0)) := heap_alloc_new W _
  exact run_convert_bytes_back (P := Tryz.prog) (W.alloc (.cells #[.int .u8 (c.toNat : Int)] 5)) 27 9 5 ⟨W.heap.size, 0, none⟩ 1 [c] Tryz.underlying27 Tryz.underlying5 Tryz.underlying9 (fun j hj => by
    have hj0 : j = 0 := by simp at hj; omega
    subst hj0
    rw [show (⟨W.heap.size, 0, none⟩ : Addr).add 0 = ⟨W.heap.size, 0, none⟩ from by unfold Addr.add; split <;> simp_all, Lib.cell_of_heap h0]
    rfl)
theorem Wt.cons_str (c : UInt8) (D : List UInt8) : (⟨#[c]⟩ ++ (⟨D.toArray⟩ : ByteArray) : ByteArray) = ⟨(c :: D).toArray⟩ := by
  apply ByteArray.ext
  simp
set_option maxHeartbeats 4000000 in
set_option maxRecDepth 1000000 in
theorem Wt.Decimal_any (N : Nat) (w : World) (hN : N < 9223372036854775808) :
    Calls Tryz.prog 73 #[.int .i64 N] w fun e w' => e = .returned (.string ⟨(Tx.dec N).toArray⟩) ∧ Below w.heap.size w w' := by
  have H0 : Wt.DecRel N N true [] := ⟨by simp, Nat.le_refl _⟩
  go_enter Tryz.func73, Tryz.ntmps73
  go_wp2_with fail
  go_loopg [0, 3, 4] (N + 1) (fun g nv sv fv wr => ∃ (n : Nat) (f : Bool) (D : List UInt8), nv = .int .i64 n ∧ sv = .string ⟨D.toArray⟩ ∧ fv = .bool f ∧ g = n + (if f = true then 1 else 0) ∧ Wt.DecRel N n f D ∧ Below w.heap.size w wr)
  case atStart => exact ⟨N, true, [], rfl, rfl, rfl, rfl, H0, Below.refl _ _⟩
  case round =>
    obtain ⟨n, f, D, rfl, rfl, rfl, hg, hR, hb⟩ := hrel
    clear H0
    have hDl := hR.len hN
    have hle := hR.le
    by_cases hgo : f = true ∨ 0 < n
    · have HNX := Lib.hid (hR.next hgo)
      obtain ⟨d, hd⟩ : ∃ z, z = n % 10 := ⟨_, rfl⟩
      have hd10 : d < 10 := by omega
      have hrem : (n : Int).tmod 10 = d := by
        rw [hd]
        rfl
      have hquo : (n : Int).tdiv 10 = ((n / 10 : Nat) : Int) := rfl
      have hw8 : IntKind.u8.wrap (48 + (d : Int)) = ((Tx.dg d).toNat : Int) := by rw [Wt.dg_toNat hd10, IntKind.wrap_u8]; omega
      have hsz : (9223372036854775807 < 1 + D.length) = False := eq_false (by omega)
      rw [← hd] at HNX
      have HB := Lib.hid (fun o => hb.alloc hb.size o)
      have HG := Lib.hid hg
      have HD := Lib.hid hd
      clear hR hb hg hd
      have hcv := Wt.conv1 (Tx.dg d) wr
      have hap := Wt.cons_str (Tx.dg d) D
      cases f
      · have hn0 : (0 : Int) < n := by
          rcases hgo with h | h
          · cases h
          · omega
        go_wp2_with fail
        go_roundg (n / 10)
        case measure => have := HG.out; simp at this; omega
        case rel => exact ⟨n / 10, false, _, rfl, rfl, rfl, rfl, HNX.out, HB.out _⟩
      · go_wp2_with fail
        go_roundg (n / 10)
        case measure => have := HG.out; simp at this; omega
        case rel => exact ⟨n / 10, false, _, rfl, rfl, rfl, rfl, HNX.out, HB.out _⟩
    · have hn0 : n = 0 := by omega
      have hf : f = false := by cases f; rfl; exact absurd (Or.inl rfl) hgo
      subst hf hn0
      have hD : D = Tx.dec N := by simpa using hR.says
      go_wp2_with fail
      go_ret
      exact ⟨by rw [hD]; rfl, hb⟩
/-- What holds at each round of hex's loop. -/
structure Wt.HexRel (N n : Nat) (f : Bool) (D : List UInt8) : Prop where
  says : (if f = true ∨ 0 < n then Wt.hex n else []) ++ D = Wt.hex N
  le : n ≤ N
theorem Wt.HexRel.next {N n : Nat} {f : Bool} {D : List UInt8} (h : Wt.HexRel N n f D) (hf : f = true ∨ 0 < n) : Wt.HexRel N (n / 16) false (Wt.hx (n % 16) :: D) := by
  refine ⟨?_, Nat.le_trans (Nat.div_le_self _ _) h.le⟩
  rw [← h.says, if_pos hf]
  by_cases h16 : n < 16
  · have e0 : n / 16 = 0 := by omega
    have e1 : n % 16 = n := by omega
    rw [Wt.hex_small h16, e0, e1]
    simp
  · rw [if_pos (.inr (by omega)), Wt.hex_big h16]
    simp
theorem Wt.HexRel.len {N n : Nat} {f : Bool} {D : List UInt8} (h : Wt.HexRel N n f D) (hN : N ≤ 1114111) : D.length ≤ 6 := by
  have h1 := congrArg List.length h.says
  rw [List.length_append] at h1
  have h2 := Wt.hex_len hN
  omega
theorem Wt.conv1z (c : UInt8) (W : World) (z : Int) (hz : z = (c.toNat : Int)) : (convert 27 9 (.slice (some ⟨W.heap.size, 0, none⟩) 1 1)).run Tryz.prog (W.alloc (.cells #[.int .u8 z] 5)) = .ok (.string ⟨#[c]⟩) (W.alloc (.cells #[.int .u8 z] 5)) := by
  rw [hz]
  exact Wt.conv1 c W
set_option maxHeartbeats 4000000 in
set_option maxRecDepth 1000000 in
theorem Wt.hexR_any (N : Nat) (w : World) (hN : N ≤ 1114111) :
    Calls Tryz.prog 111 #[.int .i32 N] w fun e w' => e = .returned (.string ⟨(Wt.hex N).toArray⟩) ∧ Below w.heap.size w w' := by
  have H0 : Wt.HexRel N N true [] := ⟨by simp, Nat.le_refl _⟩
  go_enter Tryz.func111, Tryz.ntmps111
  go_wp2_with fail
  go_loopg [0, 3, 4] (N + 1) (fun g nv sv fv wr => ∃ (n : Nat) (f : Bool) (D : List UInt8), nv = .int .i32 n ∧ sv = .string ⟨D.toArray⟩ ∧ fv = .bool f ∧ g = n + (if f = true then 1 else 0) ∧ Wt.HexRel N n f D ∧ Below w.heap.size w wr)
  case atStart => exact ⟨N, true, [], rfl, rfl, rfl, rfl, H0, Below.refl _ _⟩
  case round =>
    obtain ⟨n, f, D, rfl, rfl, rfl, hg, hR, hb⟩ := hrel
    clear H0
    have hDl := hR.len hN
    have hle := hR.le
    by_cases hgo : f = true ∨ 0 < n
    · have HNX := Lib.hid (hR.next hgo)
      obtain ⟨d, hd⟩ : ∃ z, z = n % 16 := ⟨_, rfl⟩
      have hd16 : d < 16 := by omega
      have hrem : (n : Int).tmod 16 = d := by
        rw [hd]
        rfl
      have hquo : (n : Int).tdiv 16 = ((n / 16 : Nat) : Int) := rfl
      have hsz : (9223372036854775807 < 1 + D.length) = False := eq_false (by omega)
      rw [← hd] at HNX
      have HB := Lib.hid (fun o => hb.alloc hb.size o)
      have HG := Lib.hid hg
      have HCV := Lib.hid (Wt.conv1z (Wt.hx d) wr)
      have hap := Wt.cons_str (Wt.hx d) D
      clear hR hb hg hd
      have hcase : d = 0 ∨ d = 1 ∨ d = 2 ∨ d = 3 ∨ d = 4 ∨ d = 5 ∨ d = 6 ∨ d = 7 ∨ d = 8 ∨ d = 9 ∨ d = 10 ∨ d = 11 ∨ d = 12 ∨ d = 13 ∨ d = 14 ∨ d = 15 := by omega
      clear hd16
      cases f
      · have hn0 : (0 : Int) < n := by
          rcases hgo with h | h
          · cases h
          · omega
        rcases hcase with rfl | rfl | rfl | rfl | rfl | rfl | rfl | rfl | rfl | rfl | rfl | rfl | rfl | rfl | rfl | rfl
        all_goals
          go_wp2_with fail
          rw [HCV.out _ (by decide)]
          simp only [Result.andThen]
          rw [Oper.upon_value]
          go_wp2_with fail
          go_roundg (n / 16)
          case measure => have := HG.out; simp at this; omega
          case rel => exact ⟨n / 16, false, _, rfl, rfl, rfl, rfl, HNX.out, HB.out _⟩
      · rcases hcase with rfl | rfl | rfl | rfl | rfl | rfl | rfl | rfl | rfl | rfl | rfl | rfl | rfl | rfl | rfl | rfl
        all_goals
          go_wp2_with fail
          rw [HCV.out _ (by decide)]
          simp only [Result.andThen]
          rw [Oper.upon_value]
          go_wp2_with fail
          go_roundg (n / 16)
          case measure => have := HG.out; simp at this; omega
          case rel => exact ⟨n / 16, false, _, rfl, rfl, rfl, rfl, HNX.out, HB.out _⟩
    · have hn0 : n = 0 := by omega
      have hf : f = false := by cases f; rfl; exact absurd (Or.inl rfl) hgo
      subst hf hn0
      have hD : D = Wt.hex N := by simpa using hR.says
      go_wp2_with fail
      go_ret
      exact ⟨by rw [hD]; rfl, hb⟩
end Go.Proofs.YtikmebkfdpbidaaGreatDoor
namespace Go.Proofs.YtikmebkfdpbidaaGreatDoor
open Go.RowKit
set_option linter.unusedVariables false
set_option linter.unusedSimpArgs false

set_option maxHeartbeats 4000000 in
set_option maxRecDepth 1000000 in
theorem Wt.charR_any (r : Nat) (w : World) (hr : Ru.okR (r : Int)) :
    Calls Tryz.prog 70 #[.int .i64 r] w fun e w' => e = .returned (.string ⟨(Wt.chr true r).toArray⟩) ∧ Below w.heap.size w w' := by
  have hrb : r ≤ 1114111 := by unfold Ru.okR at hr; omega
  have hwr : IntKind.i32.wrap (r : Int) = r := by rw [IntKind.wrap_i32]; omega
  obtain ⟨N, hN⟩ : ∃ z, Wt.name (r : Int) = z := ⟨_, rfl⟩
  have hN9 := Wt.name_len (r : Int)
  rw [hN] at hN9
  have KN := fun w' => Wt.nameR_any (r : Int) w'
  rw [hN] at KN
  obtain ⟨o, ho⟩ : ∃ z, Wt.odd (r : Int) = z := ⟨_, rfl⟩
  obtain ⟨q, hq⟩ : ∃ z, Ch.blankB (r : Int) = z := ⟨_, rfl⟩
  have KO := fun w' => Wt.oddR_any (r : Int) w'
  have KB := fun w' => Wt.blankR_any (r : Int) w'
  have KH := fun w' => Wt.hexR_any r w' hrb
  rw [ho] at KO
  rw [hq] at KB
  have hl6 := Wt.hex_len hrb
  obtain ⟨H, hH⟩ : ∃ z, Wt.hex r = z := ⟨_, rfl⟩
  rw [hH] at KH hl6
  have HC : Hid (Wt.chr true (r : Int) = if N ≠ [] then [35, 92] ++ N else if (o || q) = true then [35, 92, 120] ++ H else [35, 92] ++ Lib.encodeRune r) := Lib.hid (by
    unfold Wt.chr
    rw [hN, ho, hq, ← hH]
    rfl)
  have he4 := Wt.enc_len (r : Int)
  have henc : Utf8.encode (r : Int) = ⟨(Lib.encodeRune (r : Int)).toArray⟩ := Sl.encode_eq _
  obtain ⟨E, hE⟩ : ∃ z, Lib.encodeRune (r : Int) = z := ⟨_, rfl⟩
  rw [hE] at HC he4 henc
  have hsH : (9223372036854775807 < 3 + H.length) = False := eq_false (by omega)
  have hsE : (9223372036854775807 < 2 + E.length) = False := eq_false (by omega)
  obtain ⟨R, hR⟩ : ∃ z, Wt.chr true (r : Int) = z := ⟨_, rfl⟩
  rw [hR] at HC ⊢
  clear ho hq hN hr hE hH hR
  cases N with
  | cons a l =>
    have hl : l.length + 1 ≤ 9 := hN9
    have hne : ((⟨(a :: l).toArray⟩ : ByteArray) = ⟨#[]⟩) = False := eq_false (fun e => by have := congrArg ByteArray.size e; simp [ByteArray.size] at this)
    have hs1 : (9223372036854775807 < 2 + (l.length + 1)) = False := eq_false (by omega)
    go_enter Tryz.func70, Tryz.ntmps70
    go_wp2_with fail
    refine (KN _).mono ?_
    rintro e w1 ⟨rfl, hb1⟩
    go_wp2_with fail
    refine (KN _).mono ?_
    rintro e w2 ⟨rfl, hb2⟩
    go_wp2_with fail
    go_ret
    refine ⟨?_, hb1.trans (hb2.mono hb1.size)⟩
    have := HC.out
    rw [if_pos (by simp)] at this
    rw [this]
    show Ending.returned (.string _) = _
    rw [← Wt.str_app]
  | nil =>
    cases o
    all_goals cases q
    all_goals
      go_enter Tryz.func70, Tryz.ntmps70
      go_wp2_with fail
      refine (KN _).mono ?_
      rintro e w1 ⟨rfl, hb1⟩
      go_wp2_with (first
        | (go_at_call 109; refine (KO _).mono ?_; rintro e w' ⟨rfl, rfl⟩)
        | (go_at_call 110; refine (KB _).mono ?_; rintro e w' ⟨rfl, rfl⟩)
        | (go_at_call 111; refine (KH _).mono ?_; rintro e w2 ⟨rfl, hb2⟩))
    all_goals
      go_ret
      refine ⟨?_, by first | exact hb1.trans (hb2.mono hb1.size) | exact hb1⟩
      have := HC.out
      simp at this
      rw [this]
      show Ending.returned (.string _) = _
      first | (congr 2; done) | (congr 2; apply ByteArray.ext; simp)
end Go.Proofs.YtikmebkfdpbidaaGreatDoor
namespace Go.Proofs.YtikmebkfdpbidaaGreatDoor
open Go.RowKit
set_option linter.unusedVariables false
set_option linter.unusedSimpArgs false

theorem Wt.strU_7 : Wt.strU 7 = [92, 97] ∧ Wt.strU 8 = [92, 98] ∧ Wt.strU 9 = [92, 116] ∧ Wt.strU 10 = [92, 110] ∧ Wt.strU 11 = [92, 118] ∧ Wt.strU 12 = [92, 102] ∧ Wt.strU 13 = [92, 114] ∧ Wt.strU 34 = [92, 34] ∧ Wt.strU 92 = [92, 92] := by decide
theorem Wt.strU_esc {r : Int} (h7 : ¬ (7 ≤ r ∧ r ≤ 13)) (h34 : r ≠ 34) (h92 : r ≠ 92) (ho : (Wt.odd r || decide (r = 8232) || decide (r = 65279)) = true) : Wt.strU r = Wt.esc r := by
  unfold Wt.strU
  rw [if_neg (by omega), if_neg (by omega), if_neg (by omega), if_neg (by omega), if_neg (by omega), if_neg (by omega), if_neg (by omega), if_neg h34, if_neg h92, if_pos ho]
theorem Wt.strU_enc {r : Int} (h7 : ¬ (7 ≤ r ∧ r ≤ 13)) (h34 : r ≠ 34) (h92 : r ≠ 92) (ho : (Wt.odd r || decide (r = 8232) || decide (r = 65279)) = false) : Wt.strU r = Lib.encodeRune r := by
  unfold Wt.strU
  rw [if_neg (by omega), if_neg (by omega), if_neg (by omega), if_neg (by omega), if_neg (by omega), if_neg (by omega), if_neg (by omega), if_neg h34, if_neg h92, if_neg (by rw [ho]; decide)]
theorem Wt.wr32 : IntKind.i32.wrap 0 = 0 ∧ IntKind.i32.wrap 1 = 1 ∧ IntKind.i32.wrap 2 = 2 ∧ IntKind.i32.wrap 3 = 3 ∧ IntKind.i32.wrap 4 = 4 ∧ IntKind.i32.wrap 5 = 5 ∧ IntKind.i32.wrap 6 = 6 ∧ IntKind.i32.wrap 7 = 7 := by decide
theorem Wt.size_cons (c : ByteArray) : (⟨#[92]⟩ ++ c : ByteArray).size = 1 + c.size := by simp; rfl
/-- What holds at each round of text's loop. -/
structure Wt.TxtRel (B b it : Nat) (bs : List Value) (s : ByteArray) (w : World) (pos : Nat) (acc : List UInt8) (wr : World) : Prop where
  at_ : Wr.At B b (.pointer (some ⟨b, 0, none⟩)) true (bs ++ Lib.byteCells acc) wr
  it_ : wr.heap[it]? = some (.stringIter s pos)
  kept : Wt.Kept B b w wr
  says : acc ++ ((Ru.runes (s.data.toList.drop pos)).flatMap Wt.strU ++ [34]) = Wt.str s.data.toList
  len : acc.length ≤ 1 + 9 * pos
  lo : B ≤ b ∧ b < w.heap.size ∧ w.heap.size ≤ it
/-- A character more. -/
theorem Wt.TxtRel.next {B b it : Nat} {bs : List Value} {s : ByteArray} {w : World} {pos : Nat} {acc : List UInt8} {wr w1 : World} (h : Wt.TxtRel B b it bs s w pos acc wr) (hp : pos < s.size) {u : List UInt8}
    (h1 : Wr.At B b (.pointer (some ⟨b, 0, none⟩)) true (bs ++ Lib.byteCells acc ++ Lib.byteCells u) w1) (k1 : Wt.Kept B b (wr.iterAt it s (pos + (Utf8.decode s pos).2)) w1) (hu : Wt.strU ((Utf8.decode s pos).1 : Int) = u) :
    Wt.TxtRel B b it bs s w (pos + (Utf8.decode s pos).2) (acc ++ u) w1 := by
  have hwd := Lib.decode_width_pos s pos hp
  have hlt : it < wr.heap.size := (Array.getElem?_eq_some_iff.1 h.it_).1
  have hb := h.lo
  refine ⟨by rw [← Wt.cells_app]; exact h1, k1.iter (Lib.iterAt_heap wr it s pos _ h.it_) (by omega), (h.kept.iterAt (by omega) hb.2.2 s _).trans k1, ?_, ?_, hb⟩
  · rw [← h.says, Wt.runes_at s pos hp, List.flatMap_cons, hu]
    simp
  · have := Wt.strU_len (Wt.decode_ok s pos hp)
    rw [hu] at this
    have := h.len
    rw [List.length_append]
    omega
set_option maxHeartbeats 4000000 in
set_option maxRecDepth 1000000 in
theorem Wt.text_any (B b : Nat) (m : Bool) (bs : List Value) (s : ByteArray) (w : World) (h : Wr.Is B b m bs w) (hd : Wt.Bits w) (hT : 5 < B) (hs : s.size ≤ 1048576) (hlen : bs.length + 16777216 ≤ 140737488355328) :
    Calls Tryz.prog 98 #[.pointer (some ⟨b, 0, none⟩), .string s] w fun e w' => e = .returned (.tuple #[]) ∧ (Wr.At B b (.pointer (some ⟨b, 0, none⟩)) m (bs ++ Lib.byteCells (if m = true then Wt.str s.data.toList else s.data.toList)) w' ∧ Wt.Kept B b w w') := by
  have hm := h.marked
  obtain ⟨hBb, hblt⟩ := h.blk
  cases m
  · go_enter Tryz.func98, Tryz.ntmps98
    go_wp2_with (go_at_call 45; refine (Wt.writeString B b false bs s _ h (by omega) (by omega)).mono ?_)
    rintro e w1 ⟨rfl, h1, k1⟩
    go_wp2
    refine bodyPost_ret (results_none rfl _ _ _) rfl ?_
    rw [Wt.strCells] at h1
    exact ⟨rfl, h1, k1⟩
  · go_enter Tryz.func98, Tryz.ntmps98
    go_wp2_with (go_at_call 100; refine (Wt.writeByte B b true bs 34 _ h (by omega) (by omega)).mono ?_)
    rintro e w1 ⟨rfl, h1, k1⟩
    have hz1 := k1.size
    have hit0 : (w1.alloc (.stringIter s 0)).heap[w1.heap.size]? = some (.stringIter s 0) := heap_alloc_new w1 _
    have H0 : Wt.TxtRel B b w1.heap.size bs s w 0 [34] (w1.alloc (.stringIter s 0)) :=
      ⟨h1.alloc _, hit0, k1.alloc (by omega) _, rfl, by simp, hBb, hblt, hz1⟩
    have HD := Lib.hid (fun w' (hk : Wt.Kept B b w w') => hd.kept hT hk)
    clear h hd h1 hit0
    go_wp2
    go_loopw [] (fun wr => ∃ (pos : Nat) (acc : List UInt8), Wt.TxtRel B b w1.heap.size bs s w pos acc wr) (fun wr => s.size - wr.iterPos w1.heap.size)
    case atStart => exact ⟨0, [34], H0⟩
    case round =>
      obtain ⟨pos, acc, hR⟩ := hrel
      have hit := hR.it_
      have hsz : w1.heap.size < wr.heap.size := (Array.getElem?_eq_some_iff.1 hit).1
      clear H0 hm
      by_cases hp : pos < s.size
      · have hwd := Lib.decode_width_pos s pos hp
        have hd1 := decode_le s pos
        have hok := Wt.decode_ok s pos hp
        have HN := Lib.hid (fun u w2 => hR.next (u := u) (w1 := w2) hp)
        have hAt := hR.at_.iterAt hit (pos + (Utf8.decode s pos).2)
        have hit2 := Lib.iterAt_heap wr w1.heap.size s pos (pos + (Utf8.decode s pos).2) hit
        have hnx : ∀ ty, (Instr.next (.pointer (some ⟨w1.heap.size, 0, none⟩)) true ty).run Tryz.prog wr = _ := fun ty => Lib.run_next_any_at wr w1.heap.size s pos ty hit hp
        have hkW := (hR.kept.iterAt (by omega) hz1 s (pos + (Utf8.decode s pos).2))
        have hal := hR.len
        obtain ⟨W, hW⟩ : ∃ z, wr.iterAt w1.heap.size s (pos + (Utf8.decode s pos).2) = z := ⟨_, rfl⟩
        obtain ⟨r, hr⟩ : ∃ z, (Utf8.decode s pos).1 = z := ⟨_, rfl⟩
        obtain ⟨n, hn⟩ : ∃ z, (Utf8.decode s pos).2 = z := ⟨_, rfl⟩
        rw [hW] at HN hAt hit2 hnx hkW
        rw [hr] at HN hok hd1 hnx
        rw [hn] at HN hwd hit2
        have hrb : r ≤ 1114111 := by unfold Ru.okR at hok; omega
        have hbW := HD.out W hkW
        have hms : s.size - wr.iterPos w1.heap.size = s.size - pos := by simp [World.iterPos, hit]
        have HM := Lib.hid (fun (w2 : World) (k2 : Wt.Kept B b W w2) => (show s.size - w2.iterPos w1.heap.size < s.size - wr.iterPos w1.heap.size by
          rw [hms]
          have := k2.iter hit2 (by omega)
          simp only [World.iterPos, this]
          omega))
        have hBW : B ≤ W.heap.size := Nat.le_trans (by omega) hkW.size
        have hal2 : (bs ++ Lib.byteCells acc).length + 100 ≤ 140737488355328 := by rw [List.length_append, Lib.byteCells_length]; omega
        clear hR hit hW hr hn hit2 hkW hms hd1 hal hwd hp
        have hcase : (r = 7 ∨ r = 8 ∨ r = 9 ∨ r = 10 ∨ r = 11 ∨ r = 12 ∨ r = 13) ∨ (r = 34 ∨ r = 92) ∨ (¬ (7 ≤ r ∧ r ≤ 13) ∧ r ≠ 34 ∧ r ≠ 92) := by omega
        rcases hcase with hcase | hcase | ⟨h7, h34, h92⟩
        · have KW : ∀ w3, Below W.heap.size W w3 → ∀ c : ByteArray, c.size = 1 → Calls Tryz.prog 45 #[.pointer (some ⟨b, 0, none⟩), .string (⟨#[92]⟩ ++ c)] w3 fun e w' => e = .returned (.tuple #[.int .i64 (⟨#[92]⟩ ++ c : ByteArray).size, .nilIface]) ∧ (Wr.At B b (.pointer (some ⟨b, 0, none⟩)) true (bs ++ Lib.byteCells acc ++ Lib.strCells (⟨#[92]⟩ ++ c)) w' ∧ Wt.Kept B b W w') := by
            intro w3 hb3 c hc
            refine (Wt.writeString B b true _ _ w3 (hAt.keptBelow hb3).is (by rw [Wt.size_cons, hc]; omega) (by have := hb3.size; omega)).mono ?_
            rintro e w4 ⟨rfl, h4, k4⟩
            exact ⟨rfl, h4, (Wt.Kept.below hb3 hBW).trans k4⟩
          have HW := Lib.hid KW
          clear KW hbW hAt
          obtain ⟨g0, g1, g2, g3, g4, g5, g6, g7⟩ := Wt.wr32
          rcases hcase with rfl | rfl | rfl | rfl | rfl | rfl | rfl
          all_goals
            go_wp2_with fail
            go_region_held3 (fun w' => W.heap.size ≤ w'.heap.size)
              (first | exact Nat.le_refl _ | exact hkeep)
              (first
                | (go_at_call 45
                   refine (HW.out W.drew (Below.drew (Below.refl _ _)) _ (by rfl)).mono ?_
                   rintro z2 w2 ⟨rfl, h2, k2⟩
                   have hkeep : W.heap.size ≤ w2.heap.size := k2.size))
            go_wp2_with fail
            exact ⟨⟨_, _, HN.out _ w2 h2 k2 rfl⟩, HM.out w2 k2⟩
        · have KW : ∀ c : ByteArray, c.size = 1 → Calls Tryz.prog 45 #[.pointer (some ⟨b, 0, none⟩), .string (⟨#[92]⟩ ++ c)] W fun e w' => e = .returned (.tuple #[.int .i64 (⟨#[92]⟩ ++ c : ByteArray).size, .nilIface]) ∧ (Wr.At B b (.pointer (some ⟨b, 0, none⟩)) true (bs ++ Lib.byteCells acc ++ Lib.strCells (⟨#[92]⟩ ++ c)) w' ∧ Wt.Kept B b W w') := by
            intro c hc
            exact Wt.writeString B b true _ _ W hAt.is (by rw [Wt.size_cons, hc]; omega) hBW
          have HW := Lib.hid KW
          clear KW hbW hAt
          rcases hcase with rfl | rfl
          all_goals
            go_wp2_with fail
            refine (HW.out _ (by rfl)).mono ?_
            rintro z2 w2 ⟨rfl, h2, k2⟩
            go_wp2_with fail
            exact ⟨⟨_, _, HN.out _ w2 h2 k2 rfl⟩, HM.out w2 k2⟩
        · have KH := Wt.hex_any B b true (bs ++ Lib.byteCells acc) r [92] [59] W hAt.is hrb hbW (by decide) (by decide) hal2
          have KR := Wt.writeRune B b true (bs ++ Lib.byteCells acc) (r : Int) (by omega) (by omega) W hAt.is (by omega) hBW
          rw [← Lib.byteCells_encodeRune] at KR
          have HH := Lib.hid KH
          have HR := Lib.hid KR
          have i34 : ((r : Int) == 34) = false := beq_eq_false_iff_ne.2 (by omega)
          have i92 : ((r : Int) == 92) = false := beq_eq_false_iff_ne.2 (by omega)
          have hI : ¬ (7 ≤ (r : Int) ∧ (r : Int) ≤ 13) := by omega
          have HU := Lib.hid (fun ho => Wt.strU_esc (r := (r : Int)) hI (by omega) (by omega) ho)
          have HV := Lib.hid (fun ho => Wt.strU_enc (r := (r : Int)) hI (by omega) (by omega) ho)
          have HE : Hid (Wt.esc (r : Int) = [92] ++ [120] ++ Wt.hex r ++ [59]) := Lib.hid (by simp [Wt.esc])
          have h713 : (r : Int) < 7 ∨ 13 < (r : Int) := by omega
          clear KH KR hbW hAt hI h7 h34 h92 hrb hok
          obtain ⟨o, ho⟩ : ∃ z, Wt.odd (r : Int) = z := ⟨_, rfl⟩
          obtain ⟨p, hp8⟩ : ∃ z, ((r : Int) == 8232) = z := ⟨_, rfl⟩
          obtain ⟨q, hq6⟩ : ∃ z, ((r : Int) == 65279) = z := ⟨_, rfl⟩
          have HO : Hid ((Wt.odd (r : Int) || decide ((r : Int) = 8232) || decide ((r : Int) = 65279)) = (o || p || q)) := Lib.hid (by rw [ho, ← hp8, ← hq6]; simp [Bool.beq_eq_decide_eq])
          rcases h713 with h713 | h713
          all_goals cases o
          all_goals cases p
          all_goals cases q
          all_goals
            go_wp2_with (first
              | (go_at_call 154; refine (Wt.odd_any _ _).mono ?_; rintro e w' ⟨rfl, rfl⟩)
              | (go_at_call 156; refine HH.out.mono ?_; rintro e w2 ⟨rfl, h2, k2⟩)
              | (go_at_call 46; refine HR.out.mono ?_; rintro e w2 ⟨rfl, h2, k2⟩))
          all_goals first | exact ⟨⟨_, _, HN.out _ w2 h2 k2 ((HU.out (HO.out.trans rfl)).trans HE.out)⟩, HM.out w2 k2⟩ | exact ⟨⟨_, _, HN.out _ w2 h2 k2 (HV.out (HO.out.trans rfl))⟩, HM.out w2 k2⟩
      · have hnx : ∀ ty, (Instr.next (.pointer (some ⟨w1.heap.size, 0, none⟩)) true ty).run Tryz.prog wr = _ := fun ty => Lib.run_next_end_at wr w1.heap.size s pos ty hit hp
        have hsay := hR.says
        rw [Wt.runes_end s pos hp] at hsay
        have hacc : acc ++ [34] = Wt.str s.data.toList := by simpa using hsay
        have hal : acc.length ≤ 9437186 := by
          have h1 := Wt.str_len s.data.toList
          have h2 := congrArg List.length hacc
          rw [List.length_append] at h2
          have h3 : s.data.toList.length = s.size := by simp
          simp only [List.length_cons, List.length_nil] at h2
          omega
        have KB := Wt.writeByte B b true (bs ++ Lib.byteCells acc) 34 wr hR.at_.is (by rw [List.length_append, Lib.byteCells_length]; omega) (by omega)
        have HB := Lib.hid KB
        have HK := Lib.hid hR.kept
        have HA := Lib.hid hacc
        clear KB hR hsay hacc hit hp
        go_wp2_with fail
        refine HB.out.mono ?_
        rintro e w2 ⟨rfl, h2, k2⟩
        go_wp2_with fail
        go_end0
        refine ⟨rfl, ?_, HK.out.trans k2⟩
        have h3 := Wt.cells_snoc bs acc 34
        rw [HA.out] at h3
        show Wr.At B b _ true (bs ++ Lib.byteCells (Wt.str s.data.toList)) w2
        rw [← h3]
        exact h2
end Go.Proofs.YtikmebkfdpbidaaGreatDoor
namespace Go.Proofs.YtikmebkfdpbidaaGreatDoor
open Go.RowKit
set_option linter.unusedVariables false
set_option linter.unusedSimpArgs false

/-- What holds at each round of the document's str. -/
structure Wt.StrRel (it : Nat) (s : ByteArray) (w : World) (pos : Nat) (acc : List UInt8) (wr : World) : Prop where
  it_ : wr.heap[it]? = some (.stringIter s pos)
  bw : Below it w wr
  says : acc ++ ((Ru.runes (s.data.toList.drop pos)).flatMap Wt.strU ++ [34]) = Wt.str s.data.toList
  len : acc.length ≤ 1 + 9 * pos
theorem Wt.StrRel.next {it : Nat} {s : ByteArray} {w : World} {pos : Nat} {acc : List UInt8} {wr w1 : World} (h : Wt.StrRel it s w pos acc wr) (hp : pos < s.size) {u : List UInt8}
    (hb : Below (wr.iterAt it s (pos + (Utf8.decode s pos).2)).heap.size (wr.iterAt it s (pos + (Utf8.decode s pos).2)) w1) (hu : Wt.strU ((Utf8.decode s pos).1 : Int) = u) :
    Wt.StrRel it s w (pos + (Utf8.decode s pos).2) (acc ++ u) w1 := by
  have hwd := Lib.decode_width_pos s pos hp
  have hlt : it < wr.heap.size := (Array.getElem?_eq_some_iff.1 h.it_).1
  have hz : (wr.iterAt it s (pos + (Utf8.decode s pos).2)).heap.size = wr.heap.size := Lib.iterAt_size _ _ _ _
  refine ⟨(hb.block it (by omega)).trans (Lib.iterAt_heap wr it s pos _ h.it_), (Lib.below_iterAt h.bw (Nat.le_refl _) s _).trans (hb.mono (by omega)), ?_, ?_⟩
  · rw [← h.says, Wt.runes_at s pos hp, List.flatMap_cons, hu]
    simp
  · have := Wt.strU_len (Wt.decode_ok s pos hp)
    rw [hu] at this
    have := h.len
    rw [List.length_append]
    omega
set_option maxHeartbeats 8000000 in
set_option maxRecDepth 1000000 in
theorem Wt.strR_any (s : ByteArray) (w : World) (hs : s.size ≤ 1048576) :
    Calls Tryz.prog 71 #[.string s] w fun e w' => e = .returned (.string ⟨(Wt.str s.data.toList).toArray⟩) ∧ Below w.heap.size w w' := by
  have H0 : Wt.StrRel w.heap.size s w 0 [34] (w.alloc (.stringIter s 0)) := ⟨heap_alloc_new w _, (Below.refl _ _).alloc (Nat.le_refl _) _, rfl, by simp⟩
  obtain ⟨R, hR⟩ : ∃ z, Wt.str s.data.toList = z := ⟨_, rfl⟩
  have HRR := Lib.hid hR
  rw [hR]
  clear hR
  go_enter Tryz.func71, Tryz.ntmps71
  go_wp2_with fail
  go_loopw [3] (fun v wr => ∃ (pos : Nat) (acc : List UInt8), v = .string ⟨acc.toArray⟩ ∧ Wt.StrRel w.heap.size s w pos acc wr) (fun _ wr => s.size - wr.iterPos w.heap.size)
  case atStart => exact ⟨0, [34], rfl, H0⟩
  case round =>
    obtain ⟨pos, acc, rfl, hR⟩ := hrel
    have hit := hR.it_
    clear H0
    by_cases hp : pos < s.size
    · have hwd := Lib.decode_width_pos s pos hp
      have hok := Wt.decode_ok s pos hp
      have HN := Lib.hid (fun u w2 => hR.next (u := u) (w1 := w2) hp)
      have hit2 := Lib.iterAt_heap wr w.heap.size s pos (pos + (Utf8.decode s pos).2) hit
      have hnx : ∀ ty, (Instr.next (.pointer (some ⟨w.heap.size, 0, none⟩)) true ty).run Tryz.prog wr = _ := fun ty => Lib.run_next_any_at wr w.heap.size s pos ty hit hp
      have hal := hR.len
      have hlt : w.heap.size < wr.heap.size := (Array.getElem?_eq_some_iff.1 hit).1
      have hzz : (wr.iterAt w.heap.size s (pos + (Utf8.decode s pos).2)).heap.size = wr.heap.size := Lib.iterAt_size _ _ _ _
      obtain ⟨W, hW⟩ : ∃ z, wr.iterAt w.heap.size s (pos + (Utf8.decode s pos).2) = z := ⟨_, rfl⟩
      obtain ⟨r, hr⟩ : ∃ z, (Utf8.decode s pos).1 = z := ⟨_, rfl⟩
      obtain ⟨n, hn⟩ : ∃ z, (Utf8.decode s pos).2 = z := ⟨_, rfl⟩
      rw [hW] at HN hit2 hnx hzz
      rw [hr] at HN hok hnx
      rw [hn] at HN hwd hit2
      have hrb : r ≤ 1114111 := by unfold Ru.okR at hok; omega
      have hms : s.size - wr.iterPos w.heap.size = s.size - pos := by simp [World.iterPos, hit]
      have HM := Lib.hid (fun (w2 : World) (hb : Below W.heap.size W w2) => (show s.size - w2.iterPos w.heap.size < s.size - wr.iterPos w.heap.size by
        rw [hms]
        have := (hb.block w.heap.size (by omega)).trans hit2
        simp only [World.iterPos, this]
        omega))
      have HBR := Lib.hid (Below.refl W.heap.size W)
      have KO := fun w' => Wt.oddR_any (r : Int) w'
      have KH := fun w' => Wt.hexR_any r w' hrb
      have hl6 := Wt.hex_len hrb
      obtain ⟨H, hH⟩ : ∃ z, Wt.hex r = z := ⟨_, rfl⟩
      rw [hH] at KH hl6
      have henc : Utf8.encode (r : Int) = ⟨(Lib.encodeRune (r : Int)).toArray⟩ := Sl.encode_eq _
      have he4 := Wt.enc_len (r : Int)
      have hacc : acc.length ≤ 9437190 := by omega
      have z1 : (9223372036854775807 < acc.length + 2) = False := eq_false (by omega)
      have z2 : (9223372036854775807 < 2 + H.length) = False := eq_false (by omega)
      have z3 : (9223372036854775807 < 2 + H.length + 1) = False := eq_false (by omega)
      have z4 : (9223372036854775807 < acc.length + (2 + H.length + 1)) = False := eq_false (by omega)
      have HHH := Lib.hid hH
      clear hR hit hW hr hn hit2 hms hal hwd hp hlt hzz hH
      have hcase : (r = 34 ∨ r = 92 ∨ r = 7 ∨ r = 8 ∨ r = 9 ∨ r = 10 ∨ r = 11 ∨ r = 12 ∨ r = 13) ∨ (¬ (7 ≤ r ∧ r ≤ 13) ∧ r ≠ 34 ∧ r ≠ 92) := by omega
      rcases hcase with hcase | ⟨h7, h34, h92⟩
      · clear KH KO henc
        rcases hcase with rfl | rfl | rfl | rfl | rfl | rfl | rfl | rfl | rfl
        all_goals
          go_wp2_with fail
          exact ⟨⟨_, _, by rw [show ∀ (a b : UInt8), (⟨#[a, b]⟩ : ByteArray) = ⟨([a, b] : List UInt8).toArray⟩ from fun a b => rfl, Wt.str_app]; rfl, HN.out _ W HBR.out rfl⟩, HM.out W HBR.out⟩
      · obtain ⟨E, hE⟩ : ∃ z, Lib.encodeRune (r : Int) = z := ⟨_, rfl⟩
        rw [hE] at henc he4
        have z5 : (9223372036854775807 < acc.length + E.length) = False := eq_false (by omega)
        have i34 : ((r : Int) == 34) = false := beq_eq_false_iff_ne.2 (by omega)
        have i92 : ((r : Int) == 92) = false := beq_eq_false_iff_ne.2 (by omega)
        have i7 : ((r : Int) == 7) = false := beq_eq_false_iff_ne.2 (by omega)
        have i8 : ((r : Int) == 8) = false := beq_eq_false_iff_ne.2 (by omega)
        have i9 : ((r : Int) == 9) = false := beq_eq_false_iff_ne.2 (by omega)
        have i10 : ((r : Int) == 10) = false := beq_eq_false_iff_ne.2 (by omega)
        have i11 : ((r : Int) == 11) = false := beq_eq_false_iff_ne.2 (by omega)
        have i12 : ((r : Int) == 12) = false := beq_eq_false_iff_ne.2 (by omega)
        have i13 : ((r : Int) == 13) = false := beq_eq_false_iff_ne.2 (by omega)
        have hI : ¬ (7 ≤ (r : Int) ∧ (r : Int) ≤ 13) := by omega
        obtain ⟨o, ho⟩ : ∃ z, Wt.odd (r : Int) = z := ⟨_, rfl⟩
        obtain ⟨p, hp8⟩ : ∃ z, ((r : Int) == 8232) = z := ⟨_, rfl⟩
        obtain ⟨q, hq6⟩ : ∃ z, ((r : Int) == 65279) = z := ⟨_, rfl⟩
        have hO : (Wt.odd (r : Int) || decide ((r : Int) = 8232) || decide ((r : Int) = 65279)) = (o || p || q) := by rw [ho, ← hp8, ← hq6]; simp [Bool.beq_eq_decide_eq]
        have HU : Hid ((o || p || q) = true → Wt.strU (r : Int) = [92, 120] ++ H ++ [59]) := Lib.hid (fun e => by rw [Wt.strU_esc hI (by omega) (by omega) (hO.trans e)]; unfold Wt.esc; rw [Int.toNat_natCast, HHH.out, List.append_assoc])
        have HV : Hid ((o || p || q) = false → Wt.strU (r : Int) = E) := Lib.hid (fun e => by rw [Wt.strU_enc hI (by omega) (by omega) (hO.trans e)]; exact hE)
        rw [ho] at KO
        have HS1 : Hid ((⟨acc.toArray⟩ : ByteArray) ++ ((⟨#[92, 120]⟩ : ByteArray) ++ (⟨H.toArray⟩ : ByteArray) ++ (⟨#[59]⟩ : ByteArray)) = ⟨(acc ++ ([92, 120] ++ H ++ [59])).toArray⟩) := Lib.hid (by
          rw [show (⟨#[92, 120]⟩ : ByteArray) = ⟨([92, 120] : List UInt8).toArray⟩ from rfl, show (⟨#[59]⟩ : ByteArray) = ⟨([59] : List UInt8).toArray⟩ from rfl, Wt.str_app, Wt.str_app, Wt.str_app])
        have HS2 : Hid ((⟨acc.toArray⟩ : ByteArray) ++ (⟨E.toArray⟩ : ByteArray) = ⟨(acc ++ E).toArray⟩) := Lib.hid (Wt.str_app _ _)
        clear hO ho hE hI h7 h34 h92 hok hrb
        cases o
        all_goals cases p
        all_goals cases q
        all_goals
          go_wp2_with (first
            | (go_at_call 109; refine (KO _).mono ?_; rintro e w' ⟨rfl, hw⟩; have hw2 := hw.symm; subst hw2; clear hw)
            | (go_at_call 111; refine (KH _).mono ?_; rintro e w2 ⟨rfl, hb2⟩))
        all_goals first
          | exact ⟨⟨_, _, by rw [HS1.out], HN.out _ w2 hb2 (HU.out rfl)⟩, HM.out w2 hb2⟩
          | exact ⟨⟨_, _, by rw [HS2.out], HN.out _ _ HBR.out (HV.out rfl)⟩, HM.out _ HBR.out⟩
    · have hnx : ∀ ty, (Instr.next (.pointer (some ⟨w.heap.size, 0, none⟩)) true ty).run Tryz.prog wr = _ := fun ty => Lib.run_next_end_at wr w.heap.size s pos ty hit hp
      have hsay := hR.says
      rw [Wt.runes_end s pos hp] at hsay
      have hacc : acc ++ [34] = R := by rw [← HRR.out]; simpa using hsay
      have hal : acc.length ≤ 9437186 := by
        have h1 := Wt.str_len s.data.toList
        have h2 := congrArg List.length hacc
        rw [← HRR.out, List.length_append] at h2
        have h3 : s.data.toList.length = s.size := by simp
        simp only [List.length_cons, List.length_nil] at h2
        omega
      have z1 : (9223372036854775807 < acc.length + 1) = False := eq_false (by omega)
      have HB := Lib.hid hR.bw
      have HA := Lib.hid hacc
      clear hR hsay hacc hit hp
      go_wp2_with fail
      go_ret
      refine ⟨?_, HB.out⟩
      rw [← HA.out, ← Wt.str_app]
      rfl
end Go.Proofs.YtikmebkfdpbidaaGreatDoor
namespace Go.Proofs.YtikmebkfdpbidaaGreatDoor
open Go.RowKit
set_option linter.unusedVariables false

theorem Wt.infoRune : (Tryz.prog.info? 21).map (fun i => (i.zero, i.size, i.bytes)) = some (some (.int .i32 0), 1, 4) := by kernel_rfl

set_option maxHeartbeats 4000000 in
set_option maxRecDepth 1000000 in
theorem Wt.runesR_any (s : ByteArray) (w : World) (hs : s.size ≤ 8796093022208) :
    Calls Tryz.prog 112 #[.string s] w fun e w' => ∃ v, e = .returned v ∧ w'.ownsRow w.heap.size 21 1 v (Ru.runes s.data.toList).length ((Ru.runes s.data.toList).map (Value.int .i32)) ∧ Below w.heap.size w w' := by
  obtain ⟨i0, hi, hz0, hz1, hz2⟩ := info_parts Wt.infoRune
  go_enter Tryz.func112, Tryz.ntmps112
  go_wp2
  go_loopw [3] (fun v wr => ∃ (pos : Nat) (xs : List Int), wr.ownsRow w.heap.size 21 1 v xs.length (xs.map (Value.int .i32)) ∧ wr.heap[w.heap.size + 1]? = some (.stringIter s pos) ∧ Below w.heap.size w wr ∧ xs ++ Ru.runes (s.data.toList.drop pos) = Ru.runes s.data.toList ∧ xs.length ≤ pos) (fun _ wr => s.size - wr.iterPos (w.heap.size + 1))
  case atStart =>
    refine ⟨0, [], Sl.own_below (Sl.own_empty w 21) ((Below.refl _ _).alloc (Nat.le_refl _) _) (Nat.le_refl _), ?_, ((Below.refl _ w).alloc (Nat.le_refl _) _).alloc (by simp) _, rfl, by simp⟩
    have := World.iter_heap (w.alloc (.cells #[] 21)) s 0
    simpa using this
  case round =>
    obtain ⟨pos, xs, hown, hit, hbw, hacc, hal⟩ := hrel
    have hsz : w.heap.size + 1 < wr.heap.size := (Array.getElem?_eq_some_iff.1 hit).1
    have hacc := Lib.hid hacc
    by_cases hp : pos < s.size
    · have hnx : ∀ ty, (Instr.next (.pointer (some ⟨w.heap.size + 1, 0, none⟩)) true ty).run Tryz.prog wr = _ := fun ty => Lib.run_next_any_at wr (w.heap.size + 1) s pos ty hit hp
      have hwd := Lib.decode_width_pos s pos hp
      have hd1 := decode_le s pos
      have hown2 := Sl.own_iterAt hown hit (pos + (Utf8.decode s pos).2)
      have hit2 := Lib.iterAt_heap wr (w.heap.size + 1) s pos (pos + (Utf8.decode s pos).2) hit
      have hbw2 := Lib.below_iterAt hbw (k := w.heap.size + 1) (by omega) s (pos + (Utf8.decode s pos).2)
      have hsz2 : w.heap.size + 1 < (wr.iterAt (w.heap.size + 1) s (pos + (Utf8.decode s pos).2)).heap.size := by rw [Lib.iterAt_size]; omega
      have hst := Lib.hid (Wt.runes_at s pos hp)
      clear hown hbw
      generalize wr.iterAt (w.heap.size + 1) s (pos + (Utf8.decode s pos).2) = W2 at *
      go_wp2_with (at_builtin; refine wpList_append_own _ rfl _ _ 166 rfl w.heap.size 21 i0 (.int .i32 0) 1 4 Tryz.underlying166 hi hz0 hz1 hz2 rfl (by decide) _ _ _ rfl (hown2.alloc _) ⟨W2.heap.size, 0, none⟩ 1 1 [.int .i32 (Utf8.decode s pos).1] rfl rfl (Sl.one_new _ _ _) ?c2 ?c3 ?c4 ?c5 ?_)
      case c2 => intro u hu; simp at hu; subst hu; rfl
      case c3 => unfold maxLen; omega
      case c4 => omega
      case c5 => simp; omega
      intro v' w1 hown' hgrow _
      have hit3 : w1.heap[w.heap.size + 1]? = some (.stringIter s (pos + (Utf8.decode s pos).2)) := Sl.iter_grown (hown2.alloc _) hgrow (by rw [Lib.alloc_old W2 _ _ hsz2]; exact hit2)
      have hbw3 := Sl.below_own (hbw2.alloc (by omega) _) (hown2.alloc _) hgrow (Nat.le_refl _) (by simp; omega)
      clear hown2 hit2 hbw2 hnx hgrow
      go_wp2
      go_roundw
      case rel =>
        refine ⟨pos + (Utf8.decode s pos).2, xs ++ [((Utf8.decode s pos).1 : Int)], by simpa using hown', hit3, hbw3, ?_, by simp; omega⟩
        rw [← hacc.out, hst.out, List.append_assoc]
        rfl
      case measure =>
        simp only [World.iterPos, hit3, hit]
        omega
    · have hnx : ∀ ty, (Instr.next (.pointer (some ⟨w.heap.size + 1, 0, none⟩)) true ty).run Tryz.prog wr = _ := fun ty => Lib.run_next_end_at wr (w.heap.size + 1) s pos ty hit hp
      go_wp2
      go_ret
      have hacc2 := hacc.out
      rw [Wt.runes_end s pos hp, List.append_nil] at hacc2
      rw [← hacc2]
      exact ⟨_, rfl, hown, hbw⟩

theorem Wt.head_rune {l : List UInt8} {r : Int} {ys : List Int} (h : Ru.runes l = r :: ys) (hr : r < 128) : ∃ c t, l = c :: t ∧ (c.toNat : Int) = r ∧ ys = Ru.runes t := by
  cases l with
  | nil => rw [Ru.runes_nil] at h; cases h
  | cons c t =>
    have h0 : (0 : Nat) < (⟨(c :: t).toArray⟩ : ByteArray).size := by show 0 < (List.toArray _).size; simp
    have hd := Ru.decode_drop ⟨(c :: t).toArray⟩ 0
    have hl : (⟨(c :: t).toArray⟩ : ByteArray).data.toList.drop 0 = c :: t := by simp
    rw [hl] at hd
    rw [Ru.runes_step _ (by simp), ← hd] at h
    simp only [List.cons.injEq] at h
    have hc : (⟨(c :: t).toArray⟩ : ByteArray)[0]'h0 = c := rfl
    by_cases ha : c.toNat < 128
    · have h2 := decode_ascii ⟨(c :: t).toArray⟩ 0 h0 (by rw [hc]; exact ha)
      rw [h2] at h
      refine ⟨c, t, rfl, by rw [← h.1, hc], ?_⟩
      rw [← h.2]
      rfl
    · have h2 := (decode_high ⟨(c :: t).toArray⟩ 0 h0 (by rw [hc]; omega)).1
      omega
theorem Wt.runes_asc (c : UInt8) (t : List UInt8) (h : c.toNat < 128) : Ru.runes (c :: t) = (c.toNat : Int) :: Ru.runes t := by
  have h0 : (0 : Nat) < (⟨(c :: t).toArray⟩ : ByteArray).size := by show 0 < (List.toArray _).size; simp
  have hd := Ru.decode_drop ⟨(c :: t).toArray⟩ 0
  have hl : (⟨(c :: t).toArray⟩ : ByteArray).data.toList.drop 0 = c :: t := by simp
  rw [hl] at hd
  have h2 := decode_ascii ⟨(c :: t).toArray⟩ 0 h0 h
  rw [Ru.runes_step _ (by simp), ← hd, h2]
  rfl
/-- A symbol's text, by its characters. -/
theorem Wt.symL_runes (l : List UInt8) : (∃ ys, Ru.runes l = 45 :: 62 :: ys ∧ Wt.symL l = [45, 62] ++ Wt.syms false ys) ∨ ((∀ ys, Ru.runes l ≠ 45 :: 62 :: ys) ∧ Wt.symL l = Wt.syms true (Ru.runes l)) := by
  by_cases h : ∃ ys, Ru.runes l = 45 :: 62 :: ys
  · obtain ⟨ys, h⟩ := h
    obtain ⟨c, t, rfl, hc, h2⟩ := Wt.head_rune h (by decide)
    obtain ⟨d, u, rfl, hd, h3⟩ := Wt.head_rune h2.symm (by decide)
    have e1 : c = 45 := UInt8.toNat.inj (by show c.toNat = 45; omega)
    have e2 : d = 62 := UInt8.toNat.inj (by show d.toNat = 62; omega)
    subst e1 e2
    exact .inl ⟨ys, h, by rw [h3]; rfl⟩
  · refine .inr ⟨fun ys e => h ⟨ys, e⟩, ?_⟩
    unfold Wt.symL
    split
    · rename_i t
      exact absurd ⟨Ru.runes t, by rw [Wt.runes_asc 45 _ (by decide), Wt.runes_asc 62 _ (by decide)]; rfl⟩ h
    · rfl
end Go.Proofs.YtikmebkfdpbidaaGreatDoor
namespace Go.Proofs.YtikmebkfdpbidaaGreatDoor
open Go.RowKit
set_option linter.unusedVariables false
set_option linter.unusedSimpArgs false

theorem Wt.indexByte_no : ∀ (l : List UInt8) (c : UInt8), (∀ x ∈ l, x.toNat < 128) → 128 ≤ c.toNat → Lib.indexByte l c = -1
  | [], c, _, _ => rfl
  | x :: l, c, hl, hc => by
    have hx := hl x (by simp)
    have hne : (x == c) = false := beq_eq_false_iff_ne.2 (fun e => by rw [e] at hx; omega)
    rw [Lib.indexByte, hne, Wt.indexByte_no l c (fun y hy => hl y (by simp [hy])) hc]
    rfl
theorem Wt.ib (s : ByteArray) (c : UInt8) (hs : ∀ x ∈ s.data.toList, x.toNat < 128) (hc : 128 ≤ c.toNat) (w : World) :
    Calls Tryz.prog 235 #[.string s, .int .u8 c.toNat] w fun e w' => e = .returned (.int .i64 (-1)) ∧ w' = w := by
  refine (Tryz.strings_IndexByte s c.toNat w).mono ?_
  rintro e w' ⟨rfl, rfl⟩
  refine ⟨?_, rfl⟩
  have : ((c.toNat : Int).toNat.toUInt8) = c := by simp
  rw [this, Wt.indexByte_no _ _ hs hc]
def Wt.cA : ByteArray := ⟨#[33, 36, 37, 38, 42, 47, 58, 60, 61, 62, 63, 94, 95, 126]⟩
def Wt.cB : ByteArray := ⟨#[43, 45, 46, 64]⟩
/-- The encoding of a character beyond ASCII. -/
theorem Wt.enc_hi {r : Int} (h : Ru.okR r) (h1 : 128 ≤ r) : (∃ a c : UInt8, Lib.encodeRune r = [a, c] ∧ 128 ≤ c.toNat) ∨ (∃ a b c : UInt8, Lib.encodeRune r = [a, b, c] ∧ 128 ≤ c.toNat) ∨ (∃ a b d c : UInt8, Lib.encodeRune r = [a, b, d, c] ∧ 128 ≤ c.toNat) := by
  unfold Ru.okR at h
  have hlow : ∀ z : Int, 0 ≤ z → 128 ≤ ((128 + z % 64).toNat.toUInt8).toNat := fun z hz => by
    have := Ru.byteNat (128 + z % 64) (by omega) (by omega)
    rw [this]
    omega
  unfold Lib.encodeRune
  by_cases c2 : r ≤ 2047
  · rw [Lib.encodeRuneZ_two (by omega) c2]
    exact .inl ⟨_, _, rfl, hlow r (by omega)⟩
  by_cases c3 : r ≤ 65535
  · rw [Lib.encodeRuneZ_three (by omega)]
    exact .inr (.inl ⟨_, _, _, rfl, hlow r (by omega)⟩)
  · rw [Lib.encodeRuneZ_four (by omega) (by omega)]
    exact .inr (.inr ⟨_, _, _, _, rfl, hlow r (by omega)⟩)
theorem Wt.wr64 : IntKind.i64.wrap 0 = 0 ∧ IntKind.i64.wrap 1 = 1 ∧ IntKind.i64.wrap 2 = 2 ∧ IntKind.i64.wrap 3 = 3 ∧ IntKind.i64.wrap 4 = 4 := by decide
set_option maxHeartbeats 4000000 in
set_option maxRecDepth 1000000 in
theorem Wt.indexRune_hi (s : ByteArray) (hs : s = Wt.cA ∨ s = Wt.cB) (r : Int) (h : Ru.okR r) (h1 : 128 ≤ r) (h2 : r ≠ 65533) (w : World) :
    Calls Tryz.prog 224 #[.string s, .int .i32 r] w fun e w' => e = .returned (.int .i64 (-1)) ∧ Below w.heap.size w w' := by
  have hne : ((r : Int) == 65533) = false := beq_eq_false_iff_ne.2 h2
  have hr2 : r ≤ 2147483647 := by unfold Ru.okR at h; omega
  have hv : Lib.validRune r = true := by
    unfold Ru.okR at h
    unfold Lib.validRune
    simp only [Bool.or_eq_true, Bool.and_eq_true, decide_eq_true_eq]
    omega
  obtain ⟨g0, g1, g2, g3, g4⟩ := Wt.wr64
  have KV := fun w' => Tryz.utf8_ValidRune r w'
  rw [hv] at KV
  have henc := Sl.encode_eq r
  rcases Wt.enc_hi h h1 with ⟨a, c, e, hc⟩ | ⟨a, b, c, e, hc⟩ | ⟨a, b, d, c, e, hc⟩
  all_goals
    rw [e] at henc
    have d36 : ((36 : Int) = (c.toNat : Int)) = False := eq_false (by omega)
    have e36 : ((36 : Int) != (c.toNat : Int)) = true := bne_iff_ne.2 (by omega)
    have d37 : ((37 : Int) = (c.toNat : Int)) = False := eq_false (by omega)
    have e37 : ((37 : Int) != (c.toNat : Int)) = true := bne_iff_ne.2 (by omega)
    have d38 : ((38 : Int) = (c.toNat : Int)) = False := eq_false (by omega)
    have e38 : ((38 : Int) != (c.toNat : Int)) = true := bne_iff_ne.2 (by omega)
    have d45 : ((45 : Int) = (c.toNat : Int)) = False := eq_false (by omega)
    have e45 : ((45 : Int) != (c.toNat : Int)) = true := bne_iff_ne.2 (by omega)
    have d46 : ((46 : Int) = (c.toNat : Int)) = False := eq_false (by omega)
    have e46 : ((46 : Int) != (c.toNat : Int)) = true := bne_iff_ne.2 (by omega)
    have d64 : ((64 : Int) = (c.toNat : Int)) = False := eq_false (by omega)
    have e64 : ((64 : Int) != (c.toNat : Int)) = true := bne_iff_ne.2 (by omega)
    have KI := Lib.hid (fun (s : ByteArray) (hs : ∀ x ∈ s.data.toList, x.toNat < 128) w' => Wt.ib s c hs hc w')
    clear e hc
    rcases hs with rfl | rfl
  all_goals clear h hv
  all_goals first | unfold Wt.cA | unfold Wt.cB
  all_goals
    go_enter Tryz.func224, Tryz.ntmps224
    go_wp2_with (go_at_call 236; refine (KV _).mono ?_; rintro e w' ⟨rfl, rfl⟩)
    go_step3
    go_wp2_with fail
    refine wp_loop_rounds 1 ?_
    rw [rounds_succ]
    go_wp2_with fail
    go_step3
    go_wp2_with fail
    go_region
    all_goals go_wp2_with fail
    rotate_left
    · rename_i hx _ _
      first
        | exact absurd ((show ((36 : Int) != (c.toNat : Int)) = false from hx).symm.trans e36) (by decide)
        | exact absurd ((show ((37 : Int) != (c.toNat : Int)) = false from hx).symm.trans e37) (by decide)
        | exact absurd ((show ((38 : Int) != (c.toNat : Int)) = false from hx).symm.trans e38) (by decide)
        | exact absurd ((show ((45 : Int) != (c.toNat : Int)) = false from hx).symm.trans e45) (by decide)
        | exact absurd ((show ((46 : Int) != (c.toNat : Int)) = false from hx).symm.trans e46) (by decide)
        | exact absurd ((show ((64 : Int) != (c.toNat : Int)) = false from hx).symm.trans e64) (by decide)
    go_region_held3 (fun wx => True) (trivial)
      (first
        | (go_at_call 235
           refine (KI.out _ (by decide) _).mono ?_
           rintro z2 w2 ⟨rfl, hw2⟩
           subst hw2))
    go_wp2_with fail
    rw [Exit.noGoto_ret]
    repeat (first | rw [Exit.noGoto_ret] | (simp only [Exit.inBlock, Exit.then]))
    go_ret
    exact ⟨rfl, Below.drew (Below.drew (Below.refl _ _))⟩
set_option maxHeartbeats 4000000 in
set_option maxRecDepth 1000000 in
theorem Wt.indexRune_bad (s : ByteArray) (hs : ∀ i (h : i < s.size), (s[i]'h).toNat < 128) (w : World) :
    Calls Tryz.prog 224 #[.string s, .int .i32 65533] w fun e w' => e = .returned (.int .i64 (-1)) ∧ Below w.heap.size w w' := by
  have H0 : (w.alloc (.stringIter s 0)).heap[w.heap.size]? = some (.stringIter s 0) := heap_alloc_new w _
  have HB0 : Below w.heap.size w (w.alloc (.stringIter s 0)) := (Below.refl _ _).alloc (Nat.le_refl _) _
  have HS := Lib.hid hs
  clear hs
  go_enter Tryz.func224, Tryz.ntmps224
  go_wp2_with fail
  go_loopw [] (fun wr => ∃ (pos : Nat), wr.heap[w.heap.size]? = some (.stringIter s pos) ∧ Below w.heap.size w wr) (fun wr => s.size - wr.iterPos w.heap.size)
  case atStart => exact ⟨0, H0, HB0⟩
  case round =>
    obtain ⟨pos, hit, hb⟩ := hrel
    clear H0 HB0
    by_cases hp : pos < s.size
    · have ha := HS.out pos hp
      have hnx : ∀ ty, (Instr.next (.pointer (some ⟨w.heap.size, 0, none⟩)) true ty).run Tryz.prog wr = _ := fun ty => Lib.run_next_ascii_at wr w.heap.size s pos ty hit hp ha
      have hit2 := Lib.iterAt_heap wr w.heap.size s pos (pos + 1) hit
      have hb2 := Lib.below_iterAt hb (k := w.heap.size) (Nat.le_refl _) s (pos + 1)
      obtain ⟨v, hv⟩ : ∃ z, (s[pos]'hp).toNat = z := ⟨_, rfl⟩
      rw [hv] at hnx ha
      have hne : ((v : Int) == 65533) = false := beq_eq_false_iff_ne.2 (by omega)
      obtain ⟨W, hW⟩ : ∃ z, wr.iterAt w.heap.size s (pos + 1) = z := ⟨_, rfl⟩
      rw [hW] at hnx hit2 hb2
      have HM : Hid (s.size - W.iterPos w.heap.size < s.size - wr.iterPos w.heap.size) := Lib.hid (by simp only [World.iterPos, hit2, hit]; omega)
      have HI := Lib.hid (And.intro hit2 hb2)
      clear hit hb hit2 hb2 hv hW ha
      go_wp2_with fail
      exact ⟨⟨_, HI.out⟩, HM.out⟩
    · have hnx : ∀ ty, (Instr.next (.pointer (some ⟨w.heap.size, 0, none⟩)) true ty).run Tryz.prog wr = _ := fun ty => Lib.run_next_end_at wr w.heap.size s pos ty hit hp
      go_wp2_with fail
      go_ret
      exact ⟨rfl, hb⟩
end Go.Proofs.YtikmebkfdpbidaaGreatDoor
namespace Go.Proofs.YtikmebkfdpbidaaGreatDoor
open Go.RowKit

theorem Ch.ret3 {a b c d : Int} {x y : Bool} (p : Int × Int × Bool) (hp : p = (c, d, y)) (h1 : a = c) (h2 : b = d) (h3 : x = y) :
    Ending.returned (.tuple #[.int .i32 a, .int .i32 b, .bool x]) = .returned (.tuple #[.int .i32 p.1, .int .i32 p.2.1, .bool p.2.2]) := by
  subst hp h1 h2 h3; rfl

set_option maxHeartbeats 4000000 in
set_option maxRecDepth 100000 in
theorem Ch.pair_any (r : Int) (w : World) :
    Calls Tryz.prog 83 #[.int .i32 r] w fun e w' => e = .returned (.tuple #[.int .i32 (Ch.pairZ r).1, .int .i32 (Ch.pairZ r).2.1, .bool (Ch.pairZ r).2.2]) ∧ w = w' := by
  go_enter Tryz.func83, Tryz.ntmps83
  go_wp2
  all_goals
    go_ret3
    refine ⟨?_, rfl⟩
    simp only [bne_iff_ne, bne_eq_false_iff_eq, ne_eq] at *
    first
      | exact Ch.ret3 _ (Ch.pairZ_1 (by unfold Ch.p1; omega)) rfl rfl rfl
      | exact Ch.ret3 _ (Ch.pairZ_2 (by unfold Ch.p1; omega) (by unfold Ch.p2; omega)) rfl rfl rfl
      | exact Ch.ret3 _ (Ch.pairZ_3 (by unfold Ch.p1; omega) (by unfold Ch.p2; omega) (by unfold Ch.p3; omega)) rfl rfl rfl
      | exact Ch.ret3 _ (Ch.pairZ_4 (by unfold Ch.p1; omega) (by unfold Ch.p2; omega) (by unfold Ch.p3; omega) (by unfold Ch.p4; omega)) rfl rfl rfl
      | exact Ch.ret3 _ (Ch.pairZ_5 (by unfold Ch.p1; omega) (by unfold Ch.p2; omega) (by unfold Ch.p3; omega) (by unfold Ch.p4; omega) (by unfold Ch.p5; omega)) (Ch.or_1 _ (by omega) (by omega)) (Ch.andNot_1 _ (by omega) (by omega)) rfl
      | exact Ch.ret3 _ (Ch.pairZ_6 (by unfold Ch.p1; omega) (by unfold Ch.p2; omega) (by unfold Ch.p3; omega) (by unfold Ch.p4; omega) (by unfold Ch.p5; omega) (by unfold Ch.p6; omega)) (by rw [Ch.and_1 _ (by omega) (by omega)]; unfold wrap32; omega) (by rw [Ch.and_1 _ (by omega) (by omega)]; unfold wrap32; omega) rfl
      | exact Ch.ret3 _ (Ch.pairZ_0 (by unfold Ch.p1; omega) (by unfold Ch.p2; omega) (by unfold Ch.p3; omega) (by unfold Ch.p4; omega) (by unfold Ch.p5; omega) (by unfold Ch.p6; omega)) rfl rfl rfl

end Go.Proofs.YtikmebkfdpbidaaGreatDoor
namespace Go.Proofs.YtikmebkfdpbidaaGreatDoor
open Go.RowKit

theorem Ch.retI {k : IntKind} {a b : Int} (h : a = b) : Ending.returned (.int k a) = .returned (.int k b) := by rw [h]
theorem Ch.retB {a b : Bool} (h : a = b) : Ending.returned (.bool a) = .returned (.bool b) := by rw [h]

set_option maxHeartbeats 1000000 in
theorem Ch.up_any (r : Int) (w : World) :
    Calls Tryz.prog 48 #[.int .i32 r] w fun e w' => e = .returned (.int .i32 (Ch.upZ r)) ∧ w = w' := by
  go_enter Tryz.func48, Tryz.ntmps48
  go_wp2_with (go_at_call 83; refine (Ch.pair_any _ _).mono ?_; rintro e w' ⟨rfl, rfl⟩)
  all_goals
    go_ret
    refine ⟨?_, rfl⟩
    simp_all [Ch.upZ]

set_option maxHeartbeats 1000000 in
theorem Ch.down_any (r : Int) (w : World) :
    Calls Tryz.prog 47 #[.int .i32 r] w fun e w' => e = .returned (.int .i32 (Ch.downZ r)) ∧ w = w' := by
  go_enter Tryz.func47, Tryz.ntmps47
  go_wp2_with (go_at_call 83; refine (Ch.pair_any _ _).mono ?_; rintro e w' ⟨rfl, rfl⟩)
  all_goals
    go_ret
    refine ⟨?_, rfl⟩
    simp_all [Ch.downZ]

set_option maxHeartbeats 1000000 in
theorem Ch.letter_any (r : Int) (w : World) :
    Calls Tryz.prog 199 #[.int .i32 r] w fun e w' => e = .returned (.bool (Ch.letterB r)) ∧ w = w' := by
  go_enter Tryz.func199, Tryz.ntmps199
  go_wp2_with (go_at_call 83; refine (Ch.pair_any _ _).mono ?_; rintro e w' ⟨rfl, rfl⟩)
  all_goals
    go_ret
    refine ⟨?_, rfl⟩
    simp_all [Ch.letterB, Ch.oddLetter]

end Go.Proofs.YtikmebkfdpbidaaGreatDoor
namespace Go.Proofs.YtikmebkfdpbidaaGreatDoor
open Go.RowKit
set_option linter.unusedVariables false
set_option linter.unusedSimpArgs false

def Wt.inA (r : Int) : Bool := decide (r = 33) || decide (r = 36) || decide (r = 37) || decide (r = 38) || decide (r = 42) || decide (r = 47) || decide (r = 58) || decide (r = 60) || decide (r = 61) || decide (r = 62) || decide (r = 63) || decide (r = 94) || decide (r = 95) || decide (r = 126)
def Wt.inB (r : Int) : Bool := decide (r = 43) || decide (r = 45) || decide (r = 46) || decide (r = 64)
set_option maxRecDepth 100000 in
theorem Wt.tabA : ∀ n : Fin 128, decide (0 ≤ Lib.indexByte Wt.cA.data.toList ((n.val : Int).toNat.toUInt8)) = Wt.inA (n.val : Int) := by decide +kernel
set_option maxRecDepth 100000 in
theorem Wt.tabB : ∀ n : Fin 128, decide (0 ≤ Lib.indexByte Wt.cB.data.toList ((n.val : Int).toNat.toUInt8)) = Wt.inB (n.val : Int) := by decide +kernel
set_option maxRecDepth 100000 in
theorem Wt.asc : (∀ i (h : i < Wt.cA.size), (Wt.cA[i]'h).toNat < 128) ∧ (∀ i (h : i < Wt.cB.size), (Wt.cB[i]'h).toNat < 128) := by decide
theorem Wt.contains (s : ByteArray) (f : Int → Bool) (hs : (s = Wt.cA ∧ f = Wt.inA) ∨ (s = Wt.cB ∧ f = Wt.inB)) (r : Int) (h : Ru.okR r) (w : World) :
    Calls Tryz.prog 200 #[.string s, .int .i32 r] w fun e w' => e = .returned (.bool (f r)) ∧ Below w.heap.size w w' := by
  by_cases h1 : r < 128
  · have h0 : 0 ≤ r := by unfold Ru.okR at h; omega
    obtain ⟨n, rfl⟩ := Int.eq_ofNat_of_zero_le h0
    refine (Tryz.strings_ContainsRune_ascii s n w h0 h1).mono ?_
    rintro e w' ⟨rfl, rfl⟩
    refine ⟨?_, Below.refl _ _⟩
    rcases hs with ⟨rfl, rfl⟩ | ⟨rfl, rfl⟩
    · have := Wt.tabA ⟨n, by omega⟩
      rw [← this]
    · have := Wt.tabB ⟨n, by omega⟩
      rw [← this]
  · have KI : Calls Tryz.prog 224 #[.string s, .int .i32 r] w fun e w' => e = .returned (.int .i64 (-1)) ∧ Below w.heap.size w w' := by
      by_cases h2 : r = 65533
      · subst h2
        refine Wt.indexRune_bad s ?_ w
        rcases hs with ⟨rfl, _⟩ | ⟨rfl, _⟩
        · exact Wt.asc.1
        · exact Wt.asc.2
      · exact Wt.indexRune_hi s (by rcases hs with ⟨h3, _⟩ | ⟨h3, _⟩; exact .inl h3; exact .inr h3) r h (by omega) h2 w
    have hf : f r = false := by
      rcases hs with ⟨_, rfl⟩ | ⟨_, rfl⟩
      · simp [Wt.inA]; omega
      · simp [Wt.inB]; omega
    clear hs
    go_enter Tryz.func200, Tryz.ntmps200
    go_wp2_with fail
    refine KI.mono ?_
    rintro e w1 ⟨rfl, hb⟩
    go_wp2_with fail
    go_ret
    exact ⟨by rw [hf]; rfl, hb⟩
set_option maxHeartbeats 1000000 in
theorem Wt.First_any (r : Int) (h : Ru.okR r) (w : World) :
    Calls Tryz.prog 158 #[.int .i32 r] w fun e w' => e = .returned (.bool (Wt.firstB r)) ∧ Below w.heap.size w w' := by
  have KL := fun w' => Ch.letter_any r w'
  have KC := fun w' => Wt.contains Wt.cA Wt.inA (.inl ⟨rfl, rfl⟩) r h w'
  have KB := fun w' => Wt.blank_any r w'
  have hd : Wt.firstB r = (Ch.letterB r || Wt.inA r || (decide (127 < r) && !Ch.blankB r)) := rfl
  rw [hd]
  obtain ⟨x, hx⟩ : ∃ z, Ch.letterB r = z := ⟨_, rfl⟩
  obtain ⟨y, hy⟩ : ∃ z, Wt.inA r = z := ⟨_, rfl⟩
  obtain ⟨z, hz⟩ : ∃ z, Ch.blankB r = z := ⟨_, rfl⟩
  rw [hx] at KL ⊢
  rw [hy] at KC ⊢
  rw [hz] at KB ⊢
  clear hx hy hz hd h
  unfold Wt.cA at KC
  cases x
  all_goals cases y
  all_goals cases z
  all_goals
    go_enter Tryz.func158, Tryz.ntmps158
    go_wp2_with (first
      | (go_at_call 199; refine (KL _).mono ?_; rintro e w' ⟨rfl, rfl⟩)
      | (go_at_call 200; refine (KC _).mono ?_; rintro e w1 ⟨rfl, hb⟩)
      | (go_at_call 155; refine (KB _).mono ?_; rintro e w' ⟨rfl, rfl⟩))
  all_goals
    go_ret
    first
      | (refine ⟨Wt.retB (a := true) ?_, ?_⟩
         · simp [*]
         · first | exact hb | exact Below.refl _ _)
      | (refine ⟨Wt.retB (a := false) ?_, ?_⟩
         · first | rfl | (simp; done) | (simp; omega)
         · first | exact hb | exact Below.refl _ _)
set_option maxHeartbeats 1000000 in
theorem Wt.Rest_any (r : Int) (h : Ru.okR r) (w : World) :
    Calls Tryz.prog 159 #[.int .i32 r] w fun e w' => e = .returned (.bool (Wt.restB r)) ∧ Below w.heap.size w w' := by
  have KF := fun w' => Wt.First_any r h w'
  have KC := fun w' => Wt.contains Wt.cB Wt.inB (.inr ⟨rfl, rfl⟩) r h w'
  have hd : Wt.restB r = (Wt.firstB r || (decide (48 ≤ r) && decide (r ≤ 57)) || Wt.inB r) := rfl
  rw [hd]
  obtain ⟨x, hx⟩ : ∃ z, Wt.firstB r = z := ⟨_, rfl⟩
  obtain ⟨y, hy⟩ : ∃ z, Wt.inB r = z := ⟨_, rfl⟩
  rw [hx] at KF ⊢
  rw [hy] at KC ⊢
  clear hx hy hd h
  unfold Wt.cB at KC
  have h48 : r < 48 ∨ (48 ≤ r ∧ r ≤ 57) ∨ 57 < r := by omega
  rcases h48 with h48 | ⟨h48, h57⟩ | h57
  all_goals cases x
  all_goals cases y
  all_goals
    go_enter Tryz.func159, Tryz.ntmps159
    go_wp2_with (first
      | (go_at_call 158; refine (KF _).mono ?_; rintro e w1 ⟨rfl, hb⟩)
      | (go_at_call 200; refine (KC _).mono ?_; rintro e w2 ⟨rfl, hb2⟩))
  all_goals
    go_ret
    first
      | (refine ⟨Wt.retB (a := decide (r ≤ 57)) ?_, ?_⟩
         · simp [*]
         · first | exact hb.trans (hb2.mono hb.size) | exact hb)
      | (refine ⟨Wt.retB (a := true) ?_, ?_⟩
         · first | rfl | (simp [*]; done) | (simp [*]; omega)
         · first | exact hb.trans (hb2.mono hb.size) | exact hb)
      | (refine ⟨Wt.retB (a := false) ?_, ?_⟩
         · first | rfl | (simp [*]; done) | (simp; omega) | (simp [*]; omega)
         · first | exact hb.trans (hb2.mono hb.size) | exact hb)
end Go.Proofs.YtikmebkfdpbidaaGreatDoor
namespace Go.Proofs.YtikmebkfdpbidaaGreatDoor.Ch
open Go.RowKit

def c2 (r : Int) : Prop := ((256 ≤ r ∧ r ≤ 311 ∧ r ≠ 305) ∨ (330 ≤ r ∧ r ≤ 375)) ∧ r % 2 = 1
def c3 (r : Int) : Prop := ((313 ≤ r ∧ r ≤ 328) ∨ (377 ≤ r ∧ r ≤ 382)) ∧ r % 2 = 0
instance (r : Int) : Decidable (c2 r) := by unfold c2; infer_instance
instance (r : Int) : Decidable (c3 r) := by unfold c3; infer_instance
/-- Capital: 0 where r is no small letter of a pair. -/
def capZ (r : Int) : Int := if p1 r then r - 32 else if p3 r then r - 80 else if c2 r then r - 1 else if c3 r then r - 1 else 0
theorem capZ_1 {r : Int} (h : p1 r) : capZ r = r - 32 := by simp [capZ, h]
theorem capZ_3 {r : Int} (h1 : ¬ p1 r) (h : p3 r) : capZ r = r - 80 := by simp [capZ, h1, h]
theorem capZ_c2 {r : Int} (h1 : ¬ p1 r) (h3 : ¬ p3 r) (h : c2 r) : capZ r = r - 1 := by simp [capZ, h1, h3, h]
theorem capZ_c3 {r : Int} (h1 : ¬ p1 r) (h3 : ¬ p3 r) (h2 : ¬ c2 r) (h : c3 r) : capZ r = r - 1 := by simp [capZ, h1, h3, h2, h]
theorem capZ_0 {r : Int} (h1 : ¬ p1 r) (h3 : ¬ p3 r) (h2 : ¬ c2 r) (h4 : ¬ c3 r) : capZ r = 0 := by simp [capZ, h1, h3, h2, h4]
theorem capZ_out {r : Int} (h : r < 97 ∨ 1200 ≤ r) : capZ r = 0 :=
  capZ_0 (by unfold p1; omega) (by unfold p3; omega) (by unfold c2; omega) (by unfold c3; omega)

def hitB (r by_ : Int) : Bool := capZ (wrap32 (r + by_)) != 0 && capZ (wrap32 (r + by_)) == r
def smallZ (r : Int) : Int := if hitB r 1 = true then wrap32 (r + 1) else if hitB r 32 = true then wrap32 (r + 32) else if hitB r 80 = true then wrap32 (r + 80) else 0
def upR (r : Int) : Int := if r = 962 then 931 else if r = 383 then 83 else if r = 255 then 376 else if capZ r ≠ 0 then capZ r else r
def downR (r : Int) : Int := if r = 376 then 255 else if smallZ r ≠ 0 then smallZ r else r
def letterR (r : Int) : Bool := if oddLetter r = true then true else (capZ r != 0 || smallZ r != 0)
def digitR (r : Int) : Int := if 48 ≤ r ∧ r ≤ 57 then r - 48 else if 1632 ≤ r ∧ r ≤ 1641 then r - 1632 else -1
def blankR (r : Int) : Bool := decide (9 ≤ r ∧ r ≤ 13) || r == 32 || r == 133 || r == 160 || r == 8232 || r == 8233

theorem hitB_out {r : Int} (b : Int) (hr : r < 0 ∨ 1300 ≤ r) (h0 : 0 ≤ b) (h1 : b ≤ 80) (g0 : -2147483648 ≤ r) (g1 : r ≤ 2147483647) : hitB r b = false := by
  have : capZ (wrap32 (r + b)) = 0 ∨ capZ (wrap32 (r + b)) ≠ r := by
    refine .inl (capZ_out ?_)
    unfold wrap32
    by_cases h : r < 0
    · omega
    · by_cases h2 : r + b ≤ 2147483647
      · omega
      · omega
  unfold hitB
  rcases this with h | h
  · rw [h]; rfl
  · simp [h]
theorem smallZ_out {r : Int} (hr : r < 0 ∨ 1300 ≤ r) (g0 : -2147483648 ≤ r) (g1 : r ≤ 2147483647) : smallZ r = 0 := by
  simp [smallZ, hitB_out 1 hr (by omega) (by omega) g0 g1, hitB_out 32 hr (by omega) (by omega) g0 g1, hitB_out 80 hr (by omega) (by omega) g0 g1]

theorem up_tab : ∀ n : Fin 1300, upZ (n.val : Int) = upR (n.val : Int) := by decide +kernel
theorem down_tab : ∀ n : Fin 1300, downZ (n.val : Int) = downR (n.val : Int) := by decide +kernel
theorem letter_tab : ∀ n : Fin 1300, letterB (n.val : Int) = letterR (n.val : Int) := by decide +kernel

theorem up_eq (r : Int) : upZ r = upR r := by
  by_cases hr : r < 0 ∨ 1300 ≤ r
  · have h := capZ_out (r := r) (by omega)
    have h2 := pairZ_out hr
    unfold upZ upR
    rw [h, h2]
    simp
  · obtain ⟨n, rfl⟩ := Int.eq_ofNat_of_zero_le (a := r) (by omega)
    exact up_tab ⟨n, by omega⟩
theorem down_eq (r : Int) (g0 : -2147483648 ≤ r) (g1 : r ≤ 2147483647) : downZ r = downR r := by
  by_cases hr : r < 0 ∨ 1300 ≤ r
  · have h := smallZ_out hr g0 g1
    have h2 := pairZ_out hr
    unfold downZ downR
    rw [h, h2]
    simp
  · obtain ⟨n, rfl⟩ := Int.eq_ofNat_of_zero_le (a := r) (by omega)
    exact down_tab ⟨n, by omega⟩
theorem letter_eq (r : Int) (g0 : -2147483648 ≤ r) (g1 : r ≤ 2147483647) : letterB r = letterR r := by
  by_cases hr : r < 0 ∨ 1300 ≤ r
  · have h := smallZ_out hr g0 g1
    have h3 := capZ_out (r := r) (by omega)
    have h2 := pairZ_out hr
    unfold letterB letterR
    rw [h, h2, h3]
    simp
  · obtain ⟨n, rfl⟩ := Int.eq_ofNat_of_zero_le (a := r) (by omega)
    exact letter_tab ⟨n, by omega⟩
theorem digit_eq (r : Int) : digitZ r = digitR r := rfl
theorem blank_eq (r : Int) : blankB r = blankR r := by
  unfold blankB blankR
  by_cases h : 9 ≤ r ∧ r ≤ 13
  · have : r = 9 ∨ r = 10 ∨ r = 11 ∨ r = 12 ∨ r = 13 := by omega
    rcases this with rfl | rfl | rfl | rfl | rfl <;> rfl
  · have h9 : (r == 9) = false := by rw [beq_eq_false_iff_ne]; omega
    have h10 : (r == 10) = false := by rw [beq_eq_false_iff_ne]; omega
    have h11 : (r == 11) = false := by rw [beq_eq_false_iff_ne]; omega
    have h12 : (r == 12) = false := by rw [beq_eq_false_iff_ne]; omega
    have h13 : (r == 13) = false := by rw [beq_eq_false_iff_ne]; omega
    rw [h9, h10, h11, h12, h13, decide_eq_false h]
    rfl
end Go.Proofs.YtikmebkfdpbidaaGreatDoor.Ch
namespace Go.Proofs.YtikmebkfdpbidaaGreatDoor
open Go.RowKit

set_option maxHeartbeats 4000000 in
set_option maxRecDepth 100000 in
theorem Ch.cap_any (r : Int) (w : World) :
    Calls Tryz.prog 206 #[.int .i32 r] w fun e w' => e = .returned (.int .i32 (Ch.capZ r)) ∧ w = w' := by
  go_enter Tryz.func206, Tryz.ntmps206
  go_wp2
  all_goals
    go_ret
    refine ⟨?_, rfl⟩
    simp only [ne_eq, beq_iff_eq, beq_eq_false_iff_ne] at *
    first
      | exact Ch.retI (Ch.capZ_1 (by unfold Ch.p1; omega)).symm
      | exact Ch.retI (Ch.capZ_3 (by unfold Ch.p1; omega) (by unfold Ch.p3; omega)).symm
      | exact Ch.retI (Ch.capZ_c2 (by unfold Ch.p1; omega) (by unfold Ch.p3; omega) (by unfold Ch.c2; omega)).symm
      | exact Ch.retI (Ch.capZ_c3 (by unfold Ch.p1; omega) (by unfold Ch.p3; omega) (by unfold Ch.c2; omega) (by unfold Ch.c3; omega)).symm
      | exact Ch.retI (Ch.capZ_0 (by unfold Ch.p1; omega) (by unfold Ch.p3; omega) (by unfold Ch.c2; omega) (by unfold Ch.c3; omega)).symm


set_option maxHeartbeats 4000000 in
theorem Ch.small_any (r : Int) (w : World) :
    Calls Tryz.prog 207 #[.int .i32 r] w fun e w' => e = .returned (.int .i32 (Ch.smallZ r)) ∧ Below w.heap.size w w' := by
  go_enter Tryz.func207, Tryz.ntmps207
  go_wp2
  refine wp_loop_rounds 4 ?_
  repeat any_goals (rw [rounds_succ]; go_wp2_with (go_at_call 206; refine (Ch.cap_any _ _).mono ?_; rintro e w' ⟨rfl, rfl⟩))
  all_goals
    go_ret
    refine ⟨Ch.retI ?_, by go_grown⟩
    simp_all [Ch.smallZ, Ch.hitB]
end Go.Proofs.YtikmebkfdpbidaaGreatDoor
namespace Go.Proofs.YtikmebkfdpbidaaGreatDoor
open Go.RowKit

set_option maxHeartbeats 1000000 in
theorem Ch.upR_any (r : Int) (w : World) :
    Calls Tryz.prog 189 #[.int .i32 r] w fun e w' => e = .returned (.int .i32 (Ch.upR r)) ∧ w = w' := by
  go_enter Tryz.func189, Tryz.ntmps189
  go_wp2_with (go_at_call 206; refine (Ch.cap_any _ _).mono ?_; rintro e w' ⟨rfl, rfl⟩)
  all_goals
    go_ret
    refine ⟨?_, rfl⟩
    simp_all [Ch.upR]

set_option maxHeartbeats 1000000 in
theorem Ch.downR_any (r : Int) (w : World) :
    Calls Tryz.prog 188 #[.int .i32 r] w fun e w' => e = .returned (.int .i32 (Ch.downR r)) ∧ Below w.heap.size w w' := by
  go_enter Tryz.func188, Tryz.ntmps188
  go_wp2_with (go_at_call 207; refine (Ch.small_any _ _).mono ?_; rintro e w1 ⟨rfl, hb1⟩)
  all_goals
    go_ret
    refine ⟨?_, by go_grown⟩
    simp_all [Ch.downR]

set_option maxHeartbeats 4000000 in
theorem Ch.letterR_any (r : Int) (w : World) :
    Calls Tryz.prog 164 #[.int .i32 r] w fun e w' => e = .returned (.bool (Ch.letterR r)) ∧ Below w.heap.size w w' := by
  go_enter Tryz.func164, Tryz.ntmps164
  go_wp2
  refine wp_loop_rounds 13 ?_
  repeat any_goals (rw [rounds_succ]; go_wp2_with (first | (go_at_call 206; refine (Ch.cap_any _ _).mono ?_; rintro e w' ⟨rfl, rfl⟩) | (go_at_call 207; refine (Ch.small_any _ _).mono ?_; rintro e w1 ⟨rfl, hb1⟩)))
  all_goals
    go_ret
    refine ⟨Ch.retB ?_, by first | (go_grown; done) | exact ((Below.refl _ _).alloc (Nat.le_refl _) _).trans (Below.mono ‹Below _ _ _› (by simp))⟩
    simp_all [Ch.letterR, Ch.oddLetter]

end Go.Proofs.YtikmebkfdpbidaaGreatDoor
