/-
  The methods of the strings.Builder that lies ahead in a writer of write's own, with what they keep: WriteString, WriteByte, WriteRune, String of any. Conditions: the writer is one of the call's own, its length stays within 2^47 bytes.
  The writer beside an iterator over a text; texts character by character.
  strconv.FormatInt of a character's number in small hexadecimal digits.
  The writer's hex.
  What the writer asks of the world; a number's text and a byte's, as write calls for them.
  The reference's Text of a number at 10.
  The small functions that write uses: odd, CharName, of any character; the document's too.
-/
import Derived.Test.YtikmebkfdpbidaaGreatDoorShelf
import Derived.Lib.OthersKept
import Derived.WalkKit
import Derived.Lib.RuneCount
import Derived.Test.YtikmebkfdpbidaaGreatDoorProg
import Derived.WalkSpells
import Derived.WalkLawsBesides
import Derived.Handy
import Derived.Lib.Hide
import Derived.Outline
import Derived.Laws.IdiomStrings
import Derived.Deep.LoopGhost
import Derived.ChangeKeysEq
import Derived.WalkMore
import Derived.Deep.RegionHeld3
import Derived.Lib.SmallJoins
import Derived.Lib.ItoaMem
import Derived.Test.YtikmebkfdpbidaaGreatDoorWg
import Derived.Test.YtikmebkfdpbidaaGreatDoorWf
namespace Go.Proofs.YtikmebkfdpbidaaGreatDoor
open Go.RowKit
set_option linter.unusedVariables false

/-- What a writer at b keeps: what lies below B, and what is no row of bytes and not the writer. -/
def Wt.Kept (B b : Nat) (w w' : World) : Prop := Below B w w' ∧ Lib.OthersKept 5 (some b) w w'
theorem Wt.Kept.refl (B b : Nat) (w : World) : Wt.Kept B b w w := ⟨Below.refl _ _, Lib.OthersKept.refl _ _ _⟩
theorem Wt.Kept.trans {B b : Nat} {w1 w2 w3 : World} (h : Wt.Kept B b w1 w2) (k : Wt.Kept B b w2 w3) : Wt.Kept B b w1 w3 := ⟨h.1.trans k.1, h.2.trans k.2⟩
theorem Wt.Kept.alloc {B b : Nat} {w1 w2 : World} (h : Wt.Kept B b w1 w2) (hB : B ≤ w1.heap.size) (o : Obj) : Wt.Kept B b w1 (w2.alloc o) := ⟨h.1.alloc (by have := h.1.size; omega) o, h.2.alloc o⟩
theorem Wt.Kept.drew {B b : Nat} {w1 w2 : World} (h : Wt.Kept B b w1 w2) : Wt.Kept B b w1 w2.drew := ⟨Below.drew h.1, h.2.drew⟩
theorem Wt.Kept.size {B b : Nat} {w1 w2 : World} (h : Wt.Kept B b w1 w2) : w1.heap.size ≤ w2.heap.size := h.1.size
/-- A box of a type that is not byte's, other than the writer, stands. -/
theorem Wt.Kept.box {B b k : Nat} {w1 w2 : World} (h : Wt.Kept B b w1 w2) {c : Array Value} {t : TypeId} {fz : Nat × Nat} (hk : w1.heap[k]? = some (.cells c t fz)) (hb : k ≠ b) (ht : t ≠ 5) : w2.heap[k]? = some (.cells c t fz) :=
  h.2 k _ hk (fun e => hb (Option.some.inj e)) (fun c' fz' e => by injection e with _ e _; exact ht e)
theorem Wt.Kept.below {B b : Nat} {w1 w2 : World} (h : Below w1.heap.size w1 w2) (hB : B ≤ w1.heap.size) : Wt.Kept B b w1 w2 :=
  ⟨h.mono hB, fun k o hk _ _ => (h.block k (Array.getElem?_eq_some_iff.1 hk).1).trans hk⟩

theorem Wr.At.keptBelow {B b : Nat} {p : Value} {m : Bool} {bs : List Value} {w w' : World} (h : Wr.At B b p m bs w) (hb : Below w.heap.size w w') : Wr.At B b p m bs w' := by
  obtain ⟨hB, v, hbk, hown, hne⟩ := h
  have hlt : b < w.heap.size := (Array.getElem?_eq_some_iff.1 hbk).1
  exact ⟨hB, v, (hb.block b hlt).trans hbk, hown.kept (row := none) ⟨hb.os, hb.tape, hb.output, hb.size, fun k hk _ => hb.block k hk⟩ (by cases hv : v.ownBlock <;> simp), hne⟩
theorem Wr.At.is {B b : Nat} {m : Bool} {bs : List Value} {w : World} (h : Wr.At B b (.pointer (some ⟨b, 0, none⟩)) m bs w) : Wr.Is B b m bs w := .inr h
theorem Wr.Is.keptBelow {B b : Nat} {m : Bool} {bs : List Value} {w w' : World} (h : Wr.Is B b m bs w) (hb : Below w.heap.size w w') : Wr.Is B b m bs w' :=
  h.imp (·.keptBelow hb) (·.keptBelow hb)
theorem Wr.Is.blk {B b : Nat} {m : Bool} {bs : List Value} {w : World} (h : Wr.Is B b m bs w) : B ≤ b ∧ b < w.heap.size := by
  rcases h with ⟨hB, v, hb, _⟩ | ⟨hB, v, hb, _⟩
  · exact ⟨hB, (Array.getElem?_eq_some_iff.1 hb).1⟩
  · exact ⟨hB, (Array.getElem?_eq_some_iff.1 hb).1⟩
theorem Wr.Is.marked {B b : Nat} {m : Bool} {bs : List Value} {w : World} (h : Wr.Is B b m bs w) : w.cell? ⟨b, 2, none⟩ = some (.bool m) := by
  rcases h with h | h
  · exact h.cells.2.1
  · exact h.cells.2.1

theorem Wt.copyCheck (B b : Nat) (m : Bool) (bs : List Value) (w : World) (h : Wr.Is B b m bs w) :
    Calls Tryz.prog 81 #[.pointer (some ⟨b, 0, none⟩)] w fun e w' => e = .returned (.tuple #[]) ∧ (Wr.At B b (.pointer (some ⟨b, 0, none⟩)) m bs w' ∧ Wt.Kept B b w w') := by
  rcases h with h | h
  · refine (Wr.copyCheck_fresh b w h.cells.1 h.cells.2.2.2 h.cells.2.2.1).mono ?_
    rintro e w' ⟨rfl, rfl⟩
    exact ⟨rfl, h.used _, (Below.refl B w).setCell (p := ⟨b, 0, none⟩) h.1 _, (Lib.OthersKept.refl _ _ w).setCell ⟨b, 0, none⟩ rfl _⟩
  · refine (Wr.copyCheck_used b w h.cells.1).mono ?_
    rintro e w' ⟨rfl, rfl⟩
    exact ⟨rfl, h, Wt.Kept.refl B b _⟩

set_option maxHeartbeats 2000000 in
set_option maxRecDepth 100000 in
theorem Wt.writeString (B b : Nat) (m : Bool) (bs : List Value) (s : ByteArray) (w : World) (h : Wr.Is B b m bs w) (hlen : bs.length + s.size ≤ 140737488355328) (hBw : B ≤ w.heap.size) :
    Calls Tryz.prog 45 #[.pointer (some ⟨b, 0, none⟩), .string s] w fun e w' => e = .returned (.tuple #[.int .i64 s.size, .nilIface]) ∧ (Wr.At B b (.pointer (some ⟨b, 0, none⟩)) m (bs ++ Lib.strCells s) w' ∧ Wt.Kept B b w w') := by
  obtain ⟨i0, hi, hz0, hz1, hz2⟩ := info_parts Wr.infoByte
  go_enter Tryz.func45, Tryz.ntmps45
  go_wp2_with (go_at_call 81; refine (Wt.copyCheck B b m bs _ h).mono ?_)
  rintro e w1 ⟨rfl, h1, hb1, hk1⟩
  obtain ⟨hB, v, hbk, hown, hne⟩ := h1
  have c0 : w1.cell? ⟨b, 0, none⟩ = some (.pointer (some ⟨b, 0, none⟩)) := by rw [Lib.cell_of_heap hbk]; rfl
  have c1 : w1.cell? ⟨b, 1, none⟩ = some v := by rw [Lib.cell_of_heap hbk]; rfl
  go_wp2_with (at_builtin; refine Lib.wpList_append_own_stringF _ rfl _ _ 27 9 rfl B 5 i0 Tryz.underlying27 Tryz.underlying9 hi hz0 hz1 hz2 _ _ _ rfl hown s rfl ?c3 ?c4 ?c5 ?_)
  case c3 => unfold maxLen; omega
  case c4 => omega
  case c5 => have := hb1.size; omega
  intro v' w2 hown' hgrow _
  have hlt : b < w1.heap.size := (Array.getElem?_eq_some_iff.1 hbk).1
  have hb2 : w2.heap[b]? = some (.cells #[.pointer (some ⟨b, 0, none⟩), v, .bool m] 128 (0, 0)) := by
    rw [hgrow.block b hlt (fun e => hne e.symm)]
    exact hbk
  have d0 : w2.cell? ⟨b, 0, none⟩ = some (.pointer (some ⟨b, 0, none⟩)) := by rw [Lib.cell_of_heap hb2]; rfl
  have d1 : w2.cell? ⟨b, 1, none⟩ = some v := by rw [Lib.cell_of_heap hb2]; rfl
  have f1 : w2.frozen? ⟨b, 1, none⟩ = false := Lib.frozen_of_heap hb2 1
  obtain ⟨ao, n', cap, rfl⟩ : ∃ ao n' cap, v' = .slice ao n' cap := by
    rcases hown'.2 with ⟨hv, _⟩ | ⟨g, cap, cur, fz, hv, _⟩
    · exact ⟨_, _, _, hv⟩
    · exact ⟨_, _, _, hv⟩
  go_wp2
  go_ret2
  refine ⟨rfl, ?_, ?_, (hk1.grown hgrow (Lib.ownsRowF_kind hown)).setCell ⟨b, 1, none⟩ rfl _⟩
  · exact Wr.At.put hB hb2 (bs' := bs ++ Lib.strCells s) (by simpa [Lib.strCells_length] using hown')
  · exact (hb1.grown hgrow (by have := hb1.size; omega) (fun k hk => (hown.lt k hk).1)).setCell (p := ⟨b, 1, none⟩) hB _

set_option maxHeartbeats 2000000 in
set_option maxRecDepth 100000 in
theorem Wt.writeByte (B b : Nat) (m : Bool) (bs : List Value) (c : Int) (w : World) (h : Wr.Is B b m bs w) (hlen : bs.length + 1 ≤ 140737488355328) (hBw : B ≤ w.heap.size) :
    Calls Tryz.prog 100 #[.pointer (some ⟨b, 0, none⟩), .int .u8 c] w fun e w' => e = .returned .nilIface ∧ (Wr.At B b (.pointer (some ⟨b, 0, none⟩)) m (bs ++ [.int .u8 c]) w' ∧ Wt.Kept B b w w') := by
  obtain ⟨i0, hi, hz0, hz1, hz2⟩ := info_parts Wr.infoByte
  go_enter Tryz.func100, Tryz.ntmps100
  go_wp2_with (go_at_call 81; refine (Wt.copyCheck B b m bs _ h).mono ?_)
  rintro e w1 ⟨rfl, h1, hb1, hk1⟩
  obtain ⟨hB, v, hbk, hown, hne⟩ := h1
  have c0 : w1.cell? ⟨b, 0, none⟩ = some (.pointer (some ⟨b, 0, none⟩)) := by rw [Lib.cell_of_heap hbk]; rfl
  have c1 : w1.cell? ⟨b, 1, none⟩ = some v := by rw [Lib.cell_of_heap hbk]; rfl
  go_wp2_with (at_builtin; refine wpList_append_ownF _ rfl _ _ 27 rfl B 5 i0 (.int .u8 0) 1 1 Tryz.underlying27 hi hz0 hz1 hz2 rfl (by decide) _ _ _ rfl (hown.alloc _) ⟨w1.heap.size, 0, none⟩ 1 1 [.int .u8 c] rfl rfl ?c1 ?c2 ?c3 ?c4 ?c5 ?_)
  case c1 =>
    intro j u hj
    match j, hj with
    | 0, hj => simp at hj; subst hj; simp [Addr.add]
  case c2 => intro u hu; simp at hu; subst hu; rfl
  case c3 => unfold maxLen; omega
  case c4 => omega
  case c5 => have := hb1.size; simp; omega
  intro v' w2 hown' hgrow _
  have hlt : b < w1.heap.size := (Array.getElem?_eq_some_iff.1 hbk).1
  have hb2 : w2.heap[b]? = some (.cells #[.pointer (some ⟨b, 0, none⟩), v, .bool m] 128 (0, 0)) := by
    rw [hgrow.block b (by simp; omega) (fun e => hne e.symm), Lib.alloc_old w1 _ b hlt]
    exact hbk
  have d0 : w2.cell? ⟨b, 0, none⟩ = some (.pointer (some ⟨b, 0, none⟩)) := by rw [Lib.cell_of_heap hb2]; rfl
  have d1 : w2.cell? ⟨b, 1, none⟩ = some v := by rw [Lib.cell_of_heap hb2]; rfl
  have f1 : w2.frozen? ⟨b, 1, none⟩ = false := Lib.frozen_of_heap hb2 1
  obtain ⟨g, cap, rfl⟩ : ∃ g cap, v' = .slice (some ⟨g, 0, none⟩) (bs.length + 1) cap := by
    rcases hown'.2 with ⟨_, h0⟩ | ⟨g, cap, cur, fz, hv, _⟩
    · omega
    · exact ⟨g, cap, hv⟩
  go_wp2
  go_ret
  refine ⟨rfl, ?_, ?_, ((hk1.alloc _).grown hgrow (Lib.ownsRowF_kind (hown.alloc _))).setCell ⟨b, 1, none⟩ rfl _⟩
  · exact Wr.At.put hB hb2 (bs' := bs ++ [.int .u8 c]) (by simpa using hown')
  · exact ((hb1.alloc (by have := hb1.size; omega) _).grown hgrow (by have := hb1.size; simp; omega) (fun k hk => (hown.lt k hk).1)).setCell (p := ⟨b, 1, none⟩) hB _

set_option maxHeartbeats 4000000 in
set_option maxRecDepth 100000 in
theorem Wt.writeRune (B b : Nat) (m : Bool) (bs : List Value) (r : Int) (hr0 : -2147483648 ≤ r) (hr1 : r ≤ 2147483647) (w : World) (h : Wr.Is B b m bs w) (hlen : bs.length + 4 ≤ 140737488355328) (hBw : B ≤ w.heap.size) :
    Calls Tryz.prog 46 #[.pointer (some ⟨b, 0, none⟩), .int .i32 r] w fun e w' => e = .returned (.tuple #[.int .i64 (Lib.runeCells r).length, .nilIface]) ∧ (Wr.At B b (.pointer (some ⟨b, 0, none⟩)) m (bs ++ Lib.runeCells r) w' ∧ Wt.Kept B b w w') := by
  have hk4 := Lib.runeCells_le r
  go_enter Tryz.func46, Tryz.ntmps46
  go_wp2_with (go_at_call 81; refine (Wt.copyCheck B b m bs _ h).mono ?_)
  rintro e w1 ⟨rfl, h1, hb1, hk1⟩
  obtain ⟨hB, v, hbk, hown, hne⟩ := h1
  obtain ⟨ao, cap, rfl⟩ : ∃ ao cap, v = .slice ao bs.length cap := by
    rcases hown.2 with ⟨hv, h0⟩ | ⟨g, cap, cur, fz, hv, _⟩
    · exact ⟨none, 0, by rw [hv, h0]⟩
    · exact ⟨_, _, hv⟩
  have c0 : w1.cell? ⟨b, 0, none⟩ = some (.pointer (some ⟨b, 0, none⟩)) := by rw [Lib.cell_of_heap hbk]; rfl
  have c1 : w1.cell? ⟨b, 1, none⟩ = some (.slice ao bs.length cap) := by rw [Lib.cell_of_heap hbk]; rfl
  go_wp2_with (go_at_call 82; refine (Tryz.utf8_AppendRune_row B _ bs.length bs r hr0 hr1 _ hown hlen (by have := hb1.size; omega)).mono ?_)
  rintro e w2 ⟨v', rfl, hown', o, hgrow⟩
  have hlt : b < w1.heap.size := (Array.getElem?_eq_some_iff.1 hbk).1
  have hb2 : w2.heap[b]? = some (.cells #[.pointer (some ⟨b, 0, none⟩), .slice ao bs.length cap, .bool m] 128 (0, 0)) := by
    rw [hgrow.block b (by simp; omega) (fun e => hne e.symm), Lib.alloc_old w1 _ b hlt]
    exact hbk
  have d0 : w2.cell? ⟨b, 0, none⟩ = some (.pointer (some ⟨b, 0, none⟩)) := by rw [Lib.cell_of_heap hb2]; rfl
  have d1 : w2.cell? ⟨b, 1, none⟩ = some (.slice ao bs.length cap) := by rw [Lib.cell_of_heap hb2]; rfl
  have f1 : w2.frozen? ⟨b, 1, none⟩ = false := Lib.frozen_of_heap hb2 1
  obtain ⟨g, cap', rfl⟩ : ∃ g cap', v' = .slice (some ⟨g, 0, none⟩) (bs.length + (Lib.runeCells r).length) cap' := by
    rcases hown'.2 with ⟨_, h0⟩ | ⟨g, cap', cur, fz, hv, _⟩
    · omega
    · exact ⟨g, cap', hv⟩
  go_wp2
  go_ret2
  refine ⟨?_, ?_, ?_, ((hk1.alloc _).grown hgrow (Lib.ownsRowF_kind (hown.alloc _))).setCell ⟨b, 1, none⟩ rfl _⟩
  · have e : ((bs.length : Int) + ((Lib.runeCells r).length : Int) - (bs.length : Int)) = ((Lib.runeCells r).length : Int) := by omega
    simp [e]
  · exact Wr.At.put hB hb2 (bs' := bs ++ Lib.runeCells r) (by simpa using hown')
  · exact ((hb1.alloc (by have := hb1.size; omega) _).grown hgrow (by have := hb1.size; simp; omega) (fun k hk => (hown.lt k hk).1)).setCell (p := ⟨b, 1, none⟩) hB _

set_option maxHeartbeats 2000000 in
set_option maxRecDepth 100000 in
/-- String, of a writer that holds no byte. -/
theorem Wt.string_empty (B b : Nat) (m : Bool) (p : Value) (w : World) (h : Wr.At B b p m [] w) (hBw : B ≤ w.heap.size) :
    Calls Tryz.prog 49 #[.pointer (some ⟨b, 0, none⟩)] w fun e w' => e = .returned (.string ⟨#[]⟩) ∧ Below B w w' := by
  obtain ⟨hB, v, hbk, hown, hne⟩ := h
  have hlt : b < w.heap.size := (Array.getElem?_eq_some_iff.1 hbk).1
  have hUS : ∀ (W : World) (q : Option Addr), (Builtin.unsafeString_ #[142, 3] 9 #[.pointer q, .int .i64 0]).run Tryz.prog W = .ok (.string .empty) W := fun W q => Lib.run_unsafeString_none W _ _ _ q
  have c1 : w.drew.cell? ⟨b, 1, none⟩ = some v := by
    have : w.drew.heap[b]? = some (.cells #[p, v, .bool m] 128 (0, 0)) := hbk
    rw [Lib.cell_of_heap this]; rfl
  rcases hown.2 with ⟨rfl, _⟩ | ⟨g, cap, cur, fz, rfl, hbg, hg, _, _, _, _, _⟩
  · have hSD : (Builtin.unsafeSliceData_ #[27] 142 #[.slice none 0 0]).run Tryz.prog w.drew = .ok (.pointer none) w.drew := rfl
    go_enter Tryz.func49, Tryz.ntmps49
    go_wp2
    go_region
    all_goals (go_wp2; go_ret; exact ⟨rfl, Below.drew (Below.refl B w)⟩)
  · by_cases hc0 : cap = 0
    · subst hc0
      have hSD : (Builtin.unsafeSliceData_ #[27] 142 #[.slice (some ⟨g, 0, none⟩) 0 0]).run Tryz.prog w.drew = .ok (.pointer (some ⟨w.drew.heap.size, 0, none⟩)) (w.drew.alloc (.view ⟨g, 0, none⟩ 5)) :=
        Lib.run_unsafeSliceData_zero w.drew _ _ 5 Tryz.underlying142 ⟨g, 0, none⟩ 0 (5, cur.size) (by have hg' : w.drew.heap[g]? = some (.cells cur 5 fz) := hg; simp [World.shape?, hg'])
      have c2 : (w.drew.alloc (.view ⟨g, 0, none⟩ 5)).cell? ⟨b, 1, none⟩ = some (.slice (some ⟨g, 0, none⟩) 0 0) := by
        have : (w.drew.alloc (.view ⟨g, 0, none⟩ 5)).heap[b]? = _ := (Lib.alloc_old w.drew _ b hlt).trans hbk
        rw [Lib.cell_of_heap this]; rfl
      have c3 : (w.alloc (.view ⟨g, 0, none⟩ 5)).drew.cell? ⟨b, 1, none⟩ = some (.slice (some ⟨g, 0, none⟩) 0 0) := c2
      have c0 : w.cell? ⟨b, 1, none⟩ = some (.slice (some ⟨g, 0, none⟩) 0 0) := c1
      have mixed : Tryz.prog.follows Departure.mixedOrders = true := by kernel_rfl
      go_enter Tryz.func49, Tryz.ntmps49
      go_wp2
      go_region_o
      all_goals (go_wp2; go_ret; exact ⟨rfl, (Below.drew (Below.refl B w)).alloc hBw _⟩)
    · have hSD : (Builtin.unsafeSliceData_ #[27] 142 #[.slice (some ⟨g, 0, none⟩) 0 cap]).run Tryz.prog w.drew = .ok (.pointer (some ⟨g, 0, none⟩)) w.drew :=
        Lib.run_unsafeSliceData_row _ _ _ _ _ _ hc0
      clear hc0
      go_enter Tryz.func49, Tryz.ntmps49
      go_wp2
      go_region
      all_goals (go_wp2; go_ret; exact ⟨rfl, Below.drew (Below.refl B w)⟩)
theorem Wt.string (B b : Nat) (m : Bool) (l : List UInt8) (p : Value) (w : World) (h : Wr.At B b p m (Lib.byteCells l) w) (hBw : B ≤ w.heap.size) :
    Calls Tryz.prog 49 #[.pointer (some ⟨b, 0, none⟩)] w fun e w' => e = .returned (.string ⟨l.toArray⟩) ∧ Below B w w' := by
  cases l with
  | nil => exact Wt.string_empty B b m p w h hBw
  | cons x r => exact Wr.string B b m (x :: r) p w h (by simp)
end Go.Proofs.YtikmebkfdpbidaaGreatDoor
namespace Go.Proofs.YtikmebkfdpbidaaGreatDoor
open Go.RowKit
set_option linter.unusedVariables false

theorem Wr.At.iterAt {B b : Nat} {p : Value} {m : Bool} {bs : List Value} {w : World} (h : Wr.At B b p m bs w) {k : Nat} {s : ByteArray} {pos : Nat} (hk : w.heap[k]? = some (.stringIter s pos)) (pos' : Nat) : Wr.At B b p m bs (w.iterAt k s pos') := by
  obtain ⟨hB, v, hb, hown, hne⟩ := h
  have hkb : b ≠ k := by
    intro e1
    rw [e1, hk] at hb
    cases hb
  refine ⟨hB, v, (Lib.iterAt_other w k b s pos' hkb).trans hb, ⟨hown.1, ?_⟩, hne⟩
  rcases hown.2 with hn | ⟨g, cap, cur, fz, hv, hbg, hg, rest⟩
  · exact .inl hn
  · have hkg : g ≠ k := by
      intro e1
      rw [e1, hk] at hg
      cases hg
    exact .inr ⟨g, cap, cur, fz, hv, hbg, (Lib.iterAt_other w k g s pos' hkg).trans hg, rest⟩
theorem Wt.Kept.iterAt {B b : Nat} {w0 w : World} (h : Wt.Kept B b w0 w) (hB : B ≤ w0.heap.size) {k : Nat} (hk : w0.heap.size ≤ k) (s : ByteArray) (pos : Nat) : Wt.Kept B b w0 (w.iterAt k s pos) := by
  refine ⟨Lib.below_iterAt h.1 (by omega) s pos, fun j o hj hb ho => ?_⟩
  have hlt := (Array.getElem?_eq_some_iff.1 hj).1
  rw [Lib.iterAt_other w k j s pos (by omega)]
  exact h.2 j o hj hb ho
theorem Wt.Kept.iter {B b : Nat} {w w' : World} (h : Wt.Kept B b w w') {k : Nat} {s : ByteArray} {pos : Nat} (hk : w.heap[k]? = some (.stringIter s pos)) (hb : k ≠ b) : w'.heap[k]? = some (.stringIter s pos) := h.2.iter hk hb
theorem Wr.At.alloc {B b : Nat} {p : Value} {m : Bool} {bs : List Value} {w : World} (h : Wr.At B b p m bs w) (o : Obj) : Wr.At B b p m bs (w.alloc o) := h.keptBelow ((Below.refl _ _).alloc (Nat.le_refl _) o)
theorem Wr.Is.alloc {B b : Nat} {m : Bool} {bs : List Value} {w : World} (h : Wr.Is B b m bs w) (o : Obj) : Wr.Is B b m bs (w.alloc o) := h.keptBelow ((Below.refl _ _).alloc (Nat.le_refl _) o)
theorem Wt.strCells (s : ByteArray) : Lib.strCells s = Lib.byteCells s.data.toList := by simp [Lib.strCells, Lib.byteCells]
theorem Wt.strCells_str (l : List UInt8) : Lib.strCells ⟨l.toArray⟩ = Lib.byteCells l := by rw [Wt.strCells]
theorem Wt.cells_snoc (bs : List Value) (a : List UInt8) (c : UInt8) : bs ++ Lib.byteCells a ++ [.int .u8 c.toNat] = bs ++ Lib.byteCells (a ++ [c]) := by simp [Lib.byteCells]
theorem Wt.cells_app (bs : List Value) (a c : List UInt8) : bs ++ Lib.byteCells a ++ Lib.byteCells c = bs ++ Lib.byteCells (a ++ c) := by rw [Lib.byteCells_append, List.append_assoc]
theorem Wt.runes_at (s : ByteArray) (pos : Nat) (h : pos < s.size) : Ru.runes (s.data.toList.drop pos) = ((Utf8.decode s pos).1 : Int) :: Ru.runes (s.data.toList.drop (pos + (Utf8.decode s pos).2)) := by
  have hs : s.data.toList.length = s.size := by simp
  rw [Ru.runes_step _ (by intro h2; have := congrArg List.length h2; simp at this; omega), Ru.decode_drop, List.drop_drop]
theorem Wt.runes_end (s : ByteArray) (pos : Nat) (h : ¬ pos < s.size) : Ru.runes (s.data.toList.drop pos) = [] := by
  have hs : s.data.toList.length = s.size := by simp
  rw [List.drop_eq_nil_of_le (by omega)]
  rfl
theorem Wt.decode_ok (s : ByteArray) (pos : Nat) (h : pos < s.size) : Ru.okR ((Utf8.decode s pos).1 : Int) := by
  have hs : s.data.toList.length = s.size := by simp
  rw [Ru.decode_drop]
  exact Ru.decode_ok _ (by intro h2; have := congrArg List.length h2; simp at this; omega)
end Go.Proofs.YtikmebkfdpbidaaGreatDoor
namespace Go.Proofs.YtikmebkfdpbidaaGreatDoor
open Go.RowKit
set_option linter.unusedVariables false

theorem Wt.pow16 (w : World) : Calls Tryz.prog 241 #[.int .i64 16] w fun e w' => e = .returned (.bool true) ∧ w' = w := by
  go_enter Tryz.func241, Tryz.ntmps241
  go_wp2
  go_ret
  exact ⟨rfl, rfl⟩
theorem Wt.tz1 : IntKind.u64.wrap (-16) = 18446744073709551600 := by decide
theorem Wt.tz2 : bits .and .u64 16 18446744073709551600 = 16 := by decide +kernel
theorem Wt.tz16 (w : World) (hd : w.cell? ⟨5, 15, none⟩ = some (.int .u8 4)) : Calls Tryz.prog 242 #[.int .u64 16] w fun e w' => e = .returned (.int .i64 4) ∧ w' = w := by
  have h1 := Wt.tz1
  have h2 := Wt.tz2
  go_enter Tryz.func242, Tryz.ntmps242
  go_wp2
  go_ret
  exact ⟨rfl, rfl⟩
theorem Wt.and15 (x : Int) (h0 : 0 ≤ x) (h1 : x < 4294967296) : bits .and .u64 x 15 = x % 16 := bits_mask .u64 64 (by decide) (fun n h0 h1 => by rw [IntKind.wrap_u64]; omega) 4 (by decide) x h0 (by omega)
/-- What holds at each round: the digits from i on are laid, u is to come. -/
structure Wt.Fmt (r : Nat) (w : World) (g u i : Nat) (D : List UInt8) (cur : Array Value) (wr : World) : Prop where
  hi : i = 60 + g
  hu : u < 16 ^ (g + 1)
  hx : Wt.hex r = Wt.hex u ++ D
  hl : i + D.length = 65
  hb : wr.heap[w.heap.size]? = some (.cells cur 247 (0, 0))
  hc : cur.size = 65
  hD : ∀ j, j < D.length → cur[i + j]? = some (.int .u8 (D.getD j 0).toNat)
  bw : Below w.heap.size w wr
def Wt.FmtRel (r : Nat) (w : World) (g : Nat) (uv iv : Value) (wr : World) : Prop := ∃ (u i : Nat) (D : List UInt8) (cur : Array Value), uv = .int .u64 u ∧ iv = .int .i64 i ∧ Wt.Fmt r w g u i D cur wr
/-- A digit more. -/
theorem Wt.Fmt.put {r g u q : Nat} {w wr : World} {D : List UInt8} {cur : Array Value} (h : Wt.Fmt r w g u (q + 1) D cur wr) (c : UInt8) :
    (wr.setCell ⟨w.heap.size, q, none⟩ (.int .u8 (c.toNat : Int))).heap[w.heap.size]? = some (.cells (cur.set! q (.int .u8 (c.toNat : Int))) 247 (0, 0)) ∧ (cur.set! q (.int .u8 (c.toNat : Int))).size = 65 ∧
    (∀ j, j < (c :: D).length → (cur.set! q (.int .u8 (c.toNat : Int)))[q + j]? = some (.int .u8 ((c :: D).getD j 0).toNat)) ∧ Below w.heap.size w (wr.setCell ⟨w.heap.size, q, none⟩ (.int .u8 (c.toNat : Int))) := by
  have hq : q < cur.size := by have := h.hl; have := h.hc; omega
  refine ⟨?_, by simp [h.hc], fun j hj => ?_, h.bw.setCell (p := ⟨w.heap.size, q, none⟩) (Nat.le_refl _) _⟩
  · simp [World.setCell, Array.getElem?_modify, h.hb]
  · cases j with
    | zero => simp [hq]
    | succ j =>
      have := h.hD j (by simpa using hj)
      have hne : q ≠ q + (j + 1) := by omega
      simp [Array.set!]
      rw [show q + (j + 1) = q + 1 + j by omega]
      exact this
theorem Wt.Fmt.step {r g u q : Nat} {w wr : World} {D : List UInt8} {cur : Array Value} (h : Wt.Fmt r w g u (q + 1) D cur wr) (h16 : 16 ≤ u) :
    0 < g ∧ Wt.FmtRel r w (g - 1) (.int .u64 ((u : Int) / 16)) (.int .i64 (q : Int)) (wr.setCell ⟨w.heap.size, q, none⟩ (.int .u8 ((Wt.hx (u % 16)).toNat : Int))) := by
  obtain ⟨p1, p2, p3, p4⟩ := h.put (Wt.hx (u % 16))
  have hg : 0 < g := by
    rcases Nat.eq_zero_or_pos g with rfl | h0
    · have := h.hu; simp at this; omega
    · exact h0
  refine ⟨hg, u / 16, q, Wt.hx (u % 16) :: D, _, by simp, rfl, ⟨by have := h.hi; omega, ?_, ?_, by have := h.hl; simp; omega, p1, p2, p3, p4⟩⟩
  · obtain ⟨k, rfl⟩ : ∃ k, g = k + 1 := ⟨g - 1, by omega⟩
    have := h.hu
    rw [Nat.pow_succ] at this
    show u / 16 < 16 ^ (k + 1)
    omega
  · rw [h.hx, Wt.hex_big (by omega)]
    simp
theorem Wt.info8 : (Tryz.prog.info? 5).isSome = true := by kernel_rfl
theorem Wt.cells8 : Tryz.prog.cellsOf 5 = 1 := by kernel_rfl
theorem Wt.len65 : Tryz.prog.arrayLen 247 = 65 := by kernel_rfl
theorem Wt.elem65 : Tryz.prog.elem 247 = 5 := by kernel_rfl
theorem Wt.und65 : Tryz.prog.underlying 247 = some (.array (Tryz.prog.arrayLen 247) (Tryz.prog.elem 247)) := by kernel_rfl
theorem Wt.slice65 (b q : Nat) (hq : q < 65) (W : World) : (Instr.sliceAt 247 (.pointer (some ⟨b, 0, none⟩)) (some (.int .i64 (q : Int))) none none).run Tryz.prog W = .ok (.slice (some ⟨b, q, none⟩) (65 - q) (65 - q)) W := by
  rw [run_sliceAt_array_l W 247 _ Wt.und65 .i64 q (by omega) (by rw [Wt.len65]; omega), Wt.len65, Wt.elem65]
  have hs : (sizeOf 5).run Tryz.prog W = .ok 1 W := by
    obtain ⟨i, hi⟩ := Option.isSome_iff_exists.1 Wt.info8
    rw [run_sizeOf W hi, Wt.cells8]
  rw [hs]
  simp only [Result.andThen, slicedAt, Int.toNat_natCast, Nat.mul_one]
  rw [if_neg (by omega)]
  have ha : (⟨b, 0, none⟩ : Addr).add q = ⟨b, q, none⟩ := by unfold Addr.add; split <;> simp_all
  rw [ha]
theorem Wt.Fmt.last {r g u q : Nat} {w wr : World} {D : List UInt8} {cur : Array Value} (h : Wt.Fmt r w g u (q + 1) D cur wr) (h16 : u < 16) :
    (convert 27 9 (.slice (some ⟨w.heap.size, q, none⟩) (65 - q) (65 - q))).run Tryz.prog (wr.setCell ⟨w.heap.size, q, none⟩ (.int .u8 ((Wt.hx u).toNat : Int))) = .ok (.string ⟨(Wt.hex r).toArray⟩) (wr.setCell ⟨w.heap.size, q, none⟩ (.int .u8 ((Wt.hx u).toNat : Int))) := by
  obtain ⟨p1, p2, p3, p4⟩ := h.put (Wt.hx u)
  have hx : Wt.hex r = Wt.hx u :: D := by rw [h.hx, Wt.hex_small h16]; rfl
  rw [hx]
  have hl : (Wt.hx u :: D).length = 65 - q := by have := h.hl; simp; omega
  have := run_convert_bytes_back (P := Tryz.prog) (wr.setCell ⟨w.heap.size, q, none⟩ (.int .u8 ((Wt.hx u).toNat : Int))) 27 9 5 ⟨w.heap.size, q, none⟩ (65 - q) (Wt.hx u :: D) Tryz.underlying27 Tryz.underlying5 Tryz.underlying9 (fun j hj => by
    have ha : (⟨w.heap.size, q, none⟩ : Addr).add j = ⟨w.heap.size, q + j, none⟩ := by unfold Addr.add; split <;> simp_all
    rw [ha, Lib.cell_of_heap p1, p3 j hj]
    simp [List.getD_eq_getElem?_getD, List.getElem?_eq_getElem hj])
  rwa [hl] at this
set_option maxHeartbeats 4000000 in
set_option maxRecDepth 1000000 in
theorem Wt.fmtBits (r : Nat) (w : World) (hr : r ≤ 1114111) (hd : w.cell? ⟨5, 15, none⟩ = some (.int .u8 4)) :
    Calls Tryz.prog 228 #[.slice none 0 0, .int .u64 r, .int .i64 16, .bool false, .bool false] w fun e w' => e = .returned (.tuple #[.slice none 0 0, .string ⟨(Wt.hex r).toArray⟩]) ∧ Below w.heap.size w w' := by
  have hlt : 5 < w.heap.size := World.block_lt_of_cell? w _ hd
  have hd2 : ∀ o, (w.alloc o).cell? ⟨5, 15, none⟩ = some (.int .u8 4) := fun o => by rw [((Below.refl w.heap.size w).alloc (Nat.le_refl _) o).cell (p := ⟨_, 15, none⟩) hlt]; exact hd
  go_enter Tryz.func228, Tryz.ntmps228
  go_wp2_with (first | (go_at_call 241; refine (Wt.pow16 _).mono ?_; rintro e w' ⟨rfl, rfl⟩) | (go_at_call 242; refine (Wt.tz16 _ (hd2 _)).mono ?_; rintro e w' ⟨rfl, rfl⟩))
  go_loopg [1, 13] 5 (fun g uv iv wr => Wt.FmtRel r w g uv iv wr)
  case atStart =>
    exact ⟨r, 65, [], _, rfl, rfl, ⟨rfl, by omega, by simp, rfl, heap_alloc_new w _, by rfl, fun j hj => by simp at hj, (Below.refl _ _).alloc (Nat.le_refl _) _⟩⟩
  case round =>
    obtain ⟨u, i, D, cur, rfl, rfl, hF⟩ := hrel
    obtain ⟨q, rfl⟩ : ∃ q, i = q + 1 := ⟨i - 1, by have := hF.hi; omega⟩
    have hq65 : q < 65 := by have := hF.hl; omega
    have hfz := Lib.frozen_of_heap hF.hb q
    obtain ⟨cv, hcv⟩ : ∃ v, cur[q]? = some v := ⟨_, Array.getElem?_eq_getElem (by have := hF.hc; omega : q < cur.size)⟩
    have hce := (Lib.cell_of_heap hF.hb q).trans hcv
    have HB := Lib.hid hF.bw
    have HF := Lib.hid hF
    have hub : u < 16777216 := Nat.lt_of_lt_of_le hF.hu (Nat.pow_le_pow_right (by decide) (by have := hF.hi; omega : gk + 1 ≤ 6))
    clear hcv hd2 hd hlt hF
    by_cases hlt16 : 16 ≤ u
    · obtain ⟨d, hdd⟩ : ∃ d, d = u % 16 := ⟨_, rfl⟩
      have hA : bits .and .u64 (u : Int) 15 = (d : Int) := by rw [Wt.and15 _ (by omega) (by omega)]; omega
      have hcase : d = 0 ∨ d = 1 ∨ d = 2 ∨ d = 3 ∨ d = 4 ∨ d = 5 ∨ d = 6 ∨ d = 7 ∨ d = 8 ∨ d = 9 ∨ d = 10 ∨ d = 11 ∨ d = 12 ∨ d = 13 ∨ d = 14 ∨ d = 15 := by omega
      have HS := HF.out.step hlt16
      rw [← hdd] at HS
      have HREL : Hid (∀ z : Int, z = ((Wt.hx d).toNat : Int) → Wt.FmtRel r w (gk - 1) (.int .u64 ((u : Int) / 16)) (.int .i64 (q : Int)) (wr.setCell ⟨w.heap.size, q, none⟩ (.int .u8 z))) := Lib.hid (fun z e => by rw [e]; exact HS.2)
      have HG := Lib.hid HS.1
      clear hdd HS
      rcases hcase with rfl | rfl | rfl | rfl | rfl | rfl | rfl | rfl | rfl | rfl | rfl | rfl | rfl | rfl | rfl | rfl
      all_goals
        go_wp2_with fail
        go_roundg (gk - 1)
        case measure => exact Nat.sub_lt HG.out (by decide)
        case rel => exact HREL.out _ (by decide)
    · have hcase : u = 0 ∨ u = 1 ∨ u = 2 ∨ u = 3 ∨ u = 4 ∨ u = 5 ∨ u = 6 ∨ u = 7 ∨ u = 8 ∨ u = 9 ∨ u = 10 ∨ u = 11 ∨ u = 12 ∨ u = 13 ∨ u = 14 ∨ u = 15 := by omega
      have HCV : Hid (∀ z : Int, z = ((Wt.hx u).toNat : Int) → (convert 27 9 (.slice (some ⟨w.heap.size, q, none⟩) (65 - q) (65 - q))).run Tryz.prog (wr.setCell ⟨w.heap.size, q, none⟩ (.int .u8 z)) = .ok (.string ⟨(Wt.hex r).toArray⟩) (wr.setCell ⟨w.heap.size, q, none⟩ (.int .u8 z))) := Lib.hid (fun z e => by rw [e]; exact HF.out.last (by omega))
      have HEND : Hid (∀ v, Below w.heap.size w (wr.setCell ⟨w.heap.size, q, none⟩ v)) := Lib.hid (fun v => HB.out.setCell (p := ⟨w.heap.size, q, none⟩) (Nat.le_refl _) v)
      clear hlt16 HF
      have hsl := Wt.slice65 w.heap.size q hq65
      rcases hcase with rfl | rfl | rfl | rfl | rfl | rfl | rfl | rfl | rfl | rfl | rfl | rfl | rfl | rfl | rfl | rfl
      all_goals
        go_wp2_with fail
        rw [HCV.out _ (by decide)]
        simp only [Result.andThen]
        rw [Oper.upon_value]
        go_wp2_with fail
        go_ret2
        exact ⟨rfl, HEND.out _⟩
set_option maxHeartbeats 1000000 in
theorem Wt.fmtInt0 (r : Nat) (w : World) (hr : r ≤ 1114111) (hd : w.cell? ⟨5, 15, none⟩ = some (.int .u8 4)) :
    Calls Tryz.prog 201 #[.int .i64 r, .int .i64 16] w fun e w' => e = .returned (.string ⟨(Wt.hex r).toArray⟩) ∧ Below w.heap.size w w' := by
  go_enter Tryz.func201, Tryz.ntmps201
  go_wp2_with (go_at_call 228; refine (Wt.fmtBits r _ hr hd).mono ?_)
  rintro e w1 ⟨rfl, hb⟩
  go_wp2
  go_ret
  exact ⟨rfl, hb⟩
theorem Wt.fmtInt (r : Nat) (w : World) (hr : r ≤ 1114111) (hd : w.cell? ⟨5, 15, none⟩ = some (.int .u8 4)) :
    Calls Tryz.prog 197 #[.int .i64 r, .int .i64 16] w fun e w' => e = .returned (.string ⟨(Wt.hex r).toArray⟩) ∧ Below w.heap.size w w' := by
  go_enter Tryz.func197, Tryz.ntmps197
  go_wp2_with fail
  refine (Wt.fmtInt0 r _ hr hd).mono ?_
  rintro e w1 ⟨rfl, hb⟩
  go_wp2
  go_ret
  exact ⟨rfl, hb⟩
end Go.Proofs.YtikmebkfdpbidaaGreatDoor
namespace Go.Proofs.YtikmebkfdpbidaaGreatDoor
open Go.RowKit
set_option linter.unusedVariables false

/-- The table by which FormatInt counts bits. -/
def Wt.Bits (w : World) : Prop := w.cell? ⟨5, 15, none⟩ = some (.int .u8 4)
theorem Wt.Bits.below {w w' : World} (h : Wt.Bits w) (hb : Below w.heap.size w w') : Wt.Bits w' := by
  unfold Wt.Bits at h ⊢
  rw [hb.cell (p := ⟨_, 15, none⟩) (World.block_lt_of_cell? w _ h)]
  exact h
theorem Wt.Bits.kept {B b : Nat} {w w' : World} (h : Wt.Bits w) (hB : 5 < B) (hk : Wt.Kept B b w w') : Wt.Bits w' := by
  unfold Wt.Bits at h ⊢
  rw [hk.1.cell (p := ⟨_, 15, none⟩) hB]
  exact h
theorem Wt.str_app (a b : List UInt8) : (⟨a.toArray⟩ : ByteArray) ++ (⟨b.toArray⟩ : ByteArray) = ⟨(a ++ b).toArray⟩ := by
  apply ByteArray.ext
  simp
set_option maxHeartbeats 4000000 in
set_option maxRecDepth 1000000 in
theorem Wt.hex_any (B b : Nat) (m : Bool) (bs : List Value) (r : Nat) (x c : List UInt8) (w : World) (h : Wr.Is B b m bs w) (hr : r ≤ 1114111) (hd : Wt.Bits w) (hx : x.length ≤ 9) (hc : c.length ≤ 9) (hlen : bs.length + 100 ≤ 140737488355328) :
    Calls Tryz.prog 156 #[.pointer (some ⟨b, 0, none⟩), .int .i32 r, .string ⟨x.toArray⟩, .string ⟨c.toArray⟩] w fun e w' => e = .returned (.tuple #[]) ∧ (Wr.At B b (.pointer (some ⟨b, 0, none⟩)) m (bs ++ Lib.byteCells (x ++ [120] ++ Wt.hex r ++ c)) w' ∧ Wt.Kept B b w w') := by
  have hk := h.blk
  have hl := Wt.hex_len hr
  have KF := fun w' (hb : Below w.heap.size w w') => Wt.fmtInt r w' hr (hd.below hb)
  have KW : ∀ w1, Below w.heap.size w w1 → ∀ s : ByteArray, s = (⟨x.toArray⟩ : ByteArray) ++ (⟨#[120]⟩ : ByteArray) ++ (⟨(Wt.hex r).toArray⟩ : ByteArray) ++ (⟨c.toArray⟩ : ByteArray) → Calls Tryz.prog 45 #[.pointer (some ⟨b, 0, none⟩), .string s] w1 fun e w' => e = .returned (.tuple #[.int .i64 s.size, .nilIface]) ∧ (Wr.At B b (.pointer (some ⟨b, 0, none⟩)) m (bs ++ Lib.byteCells (x ++ [120] ++ Wt.hex r ++ c)) w' ∧ Wt.Kept B b w w') := by
    intro w1 hb2 s hs
    rw [show (⟨#[120]⟩ : ByteArray) = ⟨([120] : List UInt8).toArray⟩ from rfl, Wt.str_app, Wt.str_app, Wt.str_app] at hs
    have h1 := h.keptBelow hb2
    refine (Wt.writeString B b m bs s w1 h1 (by rw [hs]; show _ + (List.toArray _).size ≤ _; simp; omega) (by have := hb2.size; omega)).mono ?_
    rintro e w2 ⟨rfl, h2, k2⟩
    rw [hs, Wt.strCells_str] at h2
    exact ⟨rfl, h2, (Wt.Kept.below hb2 (by omega)).trans k2⟩
  have HF := Lib.hid KF
  have HW := Lib.hid KW
  have hsz : (9223372036854775807 < x.length + 1) = False := eq_false (by omega)
  have hsz2 : (9223372036854775807 < x.length + 1 + (Wt.hex r).length) = False := eq_false (by omega)
  have hsz3 : (9223372036854775807 < x.length + 1 + (Wt.hex r).length + c.length) = False := eq_false (by omega)
  have hwr : IntKind.i64.wrap (r : Int) = r := by rw [IntKind.wrap_i64]; omega
  clear KF KW h hd
  go_enter Tryz.func156, Tryz.ntmps156
  go_wp2_with fail
  go_region_held3 (fun w' => w.heap.size ≤ w'.heap.size)
    (first | exact Nat.le_refl _ | exact hkeep)
    (first
      | (go_at_call 197
         refine (HF.out w.drew (Below.drew (Below.refl _ _))).mono ?_
         rintro z1 w1 ⟨rfl, hb1⟩
         have hbe : Below w.heap.size w w1 := (Below.drew (Below.refl _ _)).trans hb1
         have hkeep : w.heap.size ≤ w1.heap.size := hb1.size)
      | (go_at_call 45
         refine (HW.out w1 hbe _ rfl).mono ?_
         rintro z2 w2 ⟨rfl, h2, k2⟩
         have hkeep : w.heap.size ≤ w2.heap.size := k2.size))
  all_goals go_wp2_with fail
  go_end0
  exact ⟨rfl, h2, k2⟩
end Go.Proofs.YtikmebkfdpbidaaGreatDoor
namespace Go.Proofs.YtikmebkfdpbidaaGreatDoor
open Go.RowKit
set_option linter.unusedVariables false
set_option linter.unusedSimpArgs false

theorem Wt.dec_itoa : ∀ (n : Nat), Lib.decDigits n = Tx.dec n := by
  intro n
  induction n using Nat.strongRecOn with
  | ind n ih =>
    by_cases h : n < 10
    · rw [Lib.decDigits, dif_pos h]
      unfold Tx.dec
      rw [Tx.lo_small h]
      rfl
    · rw [Lib.decDigits, dif_neg h, ih (n / 10) (by omega)]
      unfold Tx.dec
      rw [Tx.lo_big h, List.reverse_cons]
      rfl
theorem Wt.itoa (n : Nat) : Lib.itoa (n : Int) = Tx.dec n := by
  unfold Lib.itoa
  rw [if_neg (by omega), Int.toNat_natCast, Wt.dec_itoa]
/-- What the writer asks of the world: two tables, below its base. -/
structure Wt.Env (B : Nat) (w : World) : Prop where
  bits : Wt.Bits w
  tab : Lib.TabIs Tryz.prog w "internal/strconv.uint64pow10" .u64 Lib.pow10Tab
  lt : 5 < B ∧ 2 < B
theorem Wt.named : Tryz.prog.globalNamed "internal/strconv.uint64pow10" = some 2 := by kernel_rfl
theorem Wt.tabIs_block {w w' : World} (h : Lib.TabIs Tryz.prog w "internal/strconv.uint64pow10" .u64 Lib.pow10Tab) (hb : w'.heap[2]? = w.heap[2]?) : Lib.TabIs Tryz.prog w' "internal/strconv.uint64pow10" .u64 Lib.pow10Tab := by
  unfold Lib.TabIs World.var? at h ⊢
  rw [Wt.named] at h ⊢
  simp only [Option.bind_some] at h ⊢
  rw [hb]
  exact h
theorem Wt.Env.below {B : Nat} {w w' : World} (h : Wt.Env B w) (hb : Below B w w') : Wt.Env B w' := by
  refine ⟨?_, Wt.tabIs_block h.tab (hb.block _ h.lt.2), h.lt⟩
  have h1 := h.bits
  unfold Wt.Bits at h1 ⊢
  rw [hb.cell (p := ⟨_, 15, none⟩) h.lt.1]
  exact h1
theorem Wt.Env.kept {B b : Nat} {w w' : World} (h : Wt.Env B w) (hk : Wt.Kept B b w w') : Wt.Env B w' := h.below hk.1
theorem Wt.itoa_any (x : UInt8) (w : World) (ht : Lib.TabIs Tryz.prog w "internal/strconv.uint64pow10" .u64 Lib.pow10Tab) :
    Calls Tryz.prog 101 #[.int .i64 x.toNat] w fun e w' => e = .returned (.string ⟨(Tx.dec x.toNat).toArray⟩) ∧ Below w.heap.size w w' := by
  have hx := x.toNat_lt
  refine (Tryz.strconv_Itoa x.toNat (by omega) (by omega) w ht).mono ?_
  rintro e w' ⟨rfl, k, os, rfl⟩
  rw [Wt.itoa]
  exact ⟨rfl, ⟨rfl, rfl, rfl, by show w.heap.size ≤ (w.heap ++ os).size; simp, fun i hi => by
    show (w.heap ++ os)[i]? = _
    rw [Array.getElem?_append_left hi]⟩⟩
theorem Wt.Text_any (h : Tr.Hd) (l : Nat) (S : Nat → Prop) (v3 v4 v6 v7 v9 : Value) (w : World) (hI : Tr.Hd.In w S h v3 v4 v6 v7 v9) (hs : h.shape l = true) (hk : h.k = 3) :
    Calls Tryz.prog 78 #[.agg #[.bool h.s1, v3, v4, .bool h.s2, v6, v7], .int .i64 10] w fun e w' => e = .returned (.tuple #[.string (Tx.str (Wt.num h)), .int .i64 0]) ∧ Below w.heap.size w w' := by
  unfold Tr.Hd.shape Tr.Hd.num at hs
  simp only [hk, if_true, Bool.and_eq_true] at hs
  obtain ⟨e1, e2, S1⟩ := Rt.Snd.of hI.ok.w1 hI.ok.w2 hs.1.1.1.1.1
  obtain ⟨e3, e4, S2⟩ := Rt.Snd.of hI.ok.w3 hI.ok.w4 hs.1.1.1.1.2
  have i3 := hI.i3
  have i4 := hI.i4
  have i6 := hI.i6
  have i7 := hI.i7
  rw [e1] at i3
  rw [e2] at i4
  rw [e3] at i6
  rw [e4] at i7
  have hQ : Rt.Q w (.agg #[.bool h.s1, v3, v4, .bool h.s2, v6, v7]) h.s1 (Nt.val h.t1) (Nt.val h.b1) h.s2 (Nt.val h.t2) (Nt.val h.b2) := ⟨v3, v4, v6, v7, rfl, i3, i4, i6, i7⟩
  have hSA := Rt.SoundAt.of_Q hQ S1 S2
  unfold Wt.num
  by_cases h0 : Nt.val h.t2 = 0
  · rw [h0] at hQ
    have := Tx.Text_real h.s1 (Nt.val h.t1) (Nt.val h.b1) h.s2 (Nt.val h.b2) _ w hQ hSA S1.pos ⟨S1.l1, S1.l2⟩
    unfold Wt.cnum
    rw [if_pos h0]
    exact this
  · exact Tx.Text_cplx _ _ _ _ _ _ _ w hQ hSA (by omega) S1.pos S2.pos ⟨S1.l1, S1.l2⟩ ⟨S2.l1, S2.l2⟩
end Go.Proofs.YtikmebkfdpbidaaGreatDoor
namespace Go.Proofs.YtikmebkfdpbidaaGreatDoor
open Go.RowKit
set_option linter.unusedVariables false
set_option linter.unusedSimpArgs false

set_option maxHeartbeats 1000000 in
set_option maxRecDepth 1000000 in
theorem Wt.RealR_any (s s2 : Bool) (a1 a2 a3 a4 : Option Addr) (L1 L2 L3 L4 c1 c2 c3 c4 : Nat) (w : World) :
    Calls Tryz.prog 105 #[.agg #[.bool s, .slice a1 L1 c1, .slice a2 L2 c2, .bool s2, .slice a3 L3 c3, .slice a4 L4 c4]] w fun e w' => e = .returned (.bool ((L3 : Int) == 0)) ∧ Below w.heap.size w w' := by
  have HB0 : Hid (∀ o, Below w.heap.size w (w.alloc o)) := Lib.hid (fun o => (Below.refl _ _).alloc (Nat.le_refl _) o)
  go_enter Tryz.func105, Tryz.ntmps105
  go_wp2_with fail
  go_ret
  exact ⟨rfl, HB0.out _⟩
theorem Wt.three_new (w : World) (o1 o2 o3 : Obj) : (((w.alloc o1).alloc o2).alloc o3).heap[w.heap.size + 2]? = some o3 ∧ Below w.heap.size w (((w.alloc o1).alloc o2).alloc o3) ∧ (((w.alloc o1).alloc o2).alloc o3).heap.size = w.heap.size + 3 := by
  obtain ⟨W, h1, h2, h3, h4, h5, h6⟩ := Rt.three w o1 o2 o3
  rw [h1]
  exact ⟨h4, h6, h5⟩
set_option maxHeartbeats 2000000 in
set_option maxRecDepth 1000000 in
theorem Wt.TextR_q (s : Bool) (t b : Nat) (s2 : Bool) (t2 b2 : Nat) (v : Value) (w : World) (h : Rt.Q w v s t b s2 t2 b2) (S1 : Rt.Snd s t b) (S2 : Rt.Snd s2 t2 b2) :
    Calls Tryz.prog 69 #[v, .int .i64 10] w fun e w' => e = .returned (.tuple #[.string (Tx.str (Wt.cnum s t b s2 t2 b2)), .int .i64 0]) ∧ Below w.heap.size w w' := by
  obtain ⟨tv, bv, tv2, bv2, rfl, h1, h2, h3, h4⟩ := h
  obtain ⟨L1, a1, c1, rfl, hL1⟩ := Tx.N_slice h1
  obtain ⟨L2, a2, c2, rfl, hL2⟩ := Tx.N_slice h2
  obtain ⟨L3, a3, c3, rfl, hL3⟩ := Tx.N_slice h3
  obtain ⟨L4, a4, c4, rfl, hL4⟩ := Tx.N_slice h4
  have hq : (w.alloc (.cells #[.bool s, .slice a1 L1 c1, .slice a2 L2 c2, .bool s2, .slice a3 L3 c3, .slice a4 L4 c4] 26)).heap[w.heap.size]? = some (.cells #[.bool s, .slice a1 L1 c1, .slice a2 L2 c2, .bool s2, .slice a3 L3 c3, .slice a4 L4 c4] 26 (0, 0)) := heap_alloc_new w _
  have hb0 : Below w.heap.size w (w.alloc (.cells #[.bool s, .slice a1 L1 c1, .slice a2 L2 c2, .bool s2, .slice a3 L3 c3, .slice a4 L4 c4] 26)) := (Below.refl _ _).alloc (Nat.le_refl _) _
  have hz : (w.alloc (.cells #[.bool s, .slice a1 L1 c1, .slice a2 L2 c2, .bool s2, .slice a3 L3 c3, .slice a4 L4 c4] 26)).heap.size = w.heap.size + 1 := by simp
  have KS := Rn.SoundN_any s s2 (Nt.dig t) (Nt.dig b) (Nt.dig t2) (Nt.dig b2) _ _ _ _ _ (Nt.In.below h1 hb0 (Nat.le_refl _)) (Nt.In.below h2 hb0 (Nat.le_refl _)) (Nt.In.below h3 hb0 (Nat.le_refl _)) (Nt.In.below h4 hb0 (Nat.le_refl _)) ⟨Nt.dig_wd _, Nt.dig_wd _, by have := S1.l1; omega, by have := S1.l2; omega⟩ ⟨Nt.dig_wd _, Nt.dig_wd _, by have := S2.l1; omega, by have := S2.l2; omega⟩
  rw [S1.sound, S2.sound] at KS
  have KRe := Lib.hid (fun w' (hb2 : Below w.heap.size w w') => Wt.ratTextR_any s t b (.agg #[.bool s, .slice a1 L1 c1, .slice a2 L2 c2]) w' ⟨_, _, rfl, Nt.In.below h1 hb2 (Nat.le_refl _), Nt.In.below h2 hb2 (Nat.le_refl _)⟩ ⟨S1.l1, S1.l2⟩)
  have KIm := Lib.hid (fun w' (hb2 : Below w.heap.size w w') => Wt.ratTextR_any s2 t2 b2 (.agg #[.bool s2, .slice a3 L3 c3, .slice a4 L4 c4]) w' ⟨_, _, rfl, Nt.In.below h3 hb2 (Nat.le_refl _), Nt.In.below h4 hb2 (Nat.le_refl _)⟩ ⟨S2.l1, S2.l2⟩)
  have KSm := Lib.hid (fun (q : Bool) w' v2 (hb2 : Below w.heap.size w w') (hv2 : Rt.R w' v2 q 1 1) => Wt.RatSameR_any s2 t2 b2 q 1 1 (.agg #[.bool s2, .slice a3 L3 c3, .slice a4 L4 c4]) v2 w' ⟨_, _, rfl, Nt.In.below h3 hb2 (Nat.le_refl _), Nt.In.below h4 hb2 (Nat.le_refl _)⟩ hv2 ⟨S2.l1, S2.l2⟩)
  have HC : Hid (∀ w', Below (w.heap.size + 1) (w.alloc (.cells #[.bool s, .slice a1 L1 c1, .slice a2 L2 c2, .bool s2, .slice a3 L3 c3, .slice a4 L4 c4] 26)) w' → (w'.cell? ⟨w.heap.size, 0, none⟩ = some (.bool s) ∧ w'.cell? ⟨w.heap.size, 1, none⟩ = some (.slice a1 L1 c1) ∧ w'.cell? ⟨w.heap.size, 2, none⟩ = some (.slice a2 L2 c2) ∧ w'.cell? ⟨w.heap.size, 3, none⟩ = some (.bool s2) ∧ w'.cell? ⟨w.heap.size, 4, none⟩ = some (.slice a3 L3 c3) ∧ w'.cell? ⟨w.heap.size, 5, none⟩ = some (.slice a4 L4 c4)) ∧ Below w.heap.size w w') := Lib.hid (fun w' hb =>
    ⟨Rt.cells6 ((hb.block w.heap.size (Nat.lt_succ_self _)).trans hq), hb0.trans (hb.mono (Nat.le_succ _))⟩)
  have hf1 := Wt.few_dig S2.l1
  have hf2 := Wt.few_dig S2.l2
  have hf3 := Wt.few_dig S1.l1
  have hf4 := Wt.few_dig S1.l2
  obtain ⟨one, hone⟩ : ∃ z, (decide (t2 = 1) && decide (b2 = 1)) = z := ⟨_, rfl⟩
  obtain ⟨M, hM⟩ : ∃ z, Wt.mag t2 b2 = z := ⟨_, rfl⟩
  have hMl := Wt.mag_len hf1 hf2
  rw [hM] at hMl
  obtain ⟨S0, hS0⟩ : ∃ z, Tx.str (Tx.rat s2 t2 b2) = z := ⟨_, rfl⟩
  obtain ⟨R0, hR0⟩ : ∃ z, Tx.str (Tx.rat s t b) = z := ⟨_, rfl⟩
  have hRl := Wt.rat_len (s := s) hf3 hf4
  rw [hS0] at KIm
  rw [hR0] at KRe
  have hSM : S0 = ⟨((if s2 = true then [45] else []) ++ M).toArray⟩ := by rw [← hS0, Wt.rat_mag, hM]; rfl
  obtain ⟨n, hn⟩ : ∃ z, S0.size = z := ⟨_, rfl⟩
  obtain ⟨k, hk⟩ : ∃ z, R0.size = z := ⟨_, rfl⟩
  have hn2 : n = (if s2 = true then 1 else 0) + M.length := by rw [← hn, hSM]; show (List.toArray _).size = _; cases s2 <;> simp <;> omega
  have hk2 : k ≤ 32772 := by rw [← hk, ← hR0]; show (List.toArray _).size ≤ _; simpa using hRl
  have hnn : n ≤ 40000 := by rw [hn2]; split <;> omega
  have hRE : t2 = 0 → Tx.str (Wt.cnum s t b s2 t2 b2) = R0 := fun h0 => by unfold Wt.cnum; rw [if_pos h0, hR0]
  have hCN : t2 ≠ 0 → Tx.str (Wt.cnum s t b s2 t2 b2) = (if t = 0 then ⟨#[]⟩ else R0) ++ (⟨((if s2 = true then 45 else 43) :: ((if one = true then [] else M) ++ [105])).toArray⟩ : ByteArray) := fun h0 => by
    have ho : (one = true) ↔ (t2 = 1 ∧ b2 = 1) := by rw [← hone]; simp
    unfold Wt.cnum
    rw [if_neg h0, hM, ← hR0]
    unfold Tx.str
    by_cases ht : t = 0
    · apply ByteArray.ext
      by_cases h12 : t2 = 1 ∧ b2 = 1 <;> simp [ht, h12, ho]
    · apply ByteArray.ext
      by_cases h12 : t2 = 1 ∧ b2 = 1 <;> simp [ht, h12, ho]
  have HRE := Lib.hid hRE
  have HCN := Lib.hid hCN
  have HSM := Lib.hid hSM
  have HL1 := Lib.hid (hL1 ▸ Nt.dig_len_pos (n := t) : 0 < L1 ↔ 0 < t)
  have HL3 := Lib.hid (hL3 ▸ Nt.dig_len_pos (n := t2) : 0 < L3 ↔ 0 < t2)
  have hsz1 : (9223372036854775807 < 1 + n) = False := eq_false (by omega)
  have hsz2 : (9223372036854775807 < n + 1) = False := eq_false (by omega)
  have hsz3 : (9223372036854775807 < 1 + n + 1) = False := eq_false (by omega)
  have hsz4 : (9223372036854775807 < k + 1) = False := eq_false (by omega)
  have hsz5 : (9223372036854775807 < k + 1 + 1) = False := eq_false (by omega)
  have hsz6 : (9223372036854775807 < k + (1 + n)) = False := eq_false (by omega)
  have hsz7 : (9223372036854775807 < k + (1 + n) + 1) = False := eq_false (by omega)
  have hsz8 : (9223372036854775807 < k + n) = False := eq_false (by omega)
  have hsz9 : (9223372036854775807 < k + n + 1) = False := eq_false (by omega)
  have hsz10 : (9223372036854775807 < n) = False := eq_false (by omega)
  have HZ := Lib.hid hz
  have KX := Lib.hid (Wt.RealR_any s s2 a1 a2 a3 a4 L1 L2 L3 L4 c1 c2 c3 c4)
  have KRX := Lib.hid Wt.RadixR_ten
  rw [hone] at KSm
  rw [hz] at KS
  clear h1 h2 h3 h4 hL1 hL2 hL3 hL4 hq hb0 hz hS0 hR0 hM hMl hRl hCN hRE hSM hn2 hk2 hnn hone hf1 hf2 hf3 hf4 S1 S2
  go_enter Tryz.func69, Tryz.ntmps69
  go_wp2_with fail
  refine KS.mono ?_
  rintro x w1 ⟨rfl, hb1⟩
  have HB1 := Lib.hid hb1
  obtain ⟨⟨e0, e1, e2, e3, e4, e5⟩, hbw1⟩ := HC.out _ hb1
  have HBW1 := Lib.hid hbw1
  clear hb1 hbw1 KS
  go_wp2_with fail
  refine (KRX.out w1).mono ?_
  rintro x w1' ⟨rfl, hw1⟩
  subst hw1
  go_wp2_with fail
  refine (KX.out w1).mono ?_
  rintro x w2 ⟨rfl, hb2⟩
  have HB2 := Lib.hid (HB1.out.trans (hb2.mono (by have := HB1.out.size; simp at this; omega)))
  clear hb2 e0 e1 e2 e3 e4 e5
  obtain ⟨⟨e0, e1, e2, e3, e4, e5⟩, hbw2⟩ := HC.out _ HB2.out
  have HBW2 := Lib.hid hbw2
  clear hbw2
  rcases Nat.eq_zero_or_pos L3 with hl3 | hl3
  · subst hl3
    have ht2 : t2 = 0 := by
      have := HL3.out
      omega
    have HT2 := Lib.hid ht2
    clear ht2
    go_wp2_with fail
    refine (KRe.out _ HBW2.out).mono ?_
    rintro x w3 ⟨rfl, hb3⟩
    have HBW3 := Lib.hid (HBW2.out.trans (hb3.mono HBW2.out.size))
    clear hb3
    go_wp2_with fail
    go_ret2
    exact ⟨by rw [HRE.out HT2.out]; rfl, HBW3.out⟩
  · have hl30 : ((L3 : Int) == 0) = false := beq_eq_false_iff_ne.2 (by omega)
    have hcn := HCN.out (by have := HL3.out.1 hl3; omega)
    have HCN2 := Lib.hid hcn
    clear hcn hl3
    rw [hl30]
    have HNX : Hid (∀ w3 : World, Below (w.heap.size + 1) (w.alloc (.cells #[.bool s, .slice a1 L1 c1, .slice a2 L2 c2, .bool s2, .slice a3 L3 c3, .slice a4 L4 c4] 26)) w3 → ∃ W4, ((w3.alloc (.cells #[.int .u32 1] 144)).alloc (.cells #[.int .u32 1] 144)).alloc (.cells #[.bool false, .slice (some ⟨w3.heap.size, 0, none⟩) 1 1, .slice (some ⟨w3.heap.size + 1, 0, none⟩) 1 1] 24) = W4 ∧ (∀ w', Below W4.heap.size W4 w' → (w'.cell? ⟨w.heap.size, 0, none⟩ = some (.bool s) ∧ w'.cell? ⟨w.heap.size, 1, none⟩ = some (.slice a1 L1 c1) ∧ w'.cell? ⟨w.heap.size, 2, none⟩ = some (.slice a2 L2 c2) ∧ w'.cell? ⟨w.heap.size, 3, none⟩ = some (.bool s2) ∧ w'.cell? ⟨w.heap.size, 4, none⟩ = some (.slice a3 L3 c3) ∧ w'.cell? ⟨w.heap.size, 5, none⟩ = some (.slice a4 L4 c4)) ∧ (w'.cell? ⟨w3.heap.size + 2, 0, none⟩ = some (.bool false) ∧ w'.cell? ⟨w3.heap.size + 2, 1, none⟩ = some (.slice (some ⟨w3.heap.size, 0, none⟩) 1 1) ∧ w'.cell? ⟨w3.heap.size + 2, 2, none⟩ = some (.slice (some ⟨w3.heap.size + 1, 0, none⟩) 1 1)) ∧ Below w.heap.size w w' ∧ Rt.R w' (.agg #[.bool false, .slice (some ⟨w3.heap.size, 0, none⟩) 1 1, .slice (some ⟨w3.heap.size + 1, 0, none⟩) 1 1]) false 1 1)) := Lib.hid (fun w3 hb3 => by
      obtain ⟨W4, hW4, q0, q1, q2, qz, qb⟩ := Rt.three w3 (.cells #[.int .u32 1] 144) (.cells #[.int .u32 1] 144) (.cells #[.bool false, .slice (some ⟨w3.heap.size, 0, none⟩) 1 1, .slice (some ⟨w3.heap.size + 1, 0, none⟩) 1 1] 24)
      refine ⟨W4, hW4, fun w' hb => ?_⟩
      have h0 := (hb.block w3.heap.size (by omega)).trans q0
      have h1 := (hb.block (w3.heap.size + 1) (by omega)).trans q1
      have h2 := (hb.block (w3.heap.size + 2) (by omega)).trans q2
      have hle := hb3.size
      simp at hle
      have hb4 : Below (w.heap.size + 1) w3 w' := (qb.mono hle).trans (hb.mono (by omega))
      obtain ⟨c, cb⟩ := HC.out _ (hb3.trans hb4)
      have n1 : ∀ B, w'.heap[B]? = some (.cells #[.int .u32 1] 144 (0, 0)) → Nt.N w' (.slice (some ⟨B, 0, none⟩) 1 1) 1 := fun B hB => by
        unfold Nt.N
        rw [Nt.dig_small (by decide) (by decide)]
        exact Nt.In.of_row (ws := [1]) hB
      exact ⟨c, Rt.cells3 h2, cb, _, _, rfl, n1 _ h0, n1 _ h1⟩)
    rcases Nat.eq_zero_or_pos L1 with hl1 | hl1
    · subst hl1
      have ht : t = 0 := by
        have := HL1.out
        omega
      have HT := Lib.hid ht
      clear ht
      obtain ⟨W4, hW4, HW4⟩ := HNX.out w2 HB2.out
      have HW := Lib.hid HW4
      obtain ⟨_, ⟨d0, d1, d2⟩, hbw4, hone4⟩ := HW4 _ (Below.refl _ _)
      have HW4' := Lib.hid (And.intro hbw4 hone4)
      clear HW4 hbw4 hone4
      obtain ⟨⟨f0, f1, f2, f3, f4, f5⟩, _⟩ := HW.out _ (Below.refl _ _)
      go_wp2_with fail
      refine (KSm.out false _ _ HW4'.out.1 HW4'.out.2).mono ?_
      rintro x w5 ⟨rfl, hb5⟩
      have HB5 := Lib.hid hb5
      clear d0 d1 d2 f0 f1 f2 f3 f4 f5
      obtain ⟨⟨f0, f1, f2, f3, f4, f5⟩, ⟨d0, d1, d2⟩, hbw5, hone5⟩ := HW.out _ hb5
      have HW5 := Lib.hid (And.intro hbw5 hone5)
      clear hbw5 hone5 hb5
      have hMin := Lib.hid (fun (w' : World) (hb : Below W4.heap.size W4 w') => Wt.MinusR_any false 1 1 _ w' (HW.out w' hb).2.2.2)
      have hS := Lib.hid (fun (w' : World) (hb : Below W4.heap.size W4 w') => And.intro (HW.out w' hb).1 (HW.out w' hb).2.1)
      have HBF := HB5
      cases s2
      · cases one
        · clear HBF
          go_wp2_with fail
          have hacc : Below W4.heap.size W4 w5.drew := HB5.out.drew
          have hkeep := hS.out _ hacc
          go_region_held3 (fun w' => (w'.cell? ⟨w.heap.size, 0, none⟩ = some (.bool s) ∧ w'.cell? ⟨w.heap.size, 1, none⟩ = some (.slice a1 0 c1) ∧ w'.cell? ⟨w.heap.size, 2, none⟩ = some (.slice a2 L2 c2) ∧ w'.cell? ⟨w.heap.size, 3, none⟩ = some (.bool false) ∧ w'.cell? ⟨w.heap.size, 4, none⟩ = some (.slice a3 L3 c3) ∧ w'.cell? ⟨w.heap.size, 5, none⟩ = some (.slice a4 L4 c4)) ∧ (w'.cell? ⟨w2.heap.size + 2, 0, none⟩ = some (.bool false) ∧ w'.cell? ⟨w2.heap.size + 2, 1, none⟩ = some (.slice (some ⟨w2.heap.size, 0, none⟩) 1 1) ∧ w'.cell? ⟨w2.heap.size + 2, 2, none⟩ = some (.slice (some ⟨w2.heap.size + 1, 0, none⟩) 1 1)))
            (first | exact hkeep)
            (first
              | (go_at_call 107
                 refine (hMin.out _ hacc).mono ?_
                 rintro x w6 ⟨v6, rfl, hv6, hb6⟩
                 have hv6 : Rt.R w6 v6 true 1 1 := hv6
                 have hacc := hacc.trans (hb6.mono hacc.size)
                 have hkeep := hS.out _ hacc)
              | (go_at_call 96
                 refine (KSm.out true _ _ (HW.out _ hacc).2.2.1 hv6).mono ?_
                 rintro x w7 ⟨rfl, hb7⟩
                 have hacc := hacc.trans (hb7.mono hacc.size)
                 have hkeep := hS.out _ hacc))
          have HB7 := Lib.hid hacc
          obtain ⟨⟨f0, f1, f2, f3, f4, f5⟩, ⟨d0, d1, d2⟩⟩ := hkeep
          clear hacc hb6 hb7 hv6 hkeep
          go_wp2_with fail
          refine (KIm.out _ (HW.out _ HB7.out).2.2.1).mono ?_
          rintro x w8 ⟨rfl, hb8⟩
          have HBF := Lib.hid (HB7.out.trans (hb8.mono HB7.out.size))
          clear hb8
          go_wp2_with fail
          go_ret2
          refine ⟨Tx.ret2 ?_, (HW.out _ HBF.out).2.2.1⟩
          rw [HCN2.out]
          try rw [HSM.out]
          apply ByteArray.ext
          first | (simp [HT.out]; done) | (simp [HT.out]; apply Array.ext'; simp)
        · go_wp2_with fail
          go_ret2
          refine ⟨Tx.ret2 ?_, (HW.out _ HBF.out).2.2.1⟩
          rw [HCN2.out]
          try rw [HSM.out]
          apply ByteArray.ext
          first | (simp [HT.out]; done) | (simp [HT.out]; apply Array.ext'; simp)
      · cases one
        · clear HBF
          go_wp2_with fail
          have hacc : Below W4.heap.size W4 w5.drew := HB5.out.drew
          have hkeep := hS.out _ hacc
          go_region_held3 (fun w' => (w'.cell? ⟨w.heap.size, 0, none⟩ = some (.bool s) ∧ w'.cell? ⟨w.heap.size, 1, none⟩ = some (.slice a1 0 c1) ∧ w'.cell? ⟨w.heap.size, 2, none⟩ = some (.slice a2 L2 c2) ∧ w'.cell? ⟨w.heap.size, 3, none⟩ = some (.bool true) ∧ w'.cell? ⟨w.heap.size, 4, none⟩ = some (.slice a3 L3 c3) ∧ w'.cell? ⟨w.heap.size, 5, none⟩ = some (.slice a4 L4 c4)) ∧ (w'.cell? ⟨w2.heap.size + 2, 0, none⟩ = some (.bool false) ∧ w'.cell? ⟨w2.heap.size + 2, 1, none⟩ = some (.slice (some ⟨w2.heap.size, 0, none⟩) 1 1) ∧ w'.cell? ⟨w2.heap.size + 2, 2, none⟩ = some (.slice (some ⟨w2.heap.size + 1, 0, none⟩) 1 1)))
            (first | exact hkeep)
            (first
              | (go_at_call 107
                 refine (hMin.out _ hacc).mono ?_
                 rintro x w6 ⟨v6, rfl, hv6, hb6⟩
                 have hv6 : Rt.R w6 v6 true 1 1 := hv6
                 have hacc := hacc.trans (hb6.mono hacc.size)
                 have hkeep := hS.out _ hacc)
              | (go_at_call 96
                 refine (KSm.out true _ _ (HW.out _ hacc).2.2.1 hv6).mono ?_
                 rintro x w7 ⟨rfl, hb7⟩
                 have hacc := hacc.trans (hb7.mono hacc.size)
                 have hkeep := hS.out _ hacc))
          have HB7 := Lib.hid hacc
          obtain ⟨⟨f0, f1, f2, f3, f4, f5⟩, ⟨d0, d1, d2⟩⟩ := hkeep
          clear hacc hb6 hb7 hv6 hkeep
          go_wp2_with fail
          refine (KIm.out _ (HW.out _ HB7.out).2.2.1).mono ?_
          rintro x w8 ⟨rfl, hb8⟩
          have HBF := Lib.hid (HB7.out.trans (hb8.mono HB7.out.size))
          clear hb8
          go_wp2_with fail
          go_ret2
          refine ⟨Tx.ret2 ?_, (HW.out _ HBF.out).2.2.1⟩
          rw [HCN2.out]
          try rw [HSM.out]
          apply ByteArray.ext
          first | (simp [HT.out]; done) | (simp [HT.out]; apply Array.ext'; simp)
        · clear HBF
          go_wp2_with fail
          have hacc : Below W4.heap.size W4 w5.drew := HB5.out.drew
          have hkeep := hS.out _ hacc
          go_region_held3 (fun w' => (w'.cell? ⟨w.heap.size, 0, none⟩ = some (.bool s) ∧ w'.cell? ⟨w.heap.size, 1, none⟩ = some (.slice a1 0 c1) ∧ w'.cell? ⟨w.heap.size, 2, none⟩ = some (.slice a2 L2 c2) ∧ w'.cell? ⟨w.heap.size, 3, none⟩ = some (.bool true) ∧ w'.cell? ⟨w.heap.size, 4, none⟩ = some (.slice a3 L3 c3) ∧ w'.cell? ⟨w.heap.size, 5, none⟩ = some (.slice a4 L4 c4)) ∧ (w'.cell? ⟨w2.heap.size + 2, 0, none⟩ = some (.bool false) ∧ w'.cell? ⟨w2.heap.size + 2, 1, none⟩ = some (.slice (some ⟨w2.heap.size, 0, none⟩) 1 1) ∧ w'.cell? ⟨w2.heap.size + 2, 2, none⟩ = some (.slice (some ⟨w2.heap.size + 1, 0, none⟩) 1 1)))
            (first | exact hkeep)
            (first
              | (go_at_call 107
                 refine (hMin.out _ hacc).mono ?_
                 rintro x w6 ⟨v6, rfl, hv6, hb6⟩
                 have hv6 : Rt.R w6 v6 true 1 1 := hv6
                 have hacc := hacc.trans (hb6.mono hacc.size)
                 have hkeep := hS.out _ hacc)
              | (go_at_call 96
                 refine (KSm.out true _ _ (HW.out _ hacc).2.2.1 hv6).mono ?_
                 rintro x w7 ⟨rfl, hb7⟩
                 have hacc := hacc.trans (hb7.mono hacc.size)
                 have hkeep := hS.out _ hacc))
          have HB7 := Lib.hid hacc
          obtain ⟨⟨f0, f1, f2, f3, f4, f5⟩, ⟨d0, d1, d2⟩⟩ := hkeep
          clear hacc hb6 hb7 hv6 hkeep
          have HBF := HB7
          go_wp2_with fail
          go_ret2
          refine ⟨Tx.ret2 ?_, (HW.out _ HBF.out).2.2.1⟩
          rw [HCN2.out]
          try rw [HSM.out]
          apply ByteArray.ext
          first | (simp [HT.out]; done) | (simp [HT.out]; apply Array.ext'; simp)
    · have hl10 : (0 : Int) < (L1 : Int) := by omega
      have ht : t ≠ 0 := by
        have := HL1.out
        omega
      have HT := Lib.hid ht
      clear ht
      go_wp2_with fail
      refine (KRe.out _ HBW2.out).mono ?_
      rintro x w3 ⟨rfl, hb3⟩
      have HB3 := Lib.hid (HB2.out.trans (hb3.mono (by have := HB2.out.size; simp at this; omega)))
      clear hb3 e0 e1 e2 e3 e4 e5
      obtain ⟨⟨e0, e1, e2, e3, e4, e5⟩, hbw3⟩ := HC.out _ HB3.out
      clear hbw3
      obtain ⟨W4, hW4, HW4⟩ := HNX.out w3 HB3.out
      have HW := Lib.hid HW4
      obtain ⟨_, ⟨d0, d1, d2⟩, hbw4, hone4⟩ := HW4 _ (Below.refl _ _)
      have HW4' := Lib.hid (And.intro hbw4 hone4)
      clear HW4 hbw4 hone4
      obtain ⟨⟨f0, f1, f2, f3, f4, f5⟩, _⟩ := HW.out _ (Below.refl _ _)
      go_wp2_with fail
      refine (KSm.out false _ _ HW4'.out.1 HW4'.out.2).mono ?_
      rintro x w5 ⟨rfl, hb5⟩
      have HB5 := Lib.hid hb5
      clear d0 d1 d2 f0 f1 f2 f3 f4 f5
      obtain ⟨⟨f0, f1, f2, f3, f4, f5⟩, ⟨d0, d1, d2⟩, hbw5, hone5⟩ := HW.out _ hb5
      have HW5 := Lib.hid (And.intro hbw5 hone5)
      clear hbw5 hone5 hb5
      have hMin := Lib.hid (fun (w' : World) (hb : Below W4.heap.size W4 w') => Wt.MinusR_any false 1 1 _ w' (HW.out w' hb).2.2.2)
      have hS := Lib.hid (fun (w' : World) (hb : Below W4.heap.size W4 w') => And.intro (HW.out w' hb).1 (HW.out w' hb).2.1)
      have HBF := HB5
      cases s2
      · cases one
        · clear HBF
          go_wp2_with fail
          have hacc : Below W4.heap.size W4 w5.drew := HB5.out.drew
          have hkeep := hS.out _ hacc
          go_region_held3 (fun w' => (w'.cell? ⟨w.heap.size, 0, none⟩ = some (.bool s) ∧ w'.cell? ⟨w.heap.size, 1, none⟩ = some (.slice a1 L1 c1) ∧ w'.cell? ⟨w.heap.size, 2, none⟩ = some (.slice a2 L2 c2) ∧ w'.cell? ⟨w.heap.size, 3, none⟩ = some (.bool false) ∧ w'.cell? ⟨w.heap.size, 4, none⟩ = some (.slice a3 L3 c3) ∧ w'.cell? ⟨w.heap.size, 5, none⟩ = some (.slice a4 L4 c4)) ∧ (w'.cell? ⟨w3.heap.size + 2, 0, none⟩ = some (.bool false) ∧ w'.cell? ⟨w3.heap.size + 2, 1, none⟩ = some (.slice (some ⟨w3.heap.size, 0, none⟩) 1 1) ∧ w'.cell? ⟨w3.heap.size + 2, 2, none⟩ = some (.slice (some ⟨w3.heap.size + 1, 0, none⟩) 1 1)))
            (first | exact hkeep)
            (first
              | (go_at_call 107
                 refine (hMin.out _ hacc).mono ?_
                 rintro x w6 ⟨v6, rfl, hv6, hb6⟩
                 have hv6 : Rt.R w6 v6 true 1 1 := hv6
                 have hacc := hacc.trans (hb6.mono hacc.size)
                 have hkeep := hS.out _ hacc)
              | (go_at_call 96
                 refine (KSm.out true _ _ (HW.out _ hacc).2.2.1 hv6).mono ?_
                 rintro x w7 ⟨rfl, hb7⟩
                 have hacc := hacc.trans (hb7.mono hacc.size)
                 have hkeep := hS.out _ hacc))
          have HB7 := Lib.hid hacc
          obtain ⟨⟨f0, f1, f2, f3, f4, f5⟩, ⟨d0, d1, d2⟩⟩ := hkeep
          clear hacc hb6 hb7 hv6 hkeep
          go_wp2_with fail
          refine (KIm.out _ (HW.out _ HB7.out).2.2.1).mono ?_
          rintro x w8 ⟨rfl, hb8⟩
          have HBF := Lib.hid (HB7.out.trans (hb8.mono HB7.out.size))
          clear hb8
          go_wp2_with fail
          go_ret2
          refine ⟨Tx.ret2 ?_, (HW.out _ HBF.out).2.2.1⟩
          rw [HCN2.out]
          try rw [HSM.out]
          apply ByteArray.ext
          first | (simp [HT.out]; done) | (simp [HT.out]; apply Array.ext'; simp)
        · go_wp2_with fail
          go_ret2
          refine ⟨Tx.ret2 ?_, (HW.out _ HBF.out).2.2.1⟩
          rw [HCN2.out]
          try rw [HSM.out]
          apply ByteArray.ext
          first | (simp [HT.out]; done) | (simp [HT.out]; apply Array.ext'; simp)
      · cases one
        · clear HBF
          go_wp2_with fail
          have hacc : Below W4.heap.size W4 w5.drew := HB5.out.drew
          have hkeep := hS.out _ hacc
          go_region_held3 (fun w' => (w'.cell? ⟨w.heap.size, 0, none⟩ = some (.bool s) ∧ w'.cell? ⟨w.heap.size, 1, none⟩ = some (.slice a1 L1 c1) ∧ w'.cell? ⟨w.heap.size, 2, none⟩ = some (.slice a2 L2 c2) ∧ w'.cell? ⟨w.heap.size, 3, none⟩ = some (.bool true) ∧ w'.cell? ⟨w.heap.size, 4, none⟩ = some (.slice a3 L3 c3) ∧ w'.cell? ⟨w.heap.size, 5, none⟩ = some (.slice a4 L4 c4)) ∧ (w'.cell? ⟨w3.heap.size + 2, 0, none⟩ = some (.bool false) ∧ w'.cell? ⟨w3.heap.size + 2, 1, none⟩ = some (.slice (some ⟨w3.heap.size, 0, none⟩) 1 1) ∧ w'.cell? ⟨w3.heap.size + 2, 2, none⟩ = some (.slice (some ⟨w3.heap.size + 1, 0, none⟩) 1 1)))
            (first | exact hkeep)
            (first
              | (go_at_call 107
                 refine (hMin.out _ hacc).mono ?_
                 rintro x w6 ⟨v6, rfl, hv6, hb6⟩
                 have hv6 : Rt.R w6 v6 true 1 1 := hv6
                 have hacc := hacc.trans (hb6.mono hacc.size)
                 have hkeep := hS.out _ hacc)
              | (go_at_call 96
                 refine (KSm.out true _ _ (HW.out _ hacc).2.2.1 hv6).mono ?_
                 rintro x w7 ⟨rfl, hb7⟩
                 have hacc := hacc.trans (hb7.mono hacc.size)
                 have hkeep := hS.out _ hacc))
          have HB7 := Lib.hid hacc
          obtain ⟨⟨f0, f1, f2, f3, f4, f5⟩, ⟨d0, d1, d2⟩⟩ := hkeep
          clear hacc hb6 hb7 hv6 hkeep
          go_wp2_with fail
          refine (KIm.out _ (HW.out _ HB7.out).2.2.1).mono ?_
          rintro x w8 ⟨rfl, hb8⟩
          have HBF := Lib.hid (HB7.out.trans (hb8.mono HB7.out.size))
          clear hb8
          go_wp2_with fail
          go_ret2
          refine ⟨Tx.ret2 ?_, (HW.out _ HBF.out).2.2.1⟩
          rw [HCN2.out]
          try rw [HSM.out]
          apply ByteArray.ext
          first | (simp [HT.out]; done) | (simp [HT.out]; apply Array.ext'; simp)
        · clear HBF
          go_wp2_with fail
          have hacc : Below W4.heap.size W4 w5.drew := HB5.out.drew
          have hkeep := hS.out _ hacc
          go_region_held3 (fun w' => (w'.cell? ⟨w.heap.size, 0, none⟩ = some (.bool s) ∧ w'.cell? ⟨w.heap.size, 1, none⟩ = some (.slice a1 L1 c1) ∧ w'.cell? ⟨w.heap.size, 2, none⟩ = some (.slice a2 L2 c2) ∧ w'.cell? ⟨w.heap.size, 3, none⟩ = some (.bool true) ∧ w'.cell? ⟨w.heap.size, 4, none⟩ = some (.slice a3 L3 c3) ∧ w'.cell? ⟨w.heap.size, 5, none⟩ = some (.slice a4 L4 c4)) ∧ (w'.cell? ⟨w3.heap.size + 2, 0, none⟩ = some (.bool false) ∧ w'.cell? ⟨w3.heap.size + 2, 1, none⟩ = some (.slice (some ⟨w3.heap.size, 0, none⟩) 1 1) ∧ w'.cell? ⟨w3.heap.size + 2, 2, none⟩ = some (.slice (some ⟨w3.heap.size + 1, 0, none⟩) 1 1)))
            (first | exact hkeep)
            (first
              | (go_at_call 107
                 refine (hMin.out _ hacc).mono ?_
                 rintro x w6 ⟨v6, rfl, hv6, hb6⟩
                 have hv6 : Rt.R w6 v6 true 1 1 := hv6
                 have hacc := hacc.trans (hb6.mono hacc.size)
                 have hkeep := hS.out _ hacc)
              | (go_at_call 96
                 refine (KSm.out true _ _ (HW.out _ hacc).2.2.1 hv6).mono ?_
                 rintro x w7 ⟨rfl, hb7⟩
                 have hacc := hacc.trans (hb7.mono hacc.size)
                 have hkeep := hS.out _ hacc))
          have HB7 := Lib.hid hacc
          obtain ⟨⟨f0, f1, f2, f3, f4, f5⟩, ⟨d0, d1, d2⟩⟩ := hkeep
          clear hacc hb6 hb7 hv6 hkeep
          have HBF := HB7
          go_wp2_with fail
          go_ret2
          refine ⟨Tx.ret2 ?_, (HW.out _ HBF.out).2.2.1⟩
          rw [HCN2.out]
          try rw [HSM.out]
          apply ByteArray.ext
          first | (simp [HT.out]; done) | (simp [HT.out]; apply Array.ext'; simp)
theorem Wt.TextR_any (h : Tr.Hd) (l : Nat) (S : Nat → Prop) (v3 v4 v6 v7 v9 : Value) (w : World) (hI : Tr.Hd.In w S h v3 v4 v6 v7 v9) (hs : h.shape l = true) (hk : h.k = 3) :
    Calls Tryz.prog 69 #[.agg #[.bool h.s1, v3, v4, .bool h.s2, v6, v7], .int .i64 10] w fun e w' => e = .returned (.tuple #[.string (Tx.str (Wt.num h)), .int .i64 0]) ∧ Below w.heap.size w w' := by
  unfold Tr.Hd.shape Tr.Hd.num at hs
  simp only [hk, if_true, Bool.and_eq_true] at hs
  obtain ⟨e1, e2, S1⟩ := Rt.Snd.of hI.ok.w1 hI.ok.w2 hs.1.1.1.1.1
  obtain ⟨e3, e4, S2⟩ := Rt.Snd.of hI.ok.w3 hI.ok.w4 hs.1.1.1.1.2
  have i3 := hI.i3
  have i4 := hI.i4
  have i6 := hI.i6
  have i7 := hI.i7
  rw [e1] at i3
  rw [e2] at i4
  rw [e3] at i6
  rw [e4] at i7
  exact Wt.TextR_q _ _ _ _ _ _ _ w ⟨v3, v4, v6, v7, rfl, i3, i4, i6, i7⟩ S1 S2
end Go.Proofs.YtikmebkfdpbidaaGreatDoor
namespace Go.Proofs.YtikmebkfdpbidaaGreatDoor
open Go.RowKit
set_option linter.unusedVariables false
set_option linter.unusedSimpArgs false

theorem Wt.retB {a b : Bool} (h : a = b) : Ending.returned (.bool a) = .returned (.bool b) := by rw [h]
set_option maxHeartbeats 1000000 in
theorem Wt.odd_any (r : Int) (w : World) :
    Calls Tryz.prog 154 #[.int .i32 r] w fun e w' => e = .returned (.bool (Wt.odd r)) ∧ w = w' := by
  go_enter Tryz.func154, Tryz.ntmps154
  go_wp2
  all_goals
    go_ret
    refine ⟨Wt.retB ?_, rfl⟩
    unfold Wt.odd
    by_cases h1 : r < 32 <;> by_cases h2 : 127 ≤ r <;> by_cases h3 : r ≤ 159 <;> first | (exfalso; omega) | (simp [h1, h2, h3]; done) | (simp [h1, h2, h3]; omega) | (simp_all; done) | (simp_all; omega)
set_option maxHeartbeats 1000000 in
theorem Wt.oddR_any (r : Int) (w : World) :
    Calls Tryz.prog 109 #[.int .i32 r] w fun e w' => e = .returned (.bool (Wt.odd r)) ∧ w = w' := by
  go_enter Tryz.func109, Tryz.ntmps109
  go_wp2
  all_goals
    go_ret
    refine ⟨Wt.retB ?_, rfl⟩
    unfold Wt.odd
    by_cases h1 : r < 32 <;> by_cases h2 : 127 ≤ r <;> by_cases h3 : r ≤ 159 <;> first | (exfalso; omega) | (simp [h1, h2, h3]; done) | (simp [h1, h2, h3]; omega) | (simp_all; done) | (simp_all; omega)
set_option maxHeartbeats 4000000 in
theorem Wt.CharName_any (n : Int) (w : World) :
    Calls Tryz.prog 153 #[.int .i64 n] w fun e w' => e = .returned (.string ⟨(Wt.name n).toArray⟩) ∧ w = w' := by
  go_enter Tryz.func153, Tryz.ntmps153
  go_wp2
  all_goals
    go_ret
    refine ⟨?_, rfl⟩
    simp_all [Wt.name]
set_option maxHeartbeats 1000000 in
theorem Wt.blank_any (r : Int) (w : World) :
    Calls Tryz.prog 155 #[.int .i32 r] w fun e w' => e = .returned (.bool (Ch.blankB r)) ∧ w = w' := by
  go_enter Tryz.func155, Tryz.ntmps155
  go_wp2
  all_goals
    go_ret
    refine ⟨?_, rfl⟩
    simp_all [Ch.blankB]
set_option maxHeartbeats 1000000 in
theorem Wt.blankR_any (r : Int) (w : World) :
    Calls Tryz.prog 110 #[.int .i32 r] w fun e w' => e = .returned (.bool (Ch.blankB r)) ∧ w = w' := by
  go_enter Tryz.func110, Tryz.ntmps110
  go_wp2
  all_goals
    go_ret
    refine ⟨Wt.retB ?_, rfl⟩
    unfold Ch.blankB
    rw [Bool.eq_iff_iff]
    simp only [Bool.or_eq_true, beq_iff_eq, decide_eq_true_eq, Bool.and_eq_true]
    first | omega | (simp_all; omega) | (simp_all; done)
end Go.Proofs.YtikmebkfdpbidaaGreatDoor
