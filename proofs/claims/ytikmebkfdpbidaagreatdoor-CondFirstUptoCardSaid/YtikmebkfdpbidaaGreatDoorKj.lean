/-
  The methods of the strings.Builder that lies ahead in a writer of write's own: copyCheck, WriteString, String. Conditions: the writer is one of the call's own, its length stays within 2^47 bytes.
  write.Display of a text or a symbol that is short and plain.
  cond.Tell of what cond.Error has made, and the fixed fact of layer 16's laws.
  The walk of the law CondFirst.
  Arguments that are data, opened: a datum in memory is a tree.
  Arguments that are conditions, opened.
-/
import Derived.Test.YtikmebkfdpbidaaGreatDoorProg
import Derived.WalkKit
import Derived.WalkSpells
import Derived.WalkLawsBesides
import Derived.Handy
import Derived.Lib.Hide
import Derived.Shelf.Strings.Builder1
import Derived.Outline
import Derived.Test.YtikmebkfdpbidaaGreatDoorRows
import Derived.OpenShut
import Derived.WideShapes
import Derived.ChangeArms
import Derived.ChangeSlices
import Derived.Lib.SmallJoins
import Derived.Test.YtikmebkfdpbidaaGreatDoorKe
import Derived.Test.YtikmebkfdpbidaaGreatDoorCoErrorK
import Derived.Test.YtikmebkfdpbidaaGreatDoorKh
import Derived.Test.YtikmebkfdpbidaaGreatDoorSmSameK
import Derived.Test.YtikmebkfdpbidaaGreatDoorKb
namespace Go.Proofs.YtikmebkfdpbidaaGreatDoor
open Go.RowKit
set_option linter.unusedVariables false

theorem Wr.infoByte : (Tryz.prog.info? 5).map (fun i => (i.zero, i.size, i.bytes)) = some (some (.int .u8 0), 1, 1) := by kernel_rfl
theorem Wr.sizeBuilder : (Tryz.prog.info? 94).map (·.size) = some 2 := by kernel_rfl
theorem Wr.lies : liesAt Tryz.prog Tryz.prog.depth 128 (3 / Tryz.prog.cellsOf 128) 0 94 1 = true := by kernel_rfl
theorem Wr.cellsByte : Tryz.prog.cellsOf 5 = 1 := by kernel_rfl

/-- A writer at block b (one of the call's own), that holds the bytes bs. -/
def Wr.At (B b : Nat) (p : Value) (m : Bool) (bs : List Value) (w : World) : Prop :=
  B ≤ b ∧ ∃ v, w.heap[b]? = some (.cells #[p, v, .bool m] 128 (0, 0)) ∧ w.ownsRowF B 5 1 v bs.length bs ∧ v.ownBlock ≠ some b
def Wr.Is (B b : Nat) (m : Bool) (bs : List Value) (w : World) : Prop := Wr.At B b (.pointer none) m bs w ∨ Wr.At B b (.pointer (some ⟨b, 0, none⟩)) m bs w

theorem Wr.At.cells {B b : Nat} {p : Value} {m : Bool} {bs : List Value} {w : World} (h : Wr.At B b p m bs w) : w.cell? ⟨b, 0, none⟩ = some p ∧ w.cell? ⟨b, 2, none⟩ = some (.bool m) ∧ w.frozen? ⟨b, 0, none⟩ = false ∧ w.shape? b = some (128, 3) := by
  obtain ⟨_, v, hb, _⟩ := h
  simp [World.cell?, World.frozen?, World.shape?, hb]
theorem Wr.At.used {B b : Nat} {p : Value} {m : Bool} {bs : List Value} {w : World} (h : Wr.At B b p m bs w) (q : Value) : Wr.At B b q m bs (w.setCell ⟨b, 0, none⟩ q) := by
  obtain ⟨hB, v, hb, hown, hne⟩ := h
  refine ⟨hB, v, ?_, ?_, hne⟩
  · simp [World.setCell, Array.getElem?_modify, hb]
  · exact hown.kept (row := some b) ⟨rfl, rfl, rfl, by simp [World.setCell], fun k _ hk => Below.heap_setCell _ _ _ _ (fun e => hk (by simp [e]))⟩ (Or.inr hne)
theorem Wr.At.put {B b : Nat} {p v v' : Value} {m : Bool} {bs' : List Value} {w : World} (hB : B ≤ b) (hb : w.heap[b]? = some (.cells #[p, v, .bool m] 128 (0, 0))) (hown : w.ownsRowF B 5 1 v' bs'.length bs') :
    Wr.At B b p m bs' (w.setCell ⟨b, 1, none⟩ v') := by
  have hne := Lib.ownBlock_neF hown hb (by decide)
  refine ⟨hB, v', ?_, ?_, hne⟩
  · simp [World.setCell, Array.getElem?_modify, hb]
  · exact hown.kept (row := some b) ⟨rfl, rfl, rfl, by simp [World.setCell], fun k _ hk => Below.heap_setCell _ _ _ _ (fun e => hk (by simp [e]))⟩ (Or.inr hne)

set_option maxHeartbeats 1000000 in
set_option maxRecDepth 100000 in
theorem Wr.copyCheck_used (b : Nat) (w : World) (h0 : w.cell? ⟨b, 0, none⟩ = some (.pointer (some ⟨b, 0, none⟩))) :
    Calls Tryz.prog 81 #[.pointer (some ⟨b, 0, none⟩)] w fun e w' => e = .returned (.tuple #[]) ∧ w' = w := by
  obtain ⟨j, hj, _⟩ := Option.map_eq_some_iff.1 Wr.sizeBuilder
  go_enter Tryz.func81, Tryz.ntmps81
  go_wp2
  rw [Lib.run_neq_ptr_same w _ Tryz.underlying92 hj]
  go_wp2
  go_end0
  exact ⟨rfl, rfl⟩

set_option maxHeartbeats 1000000 in
set_option maxRecDepth 100000 in
theorem Wr.copyCheck_fresh (b : Nat) (w : World) (h0 : w.cell? ⟨b, 0, none⟩ = some (.pointer none)) (hsh : w.shape? b = some (128, 3)) (hfz : w.frozen? ⟨b, 0, none⟩ = false) :
    Calls Tryz.prog 81 #[.pointer (some ⟨b, 0, none⟩)] w fun e w' => e = .returned (.tuple #[]) ∧ w' = w.setCell ⟨b, 0, none⟩ (.pointer (some ⟨b, 0, none⟩)) := by
  obtain ⟨j, hj, hjs⟩ := Option.map_eq_some_iff.1 Wr.sizeBuilder
  go_enter Tryz.func81, Tryz.ntmps81
  go_wp2
  rw [Lib.run_to_unsafe w ⟨b, 0, none⟩ Tryz.underlying92 Tryz.underlying173 hj (by rw [hjs]; decide) hsh (Nat.zero_lt_succ 2)]
  simp only [Result.andThen]
  rw [Oper.upon_value]
  go_wp2
  rw [run_callFunc_extern Tryz.func127 (by kernel_rfl) (by kernel_rfl) (by kernel_rfl) (e := Extern.AbiNoEscape.same) (by kernel_rfl)]
  rw [Lib.run_noEscape]
  simp only [Result.andThen]
  rw [Oper.upon_value]
  go_wp2
  rw [Lib.run_from_unsafe w ⟨b, 0, none⟩ Tryz.underlying173 Tryz.underlying92 hj hsh Wr.lies]
  simp only [Result.andThen]
  rw [Oper.upon_value]
  go_wp2
  go_end0
  exact ⟨rfl, rfl⟩

theorem Wr.copyCheck (B b : Nat) (m : Bool) (bs : List Value) (w : World) (h : Wr.Is B b m bs w) :
    Calls Tryz.prog 81 #[.pointer (some ⟨b, 0, none⟩)] w fun e w' => e = .returned (.tuple #[]) ∧ (Wr.At B b (.pointer (some ⟨b, 0, none⟩)) m bs w' ∧ Below B w w') := by
  rcases h with h | h
  · refine (Wr.copyCheck_fresh b w h.cells.1 h.cells.2.2.2 h.cells.2.2.1).mono ?_
    rintro e w' ⟨rfl, rfl⟩
    exact ⟨rfl, h.used _, (Below.refl B w).setCell (p := ⟨b, 0, none⟩) h.1 _⟩
  · refine (Wr.copyCheck_used b w h.cells.1).mono ?_
    rintro e w' ⟨rfl, rfl⟩
    exact ⟨rfl, h, Below.refl B _⟩

set_option maxHeartbeats 2000000 in
set_option maxRecDepth 100000 in
theorem Wr.writeString (B b : Nat) (m : Bool) (bs : List Value) (s : ByteArray) (w : World) (h : Wr.Is B b m bs w) (hlen : bs.length + s.size ≤ 140737488355328) (hBw : B ≤ w.heap.size) :
    Calls Tryz.prog 45 #[.pointer (some ⟨b, 0, none⟩), .string s] w fun e w' => e = .returned (.tuple #[.int .i64 s.size, .nilIface]) ∧ (Wr.At B b (.pointer (some ⟨b, 0, none⟩)) m (bs ++ Lib.strCells s) w' ∧ Below B w w') := by
  obtain ⟨i0, hi, hz0, hz1, hz2⟩ := info_parts Wr.infoByte
  go_enter Tryz.func45, Tryz.ntmps45
  go_wp2_with (go_at_call 81; refine (Wr.copyCheck B b m bs _ h).mono ?_)
  rintro e w1 ⟨rfl, h1, hb1⟩
  obtain ⟨hB, v, hbk, hown, hne⟩ := h1
  have c0 : w1.cell? ⟨b, 0, none⟩ = some (.pointer (some ⟨b, 0, none⟩)) := by rw [Lib.cell_of_heap hbk]; rfl
  have c1 : w1.cell? ⟨b, 1, none⟩ = some v := by rw [Lib.cell_of_heap hbk]; rfl
  go_wp2_with (at_builtin; refine Lib.wpList_append_own_stringF _ rfl _ _ 27 9 rfl B 5 i0 Tryz.underlying27 Tryz.underlying9 hi hz0 hz1 hz2 _ _ _ rfl hown s rfl ?c3 ?c4 ?c5 ?_)
  case c3 => unfold maxLen; omega
  case c4 => omega
  case c5 => have := hb1.size; omega
  intro v' w2 hown' hgrow _
  have hlt : b < w1.heap.size := (Array.getElem?_eq_some_iff.1 hbk).1
  have hb2 : w2.heap[b]? = some (.cells #[.pointer (some ⟨b, 0, none⟩), v, .bool m] 128 (0, 0)) := by
    rw [hgrow.block b hlt (fun e => hne e.symm)]
    exact hbk
  have d0 : w2.cell? ⟨b, 0, none⟩ = some (.pointer (some ⟨b, 0, none⟩)) := by rw [Lib.cell_of_heap hb2]; rfl
  have d1 : w2.cell? ⟨b, 1, none⟩ = some v := by rw [Lib.cell_of_heap hb2]; rfl
  have f1 : w2.frozen? ⟨b, 1, none⟩ = false := Lib.frozen_of_heap hb2 1
  obtain ⟨ao, n', cap, rfl⟩ : ∃ ao n' cap, v' = .slice ao n' cap := by
    rcases hown'.2 with ⟨hv, _⟩ | ⟨g, cap, cur, fz, hv, _⟩
    · exact ⟨_, _, _, hv⟩
    · exact ⟨_, _, _, hv⟩
  go_wp2
  go_ret2
  refine ⟨rfl, ?_, ?_⟩
  · exact Wr.At.put hB hb2 (bs' := bs ++ Lib.strCells s) (by simpa [Lib.strCells_length] using hown')
  · exact (hb1.grown hgrow (by have := hb1.size; omega) (fun k hk => (hown.lt k hk).1)).setCell (p := ⟨b, 1, none⟩) hB _

set_option maxHeartbeats 1000000 in
set_option maxRecDepth 100000 in
/-- String, of a writer that holds at least one byte. -/
theorem Wr.string (B b : Nat) (m : Bool) (l : List UInt8) (p : Value) (w : World) (h : Wr.At B b p m (Lib.byteCells l) w) (h0 : l ≠ []) :
    Calls Tryz.prog 49 #[.pointer (some ⟨b, 0, none⟩)] w fun e w' => e = .returned (.string ⟨l.toArray⟩) ∧ Below B w w' := by
  obtain ⟨hB, v, hbk, hown, hne⟩ := h
  have hl0 : l.length ≠ 0 := by simpa using h0
  rw [Lib.byteCells_length] at hown
  obtain ⟨g, cap, cur, fz, rfl, hbg, hg, hfz, hnc, hcm, hcs, htake⟩ : ∃ g cap cur fz, v = .slice (some ⟨g, 0, none⟩) l.length cap ∧ B ≤ g ∧ w.heap[g]? = some (.cells cur 5 fz) ∧ fz.2 ≤ l.length * 1 ∧ l.length ≤ cap ∧ cap ≤ maxLen ∧ cur.size = cap * 1 ∧ cur.toList.take (l.length * 1) = Lib.byteCells l := by
    rcases hown.2 with ⟨_, hz⟩ | ⟨g, cap, cur, fz, hv, r⟩
    · exact absurd hz hl0
    · exact ⟨g, cap, cur, fz, hv, r⟩
  have c1 : w.drew.cell? ⟨b, 1, none⟩ = some (.slice (some ⟨g, 0, none⟩) l.length cap) := by
    have : w.drew.heap[b]? = some (.cells #[p, .slice (some ⟨g, 0, none⟩) l.length cap, .bool m] 128 (0, 0)) := hbk
    rw [Lib.cell_of_heap this]; rfl
  have hSD : (Builtin.unsafeSliceData_ #[27] 142 #[.slice (some ⟨g, 0, none⟩) l.length cap]).run Tryz.prog w.drew = .ok (.pointer (some ⟨g, 0, none⟩)) w.drew :=
    Lib.run_unsafeSliceData_row _ _ _ _ _ _ (by omega)
  have hUS : (Builtin.unsafeString_ #[142, 3] 9 #[.pointer (some ⟨g, 0, none⟩), .int .i64 l.length]).run Tryz.prog w.drew = .ok (.string ⟨l.toArray⟩) (w.drew.freeze ⟨g, 0, none⟩ l.length) := by
    refine Lib.run_unsafeString_row w.drew 142 3 9 5 Tryz.underlying142 Wr.cellsByte g cur.size (by have hg' : w.drew.heap[g]? = some (.cells cur 5 fz) := hg; simp [World.shape?, hg']) l h0 (by omega) (by unfold maxLen at hcm; omega) ?_
    intro j x hx
    have := hown.cells (g := g) rfl j (.int .u8 x.toNat) (by simp [Lib.byteCells, hx])
    exact this
  have hend : Below B w (w.drew.freeze ⟨g, 0, none⟩ l.length) := Lib.below_freeze (Below.drew (Below.refl B w)) (p := ⟨g, 0, none⟩) hbg _
  go_enter Tryz.func49, Tryz.ntmps49
  go_wp2
  go_region
  all_goals (go_wp2; go_ret; exact ⟨rfl, hend⟩)
end Go.Proofs.YtikmebkfdpbidaaGreatDoor
namespace Go.Proofs.YtikmebkfdpbidaaGreatDoor
open Go.RowKit
set_option linter.unusedVariables false

theorem Wr.strCells_eq (l : List UInt8) : Lib.strCells ⟨l.toArray⟩ = Lib.byteCells l := by
  simp [Lib.strCells, Lib.byteCells]

set_option maxHeartbeats 4000000 in
set_option maxRecDepth 1000000 in
theorem Wr.text_plain (B b : Nat) (l : List UInt8) (hl : l.length ≤ 1000) (w : World) (h : Wr.At B b (.pointer none) false [] w) (hBw : B ≤ w.heap.size) :
    Calls Tryz.prog 98 #[.pointer (some ⟨b, 0, none⟩), .string ⟨l.toArray⟩] w fun e w' => e = .returned (.tuple #[]) ∧ Wr.At B b (.pointer (some ⟨b, 0, none⟩)) false (Lib.byteCells l) w' ∧ Below B w w' := by
  have KW := Lib.hid (Wr.writeString B b false [] ⟨l.toArray⟩ w (.inl h) (by show 0 + l.length ≤ _; omega) hBw)
  rw [List.nil_append, Wr.strCells_eq] at KW
  obtain ⟨c0, c2, z0, _⟩ := h.cells
  clear h
  go_enter Tryz.func98, Tryz.ntmps98
  go_wp2_with fail
  refine KW.out.mono ?_
  rintro x w1 ⟨rfl, hA, hb⟩
  have HA := Lib.hid hA
  have HB := Lib.hid hb
  clear hA hb KW
  go_wp2_with fail
  first | go_end0 | refine bodyPost_ret (results_none rfl _ _ _) rfl ?_
  exact ⟨rfl, HA.out, HB.out⟩
set_option maxHeartbeats 4000000 in
set_option maxRecDepth 1000000 in
theorem Wr.symbol_plain (B b : Nat) (l : List UInt8) (hl : l.length ≤ 1000) (w : World) (h : Wr.At B b (.pointer none) false [] w) (hBw : B ≤ w.heap.size) :
    Calls Tryz.prog 99 #[.pointer (some ⟨b, 0, none⟩), .string ⟨l.toArray⟩] w fun e w' => e = .returned (.tuple #[]) ∧ Wr.At B b (.pointer (some ⟨b, 0, none⟩)) false (Lib.byteCells l) w' ∧ Below B w w' := by
  have KW := Lib.hid (Wr.writeString B b false [] ⟨l.toArray⟩ w (.inl h) (by show 0 + l.length ≤ _; omega) hBw)
  rw [List.nil_append, Wr.strCells_eq] at KW
  obtain ⟨c0, c2, z0, _⟩ := h.cells
  clear h
  go_enter Tryz.func99, Tryz.ntmps99
  go_wp2_with fail
  refine KW.out.mono ?_
  rintro x w1 ⟨rfl, hA, hb⟩
  have HA := Lib.hid hA
  have HB := Lib.hid hb
  clear hA hb KW
  go_wp2_with fail
  first | go_end0 | refine bodyPost_ret (results_none rfl _ _ _) rfl ?_
  exact ⟨rfl, HA.out, HB.out⟩
theorem Wr.At.alloc {B b : Nat} {p : Value} {m : Bool} {bs : List Value} {w : World} (h : Wr.At B b p m bs w) (o : Obj) : Wr.At B b p m bs (w.alloc o) := by
  obtain ⟨hB, v, hb, hown, hne⟩ := h
  have hlt : b < w.heap.size := (Array.getElem?_eq_some_iff.1 hb).1
  exact ⟨hB, v, (Lib.alloc_old w o b hlt).trans hb, hown.kept (World.grownBy_alloc w o none) (by cases hv : v.ownBlock <;> simp), hne⟩
set_option maxHeartbeats 4000000 in
set_option maxRecDepth 1000000 in
theorem Wr.datum_plain (B b : Nat) (k : Int) (hk : k = 5 ∨ k = 6) (l : List UInt8) (hl : l.length ≤ 1000) (lst : Value) (hlst : ∃ ad cap, lst = .slice ad 0 cap) (w : World) (h : Wr.At B b (.pointer none) false [] w) (hBw : B ≤ w.heap.size) :
    Calls Tryz.prog 68 #[.pointer (some ⟨b, 0, none⟩), Dt.leaf k ⟨l.toArray⟩ lst] w fun e w' => e = .returned (.tuple #[]) ∧ Wr.At B b (.pointer (some ⟨b, 0, none⟩)) false (Lib.byteCells l) w' ∧ Below B w w' := by
  have hA := fun o => h.alloc o
  have hb0 : ∀ o, Below B w (w.alloc o) := fun o => (Below.refl _ _).alloc hBw _
  have hz : ∀ o, B ≤ (w.alloc o).heap.size := fun o => (hb0 o).size |> Nat.le_trans hBw
  obtain ⟨ad, cap, rfl⟩ := hlst
  have KT := fun o => Wr.text_plain B b l hl (w.alloc o) (hA o) (hz o)
  have KS := fun o => Wr.symbol_plain B b l hl (w.alloc o) (hA o) (hz o)
  clear h hA
  rcases hk with rfl | rfl
  · unfold Dt.leaf Dt.cells
    go_enter Tryz.func68, Tryz.ntmps68
    go_wp2_with fail
    refine (KT _).mono ?_
    rintro x w1 ⟨rfl, hA, hb⟩
    have HA := Lib.hid hA
    have HB := Lib.hid ((hb0 _).trans hb)
    clear hA hb KT KS
    go_wp2_with fail
    first | go_end0 | refine bodyPost_ret (results_none rfl _ _ _) rfl ?_
    exact ⟨rfl, HA.out, HB.out⟩
  · unfold Dt.leaf Dt.cells
    go_enter Tryz.func68, Tryz.ntmps68
    go_wp2_with fail
    refine (KS _).mono ?_
    rintro x w1 ⟨rfl, hA, hb⟩
    have HA := Lib.hid hA
    have HB := Lib.hid ((hb0 _).trans hb)
    clear hA hb KT KS
    go_wp2_with fail
    first | go_end0 | refine bodyPost_ret (results_none rfl _ _ _) rfl ?_
    exact ⟨rfl, HA.out, HB.out⟩
set_option maxHeartbeats 4000000 in
set_option maxRecDepth 1000000 in
theorem Wr.display_plain (k : Int) (hk : k = 5 ∨ k = 6) (l : List UInt8) (h0 : l ≠ []) (hl : l.length ≤ 1000) (lst : Value) (hlst : ∃ ad cap, lst = .slice ad 0 cap) (hV : Dt.valid ⟨l.toArray⟩) (w : World) :
    Calls Tryz.prog 40 #[Dt.leaf k ⟨l.toArray⟩ lst, .bool false] w fun e w' => e = .returned (.tuple #[.string ⟨l.toArray⟩, .int .i64 0]) ∧ Below w.heap.size w w' := by
  have KS := Lib.hid (fun w => Dt.Sound_leaf k ⟨l.toArray⟩ lst (hk.elim (fun h => .inr (.inr (.inl h))) (fun h => .inr (.inr (.inr h)))) hlst hV w)
  have KD := Lib.hid (fun (B b : Nat) (w : World) h hb => Wr.datum_plain B b k hk l hl lst hlst w h hb)
  have KG := Lib.hid (fun (B b : Nat) (w : World) h => Wr.string B b false l (.pointer (some ⟨b, 0, none⟩)) w h h0)
  obtain ⟨ad, cap, rfl⟩ := hlst
  have hq0 : ∀ o, (w.alloc o).heap[w.heap.size]? = some o := fun o => heap_alloc_new w o
  have hb0 : ∀ o, Below w.heap.size w (w.alloc o) := fun o => (Below.refl _ _).alloc (Nat.le_refl _) _
  have hsz : ∀ o, (w.alloc o).heap.size = w.heap.size + 1 := by intro o; simp
  unfold Dt.leaf Dt.cells at *
  go_enter Tryz.func40, Tryz.ntmps40
  go_wp2_with fail
  refine (KS.out _).mono ?_
  rintro x w1 ⟨rfl, hb1⟩
  have q1 := (hb1.block w.heap.size (by rw [hsz]; omega)).trans (hq0 _)
  have HB1 := Lib.hid ((hb0 _).trans (hb1.mono (by rw [hsz]; omega)))
  have hz1 : w.heap.size < w1.heap.size := (Array.getElem?_eq_some_iff.1 q1).1
  obtain ⟨c0, c1, c2, c3, c4, c5, c6, c7, c8, c9, c10⟩ := Dt.cells11 q1
  clear hb1 q1 hq0 hb0 hsz KS
  have hA : Wr.At w1.heap.size w1.heap.size (.pointer none) false [] (w1.alloc (.cells #[.pointer none, .slice none 0 0, .bool false] 128)) :=
    ⟨Nat.le_refl _, .slice none 0 0, heap_alloc_new _ _, ⟨by simp, .inl ⟨rfl, rfl⟩⟩, by simp [Value.ownBlock]⟩
  have HA := Lib.hid hA
  clear hA
  go_wp2_with fail
  refine (KD.out w1.heap.size w1.heap.size _ HA.out (by simp)).mono ?_
  rintro x w2 ⟨rfl, hA2, hb2⟩
  have HB2 := Lib.hid (HB1.out.trans ((((Below.refl w1.heap.size w1).alloc (Nat.le_refl _) _).trans hb2).mono (Nat.le_of_lt hz1)))
  have HA2 := Lib.hid hA2
  have hz2 : w1.heap.size < w2.heap.size := by
    obtain ⟨_, v, hb, _⟩ := hA2
    exact (Array.getElem?_eq_some_iff.1 hb).1
  clear hA2 hb2 KD HA
  go_wp2_with fail
  refine (KG.out w1.heap.size w1.heap.size _ HA2.out).mono ?_
  rintro x w3 ⟨rfl, hb3⟩
  have HB3 := Lib.hid (HB2.out.trans (hb3.mono (Nat.le_of_lt hz1)))
  clear hb3 KG
  go_wp2_with fail
  go_ret2
  exact ⟨rfl, HB3.out⟩
set_option maxHeartbeats 4000000 in
set_option maxRecDepth 1000000 in
theorem Wr.Display_plain (k : Int) (hk : k = 5 ∨ k = 6) (l : List UInt8) (h0 : l ≠ []) (hl : l.length ≤ 1000) (lst : Value) (hlst : ∃ ad cap, lst = .slice ad 0 cap) (hV : Dt.valid ⟨l.toArray⟩) (w : World) :
    Calls Tryz.prog 11 #[Dt.leaf k ⟨l.toArray⟩ lst] w fun e w' => e = .returned (.tuple #[.string ⟨l.toArray⟩, .int .i64 0]) ∧ Below w.heap.size w w' := by
  have KD := Lib.hid (fun w => Wr.display_plain k hk l h0 hl lst hlst hV w)
  have hb0 : ∀ o, Below w.heap.size w (w.alloc o) := fun o => (Below.refl _ _).alloc (Nat.le_refl _) _
  obtain ⟨ad, cap, rfl⟩ := hlst
  unfold Dt.leaf Dt.cells at *
  go_enter Tryz.func11, Tryz.ntmps11
  go_wp2_with fail
  refine (KD.out _).mono ?_
  rintro x w1 ⟨rfl, hb1⟩
  have HB1 := Lib.hid ((hb0 _).trans (hb1.mono (by simp)))
  clear hb1 KD hb0
  go_wp2_with fail
  go_ret2
  exact ⟨rfl, HB1.out⟩
end Go.Proofs.YtikmebkfdpbidaaGreatDoor
namespace Go.Proofs.YtikmebkfdpbidaaGreatDoor
open Go.RowKit
set_option linter.unusedVariables false

def Co.S1 : ByteArray := ⟨#[99, 97, 114]⟩
def Co.S2 : ByteArray := ⟨#[110, 111]⟩
def Co.t4 (i : Nat) : Nat := match i with | 0 => 6 | 1 => 8 | 2 => 1 | _ => 7
def Co.f4 (f1 f2 f3 : Value) (i : Nat) : Value := match i with | 0 => .slice none 0 0 | 1 => f1 | 2 => f2 | _ => f3
theorem Co.At.up {w : World} {B B2 a n : Nat} {t : Nat → Nat} {f : Nat → Value} (h : Co.At w B a n t f) (hB : B ≤ B2) : Co.At w B2 a n t f := by
  refine ⟨Nat.lt_of_lt_of_le h.1 hB, fun i hi => ⟨(h.2 i hi).1, (h.2 i hi).2.1, (h.2 i hi).2.2.1, ?_⟩⟩
  rcases (h.2 i hi).2.2.2 with h | ⟨h1, b, k, s, ad, cap, hlt, r⟩
  · exact .inl h
  · exact .inr ⟨h1, b, k, s, ad, cap, by omega, r⟩
/-- What cond.Error has made, as Tell reads it. -/
theorem Co.Four.open {w : World} {B : Nat} {v : Value} (h : Co.Four w B v Co.S1 Co.S2) : ∃ a cap f1 f2 f3, v = .slice (some ⟨a, 0, none⟩) 4 cap ∧ Co.At w w.heap.size a 4 Co.t4 (Co.f4 f1 f2 f3) ∧
    (∃ b ad cap, f1 = .slice (some ⟨b, 0, none⟩) 1 1 ∧ w.heap[b]? = some (.cells (Dt.cells 6 Co.S1 (.slice ad 0 cap)) 30 (0, 0))) ∧
    (∃ b ad cap, f2 = .slice (some ⟨b, 0, none⟩) 1 1 ∧ w.heap[b]? = some (.cells (Dt.cells 5 Co.S2 (.slice ad 0 cap)) 30 (0, 0))) ∧
    (∃ b ad cap, f3 = .slice (some ⟨b, 0, none⟩) 1 1 ∧ w.heap[b]? = some (.cells (Dt.cells 1 ⟨#[]⟩ (.slice ad 0 cap)) 30 (0, 0))) := by
  have V1 : Dt.valid Co.S1 := fun w => Dt.valid_short [99, 97, 114] (by decide) (by decide) w
  have V2 : Dt.valid Co.S2 := fun w => Dt.valid_short [110, 111] (by decide) (by decide) w
  have V3 : Dt.valid ⟨#[]⟩ := fun w => Dt.valid_short [] (by decide) (by simp) w
  obtain ⟨f1, f2, f3, hown, h1, h2, h3⟩ := h
  rcases hown.2 with ⟨_, h0⟩ | ⟨g, cap, cur, rfl, hB, hg, hr⟩
  · omega
  · have e := fun j u (hj : ([.int .i64 6, .slice none 0 0, .int .i64 8, f1, .int .i64 1, f2, .int .i64 7, f3] : List Value)[j]? = some u) => hown.cells (g := g) rfl j u hj
    simp only [Dt.addr_add, Nat.zero_add] at e
    refine ⟨g, cap, f1, f2, f3, rfl, ⟨(Array.getElem?_eq_some_iff.1 hg).1, ?_⟩, h1, h2, h3⟩
    obtain ⟨b1, ad1, cap1, e1, q1⟩ := h1
    obtain ⟨b2, ad2, cap2, e2, q2⟩ := h2
    obtain ⟨b3, ad3, cap3, e3, q3⟩ := h3
    intro i hi
    match i, hi with
    | 0, _ => exact ⟨by decide, e 0 _ rfl, e 1 _ rfl, .inl ⟨rfl, by decide⟩⟩
    | 1, _ => exact ⟨by decide, e 2 _ rfl, e 3 _ rfl, .inr ⟨by decide, b1, 6, Co.S1, ad1, cap1, (Array.getElem?_eq_some_iff.1 q1).1, e1, q1, .inr (.inr (.inr rfl)), V1⟩⟩
    | 2, _ => exact ⟨by decide, e 4 _ rfl, e 5 _ rfl, .inr ⟨by decide, b2, 5, Co.S2, ad2, cap2, (Array.getElem?_eq_some_iff.1 q2).1, e2, q2, .inr (.inr (.inl rfl)), V2⟩⟩
    | 3, _ => exact ⟨by decide, e 6 _ rfl, e 7 _ rfl, .inr ⟨by decide, b3, 1, ⟨#[]⟩, ad3, cap3, (Array.getElem?_eq_some_iff.1 q3).1, e3, q3, .inl ⟨rfl, rfl⟩, V3⟩⟩

set_option maxHeartbeats 4000000 in
set_option maxRecDepth 1000000 in
theorem Co.Tell_at (v : Value) (w : World) (B : Nat) (h : Co.Four w B v Co.S1 Co.S2) :
    Calls Tryz.prog 54 #[v] w fun e w' => e = .returned (.tuple #[.string ⟨#[97, 115, 115, 101, 114, 116, 105, 111, 110, 32, 105, 110, 32, 99, 97, 114, 58, 32, 110, 111]⟩, .int .i64 0]) ∧ Below w.heap.size w w' := by
  have V1 : Dt.valid Co.S1 := fun w => Dt.valid_short [99, 97, 114] (by decide) (by decide) w
  have V2 : Dt.valid Co.S2 := fun w => Dt.valid_short [110, 111] (by decide) (by decide) w
  obtain ⟨a, cap, f1, f2, f3, rfl, hat, ⟨b1, ad1, cap1, rfl, q1⟩, ⟨b2, ad2, cap2, rfl, q2⟩, ⟨b3, ad3, cap3, rfl, q3⟩⟩ := h.open
  have l1 := (Array.getElem?_eq_some_iff.1 q1).1
  have l2 := (Array.getElem?_eq_some_iff.1 q2).1
  have l3 := (Array.getElem?_eq_some_iff.1 q3).1
  generalize hF : Co.f4 _ _ _ = F at hat
  have F1 : F 0 = .slice none 0 0 := by rw [← hF]; rfl
  have F2 : F 1 = .slice (some ⟨b1, 0, none⟩) 1 1 := by rw [← hF]; rfl
  have F3 : F 2 = .slice (some ⟨b2, 0, none⟩) 1 1 := by rw [← hF]; rfl
  have F4 : F 3 = .slice (some ⟨b3, 0, none⟩) 1 1 := by rw [← hF]; rfl
  have u0 : ∀ j, j < 0 → Co.under (Co.t4 j) 3 = false := fun j h => by omega
  have u1 : ∀ j, j < 1 → Co.under (Co.t4 j) 8 = false := fun j h => by
    match j, h with
    | 0, _ => decide
  have u2 : ∀ j, j < 2 → Co.under (Co.t4 j) 1 = false := fun j h => by
    match j, h with
    | 0, _ => decide
    | 1, _ => decide
  have u3 : ∀ j, j < 3 → Co.under (Co.t4 j) 7 = false := fun j h => by
    match j, h with
    | 0, _ => decide
    | 1, _ => decide
    | 2, _ => decide
  have K0 := Lib.hid (fun (w' : World) (hb : Below w.heap.size w w') => Co.Check_ok a 4 cap (by decide) Co.t4 F w' ((hat.below hb).up hb.size))
  have K1 := fun (w' : World) (hb : Below w.heap.size w w') => Co.first_at a 4 cap (by decide) Co.t4 F 3 0 (by decide) u0 (by decide) w' ((hat.below hb).up hb.size)
  have K2 := fun (w' : World) (hb : Below w.heap.size w w') => Co.first_at a 4 cap (by decide) Co.t4 F 8 1 (by decide) u1 (by decide) w' ((hat.below hb).up hb.size)
  have K3 := fun (w' : World) (hb : Below w.heap.size w w') => Co.first_at a 4 cap (by decide) Co.t4 F 1 2 (by decide) u2 (by decide) w' ((hat.below hb).up hb.size)
  have K4 := fun (w' : World) (hb : Below w.heap.size w w') => Co.first_at a 4 cap (by decide) Co.t4 F 7 3 (by decide) u3 (by decide) w' ((hat.below hb).up hb.size)
  rw [F1] at K1
  rw [F2] at K2
  rw [F3] at K3
  rw [F4] at K4
  have K1 := Lib.hid K1
  have K2 := Lib.hid K2
  have K3 := Lib.hid K3
  have K4 := Lib.hid K4
  have KN := Lib.hid (fun w => Co.name_any 6 w)
  have KD1 := Lib.hid (fun ad cap w => Wr.Display_plain 6 (.inr rfl) [99, 97, 114] (by decide) (by decide) (.slice ad 0 cap) ⟨_, _, rfl⟩ V1 w)
  have KD2 := Lib.hid (fun ad cap w => Wr.Display_plain 5 (.inl rfl) [110, 111] (by decide) (by decide) (.slice ad 0 cap) ⟨_, _, rfl⟩ V2 w)
  have KI := Lib.hid (fun ad cap w => Ls.Items_nil (.slice ad 0 cap) ⟨_, _, rfl⟩ w)
  unfold Dt.leaf at KD1 KD2 KI
  unfold Dt.cells Co.S1 at q1
  unfold Dt.cells Co.S2 at q2
  unfold Dt.cells at q3 KD1 KD2 KI
  have Q1 := Lib.hid q1
  have Q2 := Lib.hid q2
  have Q3 := Lib.hid q3
  have e6 : (if Co.thr 6 then Co.nm (6 : Int).toNat else ⟨#[]⟩) = ⟨#[97, 115, 115, 101, 114, 116, 105, 111, 110]⟩ := by decide
  have e60 : (if Co.thr 6 then (0 : Int) else 7) = 0 := by decide
  rw [e6, e60] at KN
  have t0 : Co.t4 0 = 6 := rfl
  have t1 : Co.t4 1 = 8 := rfl
  have t2 : Co.t4 2 = 1 := rfl
  have t3 : Co.t4 3 = 7 := rfl
  rw [t0] at K1
  rw [t1] at K2
  rw [t2] at K3
  rw [t3] at K4
  clear e6 e60 t0 t1 t2 t3 u0 u1 u2 u3 F1 F2 F3 F4 hF hat q1 q2 q3 V1 V2 h
  have hbr : Below w.heap.size w w := Below.refl _ _
  go_enter Tryz.func54, Tryz.ntmps54
  go_wp2_with fail
  refine (K0.out _ hbr).mono ?_
  rintro x w1 ⟨rfl, hb1⟩
  have HB1 := Lib.hid hb1
  clear hb1 hbr K0
  go_wp2_with fail
  refine (K1.out _ HB1.out).mono ?_
  rintro x w2 ⟨rfl, hb2⟩
  have HB2 := Lib.hid (HB1.out.trans (hb2.mono HB1.out.size))
  have HA2 : Hid (∀ o, Below w.heap.size w (w2.alloc o)) := Lib.hid (fun o => HB2.out.alloc HB2.out.size o)
  clear hb2 K1
  go_wp2_with fail
  refine (KN.out _).mono ?_
  rintro x w3 ⟨rfl, hb3⟩
  have HB3 := Lib.hid ((HA2.out _).trans (hb3.mono (HA2.out _).size))
  clear hb3 KN HA2
  go_wp2_with fail
  refine (K2.out _ HB3.out).mono ?_
  rintro x w4 ⟨rfl, hb4⟩
  have HB4 := Lib.hid (HB3.out.trans (hb4.mono HB3.out.size))
  have HA4 : Hid (∀ o, Below w.heap.size w (w4.alloc o)) := Lib.hid (fun o => HB4.out.alloc HB4.out.size o)
  have q4 := (HB4.out.block b1 l1).trans Q1.out
  have l14 : b1 < w4.heap.size := (Array.getElem?_eq_some_iff.1 q4).1
  obtain ⟨a0, a1, a2, a3, a4, a5, a6, a7, a8, a9, a10⟩ := Dt.cells11 q4
  clear hb4 K2 q4
  go_wp2_with fail
  refine (KD1.out _ _ _).mono ?_
  rintro x w5 ⟨rfl, hb5⟩
  have HB5 := Lib.hid ((HA4.out _).trans (hb5.mono (HA4.out _).size))
  clear hb5 KD1 HA4 a0 a1 a2 a3 a4 a5 a6 a7 a8 a9 a10 l14
  go_wp2_with fail
  refine (K3.out _ HB5.out).mono ?_
  rintro x w6 ⟨rfl, hb6⟩
  have HB6 := Lib.hid (HB5.out.trans (hb6.mono HB5.out.size))
  have HA6 : Hid (∀ o, Below w.heap.size w (w6.alloc o)) := Lib.hid (fun o => HB6.out.alloc HB6.out.size o)
  have q6 := (HB6.out.block b2 l2).trans Q2.out
  have l26 : b2 < w6.heap.size := (Array.getElem?_eq_some_iff.1 q6).1
  obtain ⟨a0, a1, a2, a3, a4, a5, a6, a7, a8, a9, a10⟩ := Dt.cells11 q6
  clear hb6 K3 q6
  go_wp2_with fail
  refine (KD2.out _ _ _).mono ?_
  rintro x w7 ⟨rfl, hb7⟩
  have HB7 := Lib.hid ((HA6.out _).trans (hb7.mono (HA6.out _).size))
  clear hb7 KD2 HA6 a0 a1 a2 a3 a4 a5 a6 a7 a8 a9 a10 l26
  go_wp2_with fail
  refine (K4.out _ HB7.out).mono ?_
  rintro x w8 ⟨rfl, hb8⟩
  have HB8 := Lib.hid (HB7.out.trans (hb8.mono HB7.out.size))
  have HA8 : Hid (∀ o, Below w.heap.size w (w8.alloc o)) := Lib.hid (fun o => HB8.out.alloc HB8.out.size o)
  have q8 := (HB8.out.block b3 l3).trans Q3.out
  have l38 : b3 < w8.heap.size := (Array.getElem?_eq_some_iff.1 q8).1
  obtain ⟨a0, a1, a2, a3, a4, a5, a6, a7, a8, a9, a10⟩ := Dt.cells11 q8
  clear hb8 K4 q8
  go_wp2_with fail
  refine (KI.out _ _ _).mono ?_
  rintro x w9 ⟨rfl, hb9⟩
  have HB9 := Lib.hid ((HA8.out _).trans (hb9.mono (HA8.out _).size))
  clear hb9 KI HA8 a0 a1 a2 a3 a4 a5 a6 a7 a8 a9 a10 l38
  go_wp2_with fail
  go_loopw [5, 93] (fun s i wr => s = .string ⟨#[97, 115, 115, 101, 114, 116, 105, 111, 110, 32, 105, 110, 32, 99, 97, 114, 58, 32, 110, 111]⟩ ∧ i = .int .i64 0 ∧ wr = w9) (fun _ _ _ => 0)
  case atStart => exact ⟨congrArg Value.string (by decide), rfl, rfl⟩
  case round =>
    obtain ⟨rfl, rfl, rfl⟩ := hrel
    go_wp2_with fail
    go_ret2
    exact ⟨rfl, HB9.out⟩

set_option maxHeartbeats 4000000 in
set_option maxRecDepth 1000000 in
theorem Co.awake_any (w : World) : Calls Tryz.prog 22 #[] w fun e w' => e = .returned (.bool true) ∧ Below w.heap.size w w' := by
  have V1 : Dt.valid Co.S1 := fun w => Dt.valid_short [99, 97, 114] (by decide) (by decide) w
  have V2 : Dt.valid Co.S2 := fun w => Dt.valid_short [110, 111] (by decide) (by decide) w
  have KE := Lib.hid (fun w => Co.Error_at Co.S1 Co.S2 V1 V2 w)
  have KT := Lib.hid (fun v w h => Co.Tell_at v w w.heap.size h)
  have KT := Lib.hid (fun v w B h => Co.Tell_at v w B h)
  clear V1 V2
  unfold Dt.leaf Dt.cells at KE
  rw [show Co.S1 = ⟨#[99, 97, 114]⟩ from rfl, show Co.S2 = ⟨#[110, 111]⟩ from rfl] at KE
  go_enter Tryz.func22, Tryz.ntmps22
  go_wp2_with fail
  refine (KE.out _).mono ?_
  rintro x w1 ⟨v, rfl, hf, hb1⟩
  have HB1 := Lib.hid hb1
  have HF := Lib.hid hf
  clear hb1 hf KE
  go_wp2_with fail
  refine (KT.out v w1 w.heap.size HF.out).mono ?_
  rintro x w2 ⟨rfl, hb2⟩
  have HB2 := Lib.hid (HB1.out.trans (hb2.mono HB1.out.size))
  clear hb2
  go_wp2
  go_ret
  exact ⟨rfl, HB2.out⟩
end Go.Proofs.YtikmebkfdpbidaaGreatDoor
namespace Go.Proofs.YtikmebkfdpbidaaGreatDoor
open Go.RowKit
set_option linter.unusedVariables false
set_option linter.unusedSimpArgs false

theorem Sp.chk_append {a b : List Sp} (h : Sp.chk (a ++ b) = 0) : Sp.chk a = 0 ∧ Sp.chk b = 0 := by
  obtain ⟨h1, h2⟩ := Sp.chk_zero h
  rw [List.length_append] at h1
  rw [Sp.chkL_zero] at h2
  refine ⟨?_, ?_⟩
  · unfold Sp.chk
    rw [if_neg (by omega), Sp.chkL_zero]
    exact fun s hs => h2 s (List.mem_append_left _ hs)
  · unfold Sp.chk
    rw [if_neg (by omega), Sp.chkL_zero]
    exact fun s hs => h2 s (List.mem_append_right _ hs)
theorem Sp.find_none {l : List Sp} {t : Int} (h : Sp.chk l = 0) (ht : Co.thr t = false) : Sp.find l t = (⟨0, []⟩, 1) := by
  unfold Sp.find
  rw [if_neg (by rw [h]; decide), if_pos ht]
theorem Sp.find_some {l : List Sp} {t : Int} (h : Sp.chk l = 0) (ht : Co.thr t = true) : Sp.find l t = match Sp.fst l t with
    | none => (⟨0, []⟩, 7)
    | some s => (s, 0) := by
  unfold Sp.find
  rw [if_neg (by rw [h]; decide), if_neg (by rw [ht]; decide)]
  rfl
/-- The law in plain words. -/
theorem Sp.first_law {a b : List Sp} (t : Int) (h : Sp.chk (a ++ b) = 0) :
    ((Sp.find a t).2 ≠ 0 → Sp.find b t = Sp.find (a ++ b) t) ∧ ((Sp.find a t).2 = 0 → Sp.find a t = Sp.find (a ++ b) t) ∧
    ((Sp.find (a ++ b) t).2 = 0 → Co.thr (Sp.find (a ++ b) t).1.t = true ∧ Co.thr t = true ∧ Co.under (Sp.find (a ++ b) t).1.t t = true) := by
  obtain ⟨ha, hb⟩ := Sp.chk_append h
  cases ht : Co.thr t
  · rw [Sp.find_none ha ht, Sp.find_none hb ht, Sp.find_none h ht]
    exact ⟨fun _ => rfl, fun _ => rfl, fun e => absurd e (by decide)⟩
  · rw [Sp.find_some ha ht, Sp.find_some hb ht, Sp.find_some h ht]
    have hf : Sp.fst (a ++ b) t = (Sp.fst a t).or (Sp.fst b t) := by unfold Sp.fst; rw [List.find?_append]
    rw [hf]
    cases hfa : Sp.fst a t with
    | none =>
      refine ⟨fun _ => rfl, fun e => absurd e (by decide), ?_⟩
      cases hfb : Sp.fst b t with
      | none => exact fun e => absurd e (by decide)
      | some s => exact fun _ => ⟨(Sp.chk_sound hb (Sp.fst_mem hfb).1).1, rfl, (Sp.fst_mem hfb).2⟩
    | some s => exact ⟨fun e => absurd rfl e, fun _ => rfl, fun _ => ⟨(Sp.chk_sound ha (Sp.fst_mem hfa).1).1, rfl, (Sp.fst_mem hfa).2⟩⟩
set_option maxHeartbeats 1000000 in
set_option maxRecDepth 1000000 in
theorem condFirst.walk0 (la lb : List Sp) (t : Int) (S : Nat → Prop) (va vb : Value) (w : World) (ha : Sp.LIn w S la va) (hb : Sp.LIn w S lb vb) (hT : Tr.Tabs w) (hlen : la.length + lb.length ≤ 4000000000000) :
    Calls Tryz.prog 6 #[va, vb, .int .i64 t] w fun e w' => e = .returned (.bool true) ∧ Below w.heap.size w w' := by
  obtain ⟨aa, ac, rfl, _, _⟩ := ha.slice
  obtain ⟨ba, bc, rfl, _, _⟩ := hb.slice
  have hA1 : Below w.heap.size w (w.alloc (.cells #[.slice aa la.length ac, .slice ba lb.length bc] 47)) := (Below.refl _ _).alloc (Nat.le_refl _) _
  have hLL : Sp.LLIn (w.alloc (.cells #[.slice aa la.length ac, .slice ba lb.length bc] 47)) (fun _ => True) [la, lb] (.slice (some ⟨w.heap.size, 0, none⟩) 2 2) := by
    have hq : (w.alloc (.cells #[.slice aa la.length ac, .slice ba lb.length bc] 47)).heap[w.heap.size]? = some (.cells #[.slice aa la.length ac, .slice ba lb.length bc] 47 (0, 0)) := heap_alloc_new w _
    refine .inr (.inr ⟨by simp, w.heap.size, 0, 2, rfl, by simp, by decide, by simp, trivial, fun k l hk => ?_⟩)
    match k, hk with
    | 0, hk =>
      simp only [List.getElem?_cons_zero, Option.some.injEq] at hk
      subst hk
      exact ⟨_, (Sm.cells hq (0 + 0)).trans rfl, (ha.below hA1 (Nat.le_refl _)).mono (fun _ _ => trivial)⟩
    | 1, hk =>
      simp only [List.getElem?_cons_succ, List.getElem?_cons_zero, Option.some.injEq] at hk
      subst hk
      exact ⟨_, (Sm.cells hq (0 + 1)).trans rfl, (hb.below hA1 (Nat.le_refl _)).mono (fun _ _ => trivial)⟩
    | k + 2, hk => simp at hk
  have hfl : [la, lb].flatten = la ++ lb := by simp
  have KJ := Sp.Join_any [la, lb] _ _ _ hLL (hT.since hA1 (Nat.le_refl _)) (by rw [hfl, List.length_append]; exact hlen)
  obtain ⟨lc, hlc⟩ : ∃ z, z = la ++ lb := ⟨_, rfl⟩
  rw [hfl, ← hlc] at KJ
  have HLC := Lib.hid hlc
  have HA1 := Lib.hid hA1
  have HIN := Lib.hid (And.intro ha (And.intro hb hT))
  clear hA1 hLL hfl ha hb hT hlc
  go_enter Tryz.func6, Tryz.ntmps6
  go_wp2_with fail
  refine KJ.mono ?_
  rintro x w2 ⟨vc, rfl, hc, hb2⟩
  obtain ⟨ca, cc, rfl, _, _⟩ := hc.slice
  have HB2 := Lib.hid (HA1.out.trans (hb2.mono HA1.out.size))
  have HC := Lib.hid hc
  have hz1 : (w.alloc (.cells #[.slice aa la.length ac, .slice ba lb.length bc] 47)).heap.size = w.heap.size + 1 := by simp
  clear KJ hc hb2
  by_cases hchk : Sp.chk lc = 0
  · have hj : Sp.joined lc = lc := by unfold Sp.joined; rw [if_pos hchk]
    rw [hj] at HC
    obtain ⟨ca2, hca2⟩ : ∃ z, z = ca := ⟨_, rfl⟩
    have HLAW := Lib.hid (Sp.first_law t (HLC.out ▸ hchk))
    rw [hj, hchk]
    clear hj
    generalize hfa : Sp.find la t = fa at *
    generalize hfb : Sp.find lb t = fb at *
    rw [← HLC.out] at HLAW
    generalize hfc : Sp.find lc t = fc at *
    obtain ⟨xa, ea⟩ := fa
    obtain ⟨xb, eb⟩ := fb
    obtain ⟨xc, ec⟩ := fc
    have HFA := Lib.hid hfa
    have HFB := Lib.hid hfb
    have HFC := Lib.hid hfc
    clear hfa hfb hfc hchk
    have HTB : Hid (∀ w', Below w.heap.size w w' → Tr.Tabs w') := Lib.hid (fun w' hb => HIN.out.2.2.since hb (Nat.le_refl _))
    have KA := Lib.hid (fun w' (hb : Below w.heap.size w w') => Sp.Find_any la t S _ w' (HIN.out.1.below hb (Nat.le_refl _)) (HTB.out w' hb))
    have KB := Lib.hid (fun w' (hb : Below w.heap.size w w') => Sp.Find_any lb t S _ w' (HIN.out.2.1.below hb (Nat.le_refl _)) (HTB.out w' hb))
    have KC := Lib.hid (fun w' (hb : Below w2.heap.size w2 w') => Sp.Find_any lc t _ _ w' (HC.out.below hb (Nat.le_refl _)) (HTB.out w' (HB2.out.trans (hb.mono HB2.out.size))))
    rw [HFA.out] at KA
    rw [HFB.out] at KB
    rw [HFC.out] at KC
    go_wp2_with fail
    refine (Co.awake_any _).mono ?_
    rintro x w3 ⟨rfl, hb3⟩
    have HB23 := Lib.hid hb3
    have HB3 := Lib.hid (HB2.out.trans (hb3.mono HB2.out.size))
    clear hb3
    go_wp2_with fail
    refine (KA.out _ HB3.out).mono ?_
    rintro x w4 ⟨fva, rfl, hLa, hb4⟩
    obtain ⟨a9, c9, rfl, _, _⟩ := Tr.Sl.slice hLa
    obtain ⟨W4, hW4⟩ : ∃ z, w4.alloc (.cells #[.int .i64 xa.t, .slice a9 xa.f.length c9] 53) = z := ⟨_, rfl⟩
    have hq4 : W4.heap[w4.heap.size]? = some (.cells #[.int .i64 xa.t, .slice a9 xa.f.length c9] 53 (0, 0)) := by rw [← hW4]; exact heap_alloc_new w4 _
    have hs4 : Below w4.heap.size w4 W4 := by rw [← hW4]; exact (Below.refl _ _).alloc (Nat.le_refl _) _
    have HB4 := Lib.hid ((HB3.out.trans (hb4.mono HB3.out.size)).trans (hs4.mono (by have := HB3.out.size; have := hb4.size; omega)))
    have HB24 := Lib.hid ((HB23.out.trans (hb4.mono HB23.out.size)).trans (hs4.mono (by have := HB23.out.size; have := hb4.size; omega)))
    have HLA := Lib.hid (hLa.below hs4 (Nat.le_refl _))
    have HQ4 := Lib.hid hq4
    have HZ3 : Hid (w.heap.size ≤ w4.heap.size) := Lib.hid (by have := HB3.out.size; have := hb4.size; omega)
    clear hLa hb4 hs4 hq4
    go_wp2_with fail
    refine (KB.out _ HB4.out).mono ?_
    rintro x w5 ⟨fvb, rfl, hLb, hb5⟩
    obtain ⟨a11, c11, rfl, _, _⟩ := Tr.Sl.slice hLb
    obtain ⟨W5, hW5⟩ : ∃ z, w5.alloc (.cells #[.int .i64 xb.t, .slice a11 xb.f.length c11] 53) = z := ⟨_, rfl⟩
    have hq5 : W5.heap[w5.heap.size]? = some (.cells #[.int .i64 xb.t, .slice a11 xb.f.length c11] 53 (0, 0)) := by rw [← hW5]; exact heap_alloc_new w5 _
    have hs5 : Below w5.heap.size w5 W5 := by rw [← hW5]; exact (Below.refl _ _).alloc (Nat.le_refl _) _
    have hz45 : W4.heap.size ≤ w5.heap.size := hb5.size
    have HB45 := Lib.hid (hb5.trans (hs5.mono hb5.size))
    have HLB := Lib.hid (hLb.below hs5 (Nat.le_refl _))
    have HQ5 := Lib.hid hq5
    clear hLb hb5 hs5 hq5
    go_wp2_with fail
    refine (KC.out _ (HB24.out.trans (HB45.out.mono HB24.out.size))).mono ?_
    rintro x w6 ⟨fvc, rfl, hLc, hb6⟩
    obtain ⟨a13, c13, rfl, _, _⟩ := Tr.Sl.slice hLc
    obtain ⟨W6, hW6⟩ : ∃ z, w6.alloc (.cells #[.int .i64 xc.t, .slice a13 xc.f.length c13] 53) = z := ⟨_, rfl⟩
    have hq6 : W6.heap[w6.heap.size]? = some (.cells #[.int .i64 xc.t, .slice a13 xc.f.length c13] 53 (0, 0)) := by rw [← hW6]; exact heap_alloc_new w6 _
    have hs6 : Below w6.heap.size w6 W6 := by rw [← hW6]; exact (Below.refl _ _).alloc (Nat.le_refl _) _
    have hb56 := hb6.trans (hs6.mono hb6.size)
    have hz4 : w4.heap.size < W4.heap.size := (Array.getElem?_eq_some_iff.1 HQ4.out).1
    have hz5 : w5.heap.size < W5.heap.size := (Array.getElem?_eq_some_iff.1 HQ5.out).1
    have hz6 : w6.heap.size < W6.heap.size := (Array.getElem?_eq_some_iff.1 hq6).1
    have hz56 : W5.heap.size ≤ w6.heap.size := hb6.size
    have hzw4 : w.heap.size ≤ w4.heap.size := HZ3.out
    have HZ4 := Lib.hid hz4
    have q9 : W6.heap[w4.heap.size]? = some (.cells #[.int .i64 xa.t, .slice a9 xa.f.length c9] 53 (0, 0)) := (hb56.block _ (by omega)).trans ((HB45.out.block _ hz4).trans HQ4.out)
    have q11 := (hb56.block w5.heap.size (by omega)).trans HQ5.out
    have d90 := (Sm.cells q9 0)
    have d91 := (Sm.cells q9 1)
    have d110 := (Sm.cells q11 0)
    have d111 := (Sm.cells q11 1)
    have d130 := (Sm.cells hq6 0)
    have d131 := (Sm.cells hq6 1)
    have HQ9 := Lib.hid q9
    have HQ13 := Lib.hid hq6
    have hbW : Below w.heap.size w W6 := HB4.out.trans ((HB45.out.trans (hb56.mono HB45.out.size)).mono HB4.out.size)
    have HBW := Lib.hid hbW
    have HLA6 := Lib.hid (HLA.out.below (HB45.out.trans (hb56.mono HB45.out.size)) (Nat.le_refl _))
    have HLB6 := Lib.hid (HLB.out.below hb56 (Nat.le_refl _))
    have HLC6 := Lib.hid (hLc.below hs6 (Nat.le_refl _))
    have HU : Hid (ec = 0 → ∀ w', Calls Tryz.prog 29 #[.int .i64 xc.t, .int .i64 t] w' fun e w'' => e = .returned (.tuple #[.bool true, .int .i64 0]) ∧ Below w'.heap.size w' w'') := Lib.hid (fun h0 w' => by
      obtain ⟨h1, h2, h3⟩ := HLAW.out.2.2 h0
      have := Co.Under_any xc.t t w'
      unfold Co.Under at this
      rw [show Co.thr xc.t = true from h1, h2, show Co.under xc.t t = true from h3] at this
      exact this)
    have hne9 : w6.heap.size ≠ w4.heap.size := by omega
    clear q9 q11 hq6 hb6 hs6 hb56 hbW hLc hz4 hz5 hz6 hz56 hz45
    by_cases hea : ea = 0
    · obtain ⟨h1, h2⟩ : xa = xc ∧ ea = ec := by have := HLAW.out.2.1 hea; simpa using this
      subst h1
      subst h2
      subst hea
      go_wp2_with fail
      refine (Sm.all xa.f _ _ _ _ W6 HLA6.out HLC6.out).mono ?_
      rintro x w7 ⟨rfl, hb7⟩
      have HB7 := Lib.hid (HBW.out.trans (hb7.mono HBW.out.size))
      have c13 := (Sm.cells ((hb7.block w6.heap.size (Array.getElem?_eq_some_iff.1 HQ13.out).1).trans HQ13.out) 0)
      clear hb7
      go_wp2_with fail
      refine (HU.out (by first | rfl | trivial) _).mono ?_
      rintro x w8 ⟨rfl, hb8⟩
      have HB8 := Lib.hid (HB7.out.trans (hb8.mono HB7.out.size))
      clear hb8
      go_wp2_with fail
      go_ret
      exact ⟨rfl, HB8.out⟩
    · obtain ⟨h1, h2⟩ : xb = xc ∧ eb = ec := by have := HLAW.out.1 hea; simpa using this
      subst h1
      subst h2
      have hea2 : (ea != 0) = true := by simpa using hea
      obtain ⟨x0, x1, X1, X2, ⟨g0, z0, s0⟩, ⟨g1, z1, s1⟩, r0, r1, HX⟩ := Sp.ret2 HBW.out ⟨_, HQ9.out⟩ rfl hzw4 (.int .i64 xb.t) (.slice a11 xb.f.length c11)
      have q13 := (HX.out.2.2 w6.heap.size hne9).trans HQ13.out
      have e130 := (Sm.cells q13 0)
      have e131 := (Sm.cells q13 1)
      have HLB7 : Hid (Tr.LIn X2 (fun q => W4.heap.size ≤ q) xb.f (.slice a11 xb.f.length c11)) := Lib.hid (HLB6.out.kept (w' := X2) ⟨by have := HX.out.2.1; omega, fun q hq hl => HX.out.2.2 q (by have : W4.heap.size ≤ q := hq; have := HZ4.out; omega)⟩)
      have HLC7 : Hid (Tr.LIn X2 (fun q => W5.heap.size ≤ q) xb.f (.slice a13 xb.f.length c13)) := Lib.hid (HLC6.out.kept (w' := X2) ⟨by have := HX.out.2.1; omega, fun q hq hl => HX.out.2.2 q (by have : W5.heap.size ≤ q := hq; have := HZ4.out; have := HB45.out.size; omega)⟩)
      have HQ13' := Lib.hid q13
      have hlt13 := (Array.getElem?_eq_some_iff.1 q13).1
      clear q13 d90 d91 d130 d131
      go_wp2_with fail
      refine (Sm.all xb.f _ _ _ _ X2 HLB7.out HLC7.out).mono ?_
      rintro x w7 ⟨rfl, hb7⟩
      have HB7 := Lib.hid (HX.out.1.trans (hb7.mono HX.out.1.size))
      have c13 := (Sm.cells ((hb7.block w6.heap.size hlt13).trans HQ13'.out) 0)
      clear hb7
      by_cases hec : eb = 0
      · subst hec
        go_wp2_with fail
        refine (HU.out (by first | rfl | trivial) _).mono ?_
        rintro x w8 ⟨rfl, hb8⟩
        have HB8 := Lib.hid (HB7.out.trans (hb8.mono HB7.out.size))
        clear hb8
        go_wp2_with fail
        go_ret
        exact ⟨rfl, HB8.out⟩
      · have hec2 : (eb != 0) = true := by simpa using hec
        go_wp2_with fail
        go_ret
        exact ⟨rfl, HB7.out⟩
  · have hj : Sp.joined lc = [] := by unfold Sp.joined; rw [if_neg hchk]
    rw [hj]
    have hne : (Sp.chk lc != 0) = true := by simpa using hchk
    go_wp2_with fail
    refine (Co.awake_any _).mono ?_
    rintro x w3 ⟨rfl, hb3⟩
    have HB3 := Lib.hid (HB2.out.trans (hb3.mono HB2.out.size))
    clear hb3
    go_wp2_with fail
    refine (Co.awake_any _).mono ?_
    rintro x w4 ⟨rfl, hb4⟩
    have HB4 := Lib.hid (HB3.out.trans (hb4.mono HB3.out.size))
    clear hb4
    go_wp2_with fail
    go_ret
    exact ⟨rfl, HB4.out⟩
end Go.Proofs.YtikmebkfdpbidaaGreatDoor
namespace Go.Proofs.YtikmebkfdpbidaaGreatDoor
open Go.RowKit
set_option linter.unusedVariables false
set_option linter.unusedSimpArgs false

theorem Up.pos {H : Type} (d : DataW H) : 1 ≤ Rows.uptoBulk d := by
  cases d with
  | lit l => cases l <;> simp [Rows.uptoBulk]
  | _ => simp [Rows.uptoBulk]
theorem Up.len {H : Type} : ∀ (l : List (DataW H)), l.length ≤ Rows.uptoBulkAll l
  | [] => Nat.zero_le _
  | d :: r => by
    have h1 := Up.pos d
    have h2 := Up.len r
    simp only [List.length_cons, Rows.uptoBulkAll]
    omega
theorem Up.mem {H : Type} : ∀ {l : List (DataW H)} {d : DataW H}, d ∈ l → Rows.uptoBulk d ≤ Rows.uptoBulkAll l
  | a :: r, d, h => by
    simp only [Rows.uptoBulkAll]
    rcases List.mem_cons.1 h with rfl | h
    · omega
    · have := Up.mem h
      omega
theorem Up.slc {H : Type} (l r : List (DataW H)) : Rows.uptoBulk (.slice l r) = Rows.uptoBulkAll l + Rows.uptoBulkAll r + 1 := by rw [Rows.uptoBulk]
theorem Up.agg {H : Type} (l : List (DataW H)) : Rows.uptoBulk (.agg l) = Rows.uptoBulkAll l + 1 := by rw [Rows.uptoBulk]
/-- So many things that there are, in a list. -/
theorem Up.choose {α : Type} {P : Nat → α → Prop} : ∀ n, (∀ i, i < n → ∃ x, P i x) → ∃ l : List α, l.length = n ∧ ∀ i x, l[i]? = some x → P i x
  | 0, _ => ⟨[], rfl, fun i x h => by simp at h⟩
  | n + 1, h => by
    obtain ⟨l, h1, h2⟩ := Up.choose n (fun i hi => h i (by omega))
    obtain ⟨x, hx⟩ := h n (by omega)
    refine ⟨l ++ [x], by simp [h1], fun i y hy => ?_⟩
    rcases Nat.lt_or_ge i n with hi | hi
    · rw [List.getElem?_append_left (by omega)] at hy
      exact h2 i y hy
    · have hlt := (List.getElem?_eq_some_iff.1 hy).1
      rw [List.length_append, h1] at hlt
      have hin : i = n := by simp at hlt; omega
      subst hin
      rw [List.getElem?_append_right (by omega), h1, Nat.sub_self] at hy
      simp only [List.getElem?_cons_zero, Option.some.injEq] at hy
      subst hy
      exact hx
theorem Up.cells {w : World} {base n : Nat} {a : Addr} {cs : List Value} (h : w.cells? base a n = some cs) : cs.length = n ∧ ∀ j, j < n → ∃ u, cs[j]? = some u ∧ w.cell? (a.add j) = some u := by
  unfold World.cells? at h
  split at h
  · have hl := mapM_some_length h
    rw [List.length_range] at hl
    refine ⟨hl, fun j hj => ?_⟩
    have hg := mapM_some_get h j j (by simp [hj])
    exact ⟨cs[j], List.getElem?_eq_getElem (by omega), hg.trans (List.getElem?_eq_getElem (by omega))⟩
  · cases h
theorem Up.spot {w : World} {a : Addr} {i : Nat} {u : Value} (h : w.cell? ((a.add i).add 0) = some u) (hi : i = 0) : a = ⟨a.block, a.off, none⟩ := by
  subst hi
  have := World.cell?_spot h
  obtain ⟨b, off, s⟩ := a
  simp [Addr.add] at this
  subst this
  rfl
theorem Up.blk {w : World} {b off : Nat} {u : Value} (h : w.cell? ⟨b, off, none⟩ = some u) : b < w.heap.size := by
  rcases Nat.lt_or_ge b w.heap.size with h1 | h1
  · exact h1
  · simp [World.cell?, Array.getElem?_eq_none h1] at h
theorem Up.add (b off j : Nat) : (⟨b, off, none⟩ : Addr).add j = ⟨b, off + j, none⟩ := by unfold Addr.add; split <;> simp_all
/-- A slice among the arguments: nothing, or elements that can be read. -/
theorem Up.slice {H : Type} {enc : TypeId × Value → H} {P : Program} {w : World} {base : Nat} {spare : Nat → Bool} {held : Bool} {fuel : Nat} {t e : TypeId} {cs : List Value} {x : DataW H × List MemPlace} {sz N : Nat} (ht : P.underlying t = some (.slice e)) (hc : P.cellsOf e = sz) (hsz : 0 < sz)
    (h : DataW.trod enc P w base spare held fuel t cs = some x) (hN : Rows.uptoBulk x.1 ≤ N) :
    cs = [.slice none 0 0] ∨ ∃ len cap n, fuel = n + 1 ∧ len ≤ cap ∧ cap ≤ maxLen ∧ len ≤ N ∧ ((len = 0 ∧ ∃ a, cs = [.slice (some a) 0 cap]) ∨ (0 < len ∧ ∃ b off, cs = [.slice (some ⟨b, off, none⟩) len cap] ∧ b < w.heap.size ∧
      ∀ i, i < len → ∃ (y : DataW H × List MemPlace) (es : List Value), Rows.uptoBulk y.1 ≤ N ∧ DataW.trod enc P w base spare held n e es = some y ∧ es.length = sz ∧ ∀ j, j < sz → ∃ u, es[j]? = some u ∧ w.cell? ⟨b, off + i * sz + j, none⟩ = some u)) := by
  rcases DataW.trod_slice ht h with ⟨hcs, _⟩ | ⟨a, len, cap, elems, rest, n, hf, hcs, hx, _, hl, hm, hlen, hel, _, _⟩
  · exact .inl hcs
  · have hNx : Rows.uptoBulk (DataW.slice (elems.map (·.1)) (rest.map (·.1))) ≤ N := by have := hN; rw [hx] at this; exact this
    rw [Up.slc] at hNx
    have hl1 := Up.len (elems.map (·.1))
    rw [List.length_map, hlen] at hl1
    refine .inr ⟨len, cap, n, hf, hl, hm, by omega, ?_⟩
    have each : ∀ i, i < len → ∃ (y : DataW H × List MemPlace) (es : List Value), Rows.uptoBulk y.1 ≤ N ∧ DataW.trod enc P w base spare held n e es = some y ∧ es.length = sz ∧ ∀ j, j < sz → ∃ u, es[j]? = some u ∧ w.cell? ((a.add (i * sz)).add j) = some u := by
      intro i hi
      have h1 := hel i hi
      have hy : elems[i]? = some elems[i] := List.getElem?_eq_getElem (by omega)
      rw [hy, hc, Option.bind_eq_some_iff] at h1
      obtain ⟨es, he1, he2⟩ := h1
      obtain ⟨h3, h4⟩ := Up.cells he1
      refine ⟨elems[i], es, ?_, he2, h3, h4⟩
      have := Up.mem (l := elems.map (·.1)) (d := elems[i].1) (List.mem_map.2 ⟨elems[i], List.getElem_mem _, rfl⟩)
      omega
    rcases Nat.eq_zero_or_pos len with h0 | h0
    · subst h0
      exact .inl ⟨rfl, a, hcs⟩
    · obtain ⟨_, _, _, _, _, hc0⟩ := each 0 h0
      obtain ⟨u, _, hu⟩ := hc0 0 hsz
      have ha := Up.spot hu (by omega)
      refine .inr ⟨h0, a.block, a.off, by rw [hcs]; rw [ha], ?_, fun i hi => ?_⟩
      · rw [ha, Up.add, Up.add] at hu
        exact Up.blk hu
      · obtain ⟨y, es, h1, h2, h3, h4⟩ := each i hi
        refine ⟨y, es, h1, h2, h3, fun j hj => ?_⟩
        obtain ⟨u, h5, h6⟩ := h4 j hj
        refine ⟨u, h5, ?_⟩
        rw [ha, Up.add, Up.add] at h6
        exact h6
theorem Up.one {l : List Value} (h : l.length = 1) : ∃ u, l = [u] := by
  match l, h with
  | [u], _ => exact ⟨u, rfl⟩
theorem Up.cellsU : Tryz.prog.cellsOf 144 = 1 := by kernel_rfl
/-- Words. -/
theorem Up.words {H : Type} {enc : TypeId × Value → H} {w : World} {base : Nat} {spare : Nat → Bool} {held : Bool} {fuel : Nat} {cs : List Value} {x : DataW H × List MemPlace} {N : Nat} (h : DataW.trod enc Tryz.prog w base spare held fuel 22 cs = some x) (hN : Rows.uptoBulk x.1 ≤ N) :
    ∃ v ws, cs = [v] ∧ Nt.In w v ws ∧ Nt.Wd ws ∧ ws.length ≤ N := by
  rcases Up.slice Tryz.underlying22 Up.cellsU (by decide) h hN with rfl | ⟨len, cap, n, _, hl, hm, hle, h1⟩
  · exact ⟨_, [], rfl, .inl ⟨rfl, rfl⟩, fun y hy => by simp at hy, Nat.zero_le _⟩
  · rcases h1 with ⟨_, a, rfl⟩ | ⟨h0, b, off, rfl, hb, hel⟩
    · exact ⟨_, [], rfl, .inr (.inl ⟨a, cap, rfl, rfl⟩), fun y hy => by simp at hy, Nat.zero_le _⟩
    · obtain ⟨ws, hw1, hw2⟩ := Up.choose (P := fun i z => z < 4294967296 ∧ w.cell? ⟨b, off + i, none⟩ = some (.int .u32 (z : Nat))) len (fun i hi => by
        obtain ⟨y, es, _, hd, hes, hcell⟩ := hel i hi
        obtain ⟨u, rfl⟩ := Up.one hes
        obtain ⟨k, e, _, hwf⟩ := DataW.trod_int Tryz.underlying144 hd
        simp only [List.cons.injEq, and_true] at e
        subst e
        obtain ⟨u, hu1, hu2⟩ := hcell 0 (by decide)
        simp only [List.getElem?_cons_zero, Option.some.injEq] at hu1
        subst hu1
        have hk : 0 ≤ k ∧ k < 4294967296 := by
          simp only [Lit.wf, Bool.and_eq_true, decide_eq_true_eq] at hwf
          have e1 : IntKind.min .u32 = 0 := rfl
          have e2 : IntKind.max .u32 = 4294967295 := rfl
          omega
        refine ⟨k.toNat, by omega, ?_⟩
        rw [Nat.mul_one, Nat.add_zero] at hu2
        rw [hu2, show ((k.toNat : Nat) : Int) = k by omega])
      refine ⟨_, ws, rfl, .inr (.inr ⟨by omega, b, off, cap, by rw [hw1], by omega, hb, fun j hj => ?_⟩), fun y hy => ?_, by omega⟩
      · have hg : ws[j]? = some ws[j] := List.getElem?_eq_getElem hj
        have := (hw2 j _ hg).2
        rw [this, List.getD_eq_getElem?_getD, hg]
        rfl
      · obtain ⟨j, hj, rfl⟩ := List.getElem_of_mem hy
        exact (hw2 j _ (List.getElem?_eq_getElem hj)).1
theorem Up.cellsB : Tryz.prog.cellsOf 5 = 1 := by kernel_rfl
theorem Up.bytes {H : Type} {enc : TypeId × Value → H} {w : World} {base : Nat} {spare : Nat → Bool} {held : Bool} {fuel : Nat} {cs : List Value} {x : DataW H × List MemPlace} {N : Nat} (h : DataW.trod enc Tryz.prog w base spare held fuel 27 cs = some x) (hN : Rows.uptoBulk x.1 ≤ N) :
    ∃ v s, cs = [v] ∧ By.In w v s ∧ s.size ≤ N := by
  obtain ⟨a, l, c, rfl⟩ := Go.Joins.slice_form Tryz.underlying27 h
  obtain ⟨s, h1, h2⟩ := By.In.open (v := .slice a l c) Tryz.underlying27 Tryz.underlying5 Up.cellsB ⟨_, _, _, rfl⟩ ⟨fuel, h⟩
  refine ⟨_, s, rfl, h1, ?_⟩
  rcases h2 with ⟨_, h2⟩ | ⟨elems, spare, he, h2⟩
  · omega
  · rw [he, Up.slc] at hN
    have := Up.len elems
    omega
theorem Up.list2 {α : Type} {l : List α} (h : l.length = 2) : ∃ a b, l = [a, b] := by
  match l, h with
  | [a, b], _ => exact ⟨a, b, rfl⟩
theorem Up.list3 {α : Type} {l : List α} (h : l.length = 3) : ∃ a b c, l = [a, b, c] := by
  match l, h with
  | [a, b, c], _ => exact ⟨a, b, c, rfl⟩
theorem Up.list6 {α : Type} {l : List α} (h : l.length = 6) : ∃ a b c d e f, l = [a, b, c, d, e, f] := by
  match l, h with
  | [a, b, c, d, e, f], _ => exact ⟨a, b, c, d, e, f, rfl⟩
theorem Up.list11 {α : Type} {l : List α} (h : l.length = 11) : ∃ c0 c1 c2 c3 c4 c5 c6 c7 c8 c9 c10, l = [c0, c1, c2, c3, c4, c5, c6, c7, c8, c9, c10] := by
  match l, h with
  | [c0, c1, c2, c3, c4, c5, c6, c7, c8, c9, c10], _ => exact ⟨c0, c1, c2, c3, c4, c5, c6, c7, c8, c9, c10, rfl⟩
theorem Up.cellsD : Tryz.prog.cellsOf 30 = 11 := by kernel_rfl
theorem Up.cellsN : Tryz.prog.cellsOf 26 = 6 := by kernel_rfl
theorem Up.cellsR : Tryz.prog.cellsOf 24 = 3 := by kernel_rfl
theorem Up.cellsI : Tryz.prog.cellsOf 3 = 1 := by kernel_rfl
theorem Up.cellsO : Tryz.prog.cellsOf 4 = 1 := by kernel_rfl
theorem Up.cellsS : Tryz.prog.cellsOf 9 = 1 := by kernel_rfl
theorem Up.cells32 : Tryz.prog.cellsOf 22 = 1 := by kernel_rfl
theorem Up.cells8 : Tryz.prog.cellsOf 27 = 1 := by kernel_rfl
theorem Up.cellsL : Tryz.prog.cellsOf 28 = 1 := by kernel_rfl
set_option maxRecDepth 100000 in
theorem Up.rat {H : Type} {enc : TypeId × Value → H} {w : World} {base : Nat} {spare : Nat → Bool} {held : Bool} {fuel : Nat} {c0 c1 c2 : Value} {x : DataW H × List MemPlace} {N : Nat} (h : DataW.trod enc Tryz.prog w base spare held fuel 24 [c0, c1, c2] = some x) (hN : Rows.uptoBulk x.1 ≤ N) :
    ∃ (b : Bool) (t1 t2 : List Nat), c0 = .bool b ∧ Nt.In w c1 t1 ∧ Nt.In w c2 t2 ∧ Nt.Wd t1 ∧ Nt.Wd t2 ∧ t1.length ≤ N ∧ t2.length ≤ N := by
  obtain ⟨xs, n, _, hx, _, hlen, hf⟩ := DataW.trod_struct Tryz.underlying24 h
  obtain ⟨y0, y1, y2, rfl⟩ := Up.list3 hlen
  have hN2 : Rows.uptoBulkAll [y0.1, y1.1, y2.1] + 1 ≤ N := by rw [← Up.agg]; rw [hx] at hN; exact hN
  have m1 := Up.mem (l := [y0.1, y1.1, y2.1]) (d := y1.1) (by simp)
  have m2 := Up.mem (l := [y0.1, y1.1, y2.1]) (d := y2.1) (by simp)
  have h0 : DataW.trod enc Tryz.prog w base spare held n 4 (([c0, c1, c2].drop 0).take (Tryz.prog.cellsOf 4)) = some y0 := hf 0 _ rfl
  have h1 : DataW.trod enc Tryz.prog w base spare held n 22 (([c0, c1, c2].drop 1).take (Tryz.prog.cellsOf 22)) = some y1 := hf 1 _ rfl
  have h2 : DataW.trod enc Tryz.prog w base spare held n 22 (([c0, c1, c2].drop 2).take (Tryz.prog.cellsOf 22)) = some y2 := hf 2 _ rfl
  rw [Up.cellsO] at h0
  rw [Up.cells32] at h1 h2
  obtain ⟨b, e0, _⟩ := DataW.trod_bool Tryz.underlying4 h0
  obtain ⟨v1, w1, e1, i1, d1, l1⟩ := Up.words (N := N) h1 (by omega)
  obtain ⟨v2, w2, e2, i2, d2, l2⟩ := Up.words (N := N) h2 (by omega)
  simp only [List.drop_zero, List.take_succ_cons, List.take_zero, List.drop_succ_cons, List.cons.injEq, and_true] at e0 e1 e2
  subst e0 e1 e2
  exact ⟨b, w1, w2, rfl, i1, i2, d1, d2, l1, l2⟩
/-- A row of values, each of so many cells. -/
def Up.Row (w : World) (P : Nat → List Value → Prop) (sz : Nat) (b off len : Nat) : Prop := ∀ i, i < len → ∃ es : List Value, P i es ∧ es.length = sz ∧ ∀ j, j < sz → ∃ u, es[j]? = some u ∧ w.cell? ⟨b, off + i * sz + j, none⟩ = some u
set_option maxRecDepth 100000 in
theorem Up.datum {H : Type} {enc : TypeId × Value → H} {w : World} {base : Nat} {spare : Nat → Bool} {held : Bool} {N : Nat} (hN0 : N ≤ 1048576) : ∀ (fuel : Nat) (cs : List Value) (x : DataW H × List MemPlace), DataW.trod enc Tryz.prog w base spare held fuel 30 cs = some x → Rows.uptoBulk x.1 ≤ N →
    ∃ t C, cs = C.toList ∧ Tr.In w (fun _ => True) t (.agg C) := by
  intro fuel
  induction fuel using Nat.strongRecOn with
  | ind fuel IH =>
    intro cs x h hN
    obtain ⟨xs, n, hfu, hx, hcl, hlen, hf⟩ := DataW.trod_struct Tryz.underlying30 h
    obtain ⟨y0, y1, y2, y3, y4, y5, rfl⟩ := Up.list6 hlen
    obtain ⟨c0, c1, c2, c3, c4, c5, c6, c7, c8, c9, c10, rfl⟩ := Up.list11 (hcl.trans Up.cellsD)
    have hN2 : Rows.uptoBulkAll [y0.1, y1.1, y2.1, y3.1, y4.1, y5.1] + 1 ≤ N := by rw [← Up.agg]; rw [hx] at hN; exact hN
    have m2 := Up.mem (l := [y0.1, y1.1, y2.1, y3.1, y4.1, y5.1]) (d := y2.1) (by simp)
    have m4 := Up.mem (l := [y0.1, y1.1, y2.1, y3.1, y4.1, y5.1]) (d := y4.1) (by simp)
    have m5 := Up.mem (l := [y0.1, y1.1, y2.1, y3.1, y4.1, y5.1]) (d := y5.1) (by simp)
    have h0 : DataW.trod enc Tryz.prog w base spare held n 3 (([c0, c1, c2, c3, c4, c5, c6, c7, c8, c9, c10].drop 0).take (Tryz.prog.cellsOf 3)) = some y0 := hf 0 _ rfl
    have h1 : DataW.trod enc Tryz.prog w base spare held n 3 (([c0, c1, c2, c3, c4, c5, c6, c7, c8, c9, c10].drop 1).take (Tryz.prog.cellsOf 3)) = some y1 := hf 1 _ rfl
    have h2 : DataW.trod enc Tryz.prog w base spare held n 26 (([c0, c1, c2, c3, c4, c5, c6, c7, c8, c9, c10].drop 2).take (Tryz.prog.cellsOf 26)) = some y2 := hf 2 _ rfl
    have h3 : DataW.trod enc Tryz.prog w base spare held n 9 (([c0, c1, c2, c3, c4, c5, c6, c7, c8, c9, c10].drop 8).take (Tryz.prog.cellsOf 9)) = some y3 := hf 3 _ rfl
    have h4 : DataW.trod enc Tryz.prog w base spare held n 27 (([c0, c1, c2, c3, c4, c5, c6, c7, c8, c9, c10].drop 9).take (Tryz.prog.cellsOf 27)) = some y4 := hf 4 _ rfl
    have h5 : DataW.trod enc Tryz.prog w base spare held n 28 (([c0, c1, c2, c3, c4, c5, c6, c7, c8, c9, c10].drop 10).take (Tryz.prog.cellsOf 28)) = some y5 := hf 5 _ rfl
    clear hf h
    rw [Up.cellsI] at h0 h1
    rw [Up.cellsN] at h2
    rw [Up.cellsS] at h3
    rw [Up.cells8] at h4
    rw [Up.cellsL] at h5
    obtain ⟨k, e0, _, wk⟩ := DataW.trod_int Tryz.underlying3 h0
    obtain ⟨m, e1, _, wm⟩ := DataW.trod_int Tryz.underlying3 h1
    obtain ⟨s, e3, _, hs⟩ := DataW.trod_string Tryz.underlying9 h3
    obtain ⟨v9, raw, e4, i9, l9⟩ := Up.bytes (N := N) h4 (by omega)
    have h2b : DataW.trod enc Tryz.prog w base spare held n 26 [c2, c3, c4, c5, c6, c7] = some y2 := h2
    obtain ⟨ys, n2, _, hx2, _, hlen2, hg⟩ := DataW.trod_struct Tryz.underlying26 h2b
    obtain ⟨z0, z1, rfl⟩ := Up.list2 hlen2
    have m2' : Rows.uptoBulk y2.1 ≤ N := by omega
    rw [hx2] at m2'
    have hN3 : Rows.uptoBulkAll [z0.1, z1.1] + 1 ≤ N := by
      rw [← Up.agg]
      exact m2'
    have p0 := Up.mem (l := [z0.1, z1.1]) (d := z0.1) (by simp)
    have p1 := Up.mem (l := [z0.1, z1.1]) (d := z1.1) (by simp)
    have g0 : DataW.trod enc Tryz.prog w base spare held n2 24 (([c2, c3, c4, c5, c6, c7].drop 0).take (Tryz.prog.cellsOf 24)) = some z0 := hg 0 _ rfl
    have g1 : DataW.trod enc Tryz.prog w base spare held n2 24 (([c2, c3, c4, c5, c6, c7].drop 3).take (Tryz.prog.cellsOf 24)) = some z1 := hg 1 _ rfl
    rw [Up.cellsR] at g0 g1
    obtain ⟨b1, t1, t2, rfl, j3, j4, w1, w2, l1, l2⟩ := Up.rat (N := N) (show DataW.trod enc Tryz.prog w base spare held n2 24 [c2, c3, c4] = some z0 from g0) (by omega)
    obtain ⟨b2, t3, t4, rfl, j6, j7, w3, w4, l3, l4⟩ := Up.rat (N := N) (show DataW.trod enc Tryz.prog w base spare held n2 24 [c5, c6, c7] = some z1 from g1) (by omega)
    simp only [List.drop_zero, List.take_succ_cons, List.take_zero, List.drop_succ_cons, List.cons.injEq, and_true] at e0 e1 e3 e4
    subst e0 e1 e3 e4
    have hlist : ∃ l, Tr.LIn w (fun _ => True) l c10 := by
      rcases Up.slice (N := N) Tryz.underlying28 Up.cellsD (by decide) h5 (by omega) with e | ⟨len, cap, n', hn', hl, hm, hle, hh⟩
      · simp only [List.drop_zero, List.take_succ_cons, List.take_zero, List.drop_succ_cons, List.cons.injEq, and_true] at e
        subst e
        exact ⟨[], .inl ⟨rfl, rfl⟩⟩
      · rcases hh with ⟨_, a, e⟩ | ⟨hp, b, off, e, hb, hel⟩
        · simp only [List.drop_zero, List.take_succ_cons, List.take_zero, List.drop_succ_cons, List.cons.injEq, and_true] at e
          subst e
          exact ⟨[], .inr (.inl ⟨_, _, rfl, rfl⟩)⟩
        · simp only [List.drop_zero, List.take_succ_cons, List.take_zero, List.drop_succ_cons, List.cons.injEq, and_true] at e
          subst e
          obtain ⟨l, hl1, hl2⟩ := Up.choose (P := fun i t => ∃ C : Array Value, Tr.In w (fun _ => True) t (.agg C) ∧ Tr.Mem w b (off + i * 11) C) len (fun i hi => by
            obtain ⟨y, es, hby, hd, hes, hcell⟩ := hel i hi
            obtain ⟨t, C, rfl, hI⟩ := IH n' (by omega) es y hd hby
            exact ⟨t, C, hI, fun j hj => by
              obtain ⟨u, q1, q2⟩ := hcell j hj
              exact ⟨u, by rw [← Array.getElem?_toList]; exact q1, q2⟩⟩)
          refine ⟨l, .inr (.inr ⟨by omega, b, off, cap, by rw [hl1], by omega, by simp only [maxLen] at hm; omega, hb, trivial, Tr.All.of l b off (fun k t hk => ?_)⟩)⟩
          obtain ⟨C, q1, q2⟩ := hl2 k t hk
          exact ⟨C, q1, by rw [Nat.mul_comm 11 k]; exact q2⟩
    obtain ⟨l, hL⟩ := hlist
    simp only [Lit.wf, Bool.and_eq_true, decide_eq_true_eq] at wk wm
    have q1 : IntKind.min .i64 = -9223372036854775808 := rfl
    have q2 : IntKind.max .i64 = 9223372036854775807 := rfl
    refine ⟨.mk ⟨k, m, b1, t1, t2, b2, t3, t4, s, raw⟩ l, _, rfl, ?_⟩
    rw [Tr.In_mk]
    refine ⟨c3, c4, c6, c7, c9, c10, rfl, ⟨⟨by show (_ : Int) ≤ k; omega, by show k ≤ _; omega, by show (_ : Int) ≤ m; omega, by show m ≤ _; omega, w1, w2, w3, w4, by show t1.length ≤ _; omega, by show t2.length ≤ _; omega, by show t3.length ≤ _; omega, by show t4.length ≤ _; omega, hs, by show raw.size ≤ _; omega⟩, j3, j4, j6, j7, i9, fun _ _ _ _ _ _ => trivial, fun _ _ _ _ _ _ => trivial, fun _ _ _ _ _ _ => trivial, fun _ _ _ _ _ _ => trivial, fun _ _ _ _ _ _ => trivial⟩, hL⟩
end Go.Proofs.YtikmebkfdpbidaaGreatDoor
namespace Go.Proofs.YtikmebkfdpbidaaGreatDoor
open Go.RowKit Go.ChangeShapes Go.WideShapes
set_option linter.unusedVariables false
set_option linter.unusedSimpArgs false

theorem Up.cellsM : Tryz.prog.cellsOf 53 = 2 := by kernel_rfl
theorem Up.cellsMs : Tryz.prog.cellsOf 47 = 1 := by kernel_rfl
theorem Up.data {H : Type} {enc : TypeId × Value → H} {w : World} {base : Nat} {spare : Nat → Bool} {held : Bool} {N : Nat} (hN0 : N ≤ 1048576) {fuel : Nat} {cs : List Value} {x : DataW H × List MemPlace} (h : DataW.trod enc Tryz.prog w base spare held fuel 28 cs = some x) (hN : Rows.uptoBulk x.1 ≤ N) :
    ∃ v l, cs = [v] ∧ Tr.LIn w (fun _ => True) l v ∧ l.length ≤ N := by
  rcases Up.slice (N := N) Tryz.underlying28 Up.cellsD (by decide) h hN with e | ⟨len, cap, n', hn', hl, hm, hle, hh⟩
  · exact ⟨_, [], e, .inl ⟨rfl, rfl⟩, Nat.zero_le _⟩
  · rcases hh with ⟨_, a, e⟩ | ⟨hp, b, off, e, hb, hel⟩
    · exact ⟨_, [], e, .inr (.inl ⟨_, _, rfl, rfl⟩), Nat.zero_le _⟩
    · obtain ⟨l, hl1, hl2⟩ := Up.choose (P := fun i t => ∃ C : Array Value, Tr.In w (fun _ => True) t (.agg C) ∧ Tr.Mem w b (off + i * 11) C) len (fun i hi => by
        obtain ⟨y, es, hby, hd, hes, hcell⟩ := hel i hi
        obtain ⟨t, C, rfl, hI⟩ := Up.datum hN0 n' es y hd hby
        exact ⟨t, C, hI, fun j hj => by
          obtain ⟨u, q1, q2⟩ := hcell j hj
          exact ⟨u, by rw [← Array.getElem?_toList]; exact q1, q2⟩⟩)
      refine ⟨_, l, e, .inr (.inr ⟨by omega, b, off, cap, by rw [hl1], by omega, by simp only [maxLen] at hm; omega, hb, trivial, Tr.All.of l b off (fun k t hk => ?_)⟩), by omega⟩
      obtain ⟨C, q1, q2⟩ := hl2 k t hk
      exact ⟨C, q1, by rw [Nat.mul_comm 11 k]; exact q2⟩
set_option maxRecDepth 100000 in
theorem Up.simple {H : Type} {enc : TypeId × Value → H} {w : World} {base : Nat} {spare : Nat → Bool} {held : Bool} {N : Nat} (hN0 : N ≤ 1048576) {fuel : Nat} {cs : List Value} {x : DataW H × List MemPlace} (h : DataW.trod enc Tryz.prog w base spare held fuel 53 cs = some x) (hN : Rows.uptoBulk x.1 ≤ N) :
    ∃ (s : Sp) (fv : Value), cs = [.int .i64 s.t, fv] ∧ Tr.LIn w (fun _ => True) s.f fv := by
  obtain ⟨xs, n, hfu, hx, hcl, hlen, hf⟩ := DataW.trod_struct Tryz.underlying53 h
  obtain ⟨y0, y1, rfl⟩ := Up.list2 hlen
  obtain ⟨c0, c1, rfl⟩ := Up.list2 (hcl.trans Up.cellsM)
  have hN2 : Rows.uptoBulkAll [y0.1, y1.1] + 1 ≤ N := by rw [← Up.agg]; rw [hx] at hN; exact hN
  have m1 := Up.mem (l := [y0.1, y1.1]) (d := y1.1) (by simp)
  have h0 : DataW.trod enc Tryz.prog w base spare held n 3 (([c0, c1].drop 0).take (Tryz.prog.cellsOf 3)) = some y0 := hf 0 _ rfl
  have h1 : DataW.trod enc Tryz.prog w base spare held n 28 (([c0, c1].drop 1).take (Tryz.prog.cellsOf 28)) = some y1 := hf 1 _ rfl
  rw [Up.cellsI] at h0
  rw [Up.cellsL] at h1
  obtain ⟨k, e0, _, wk⟩ := DataW.trod_int Tryz.underlying3 h0
  obtain ⟨v1, l, e1, hL, _⟩ := Up.data hN0 h1 (by omega)
  simp only [List.drop_zero, List.take_succ_cons, List.take_zero, List.drop_succ_cons, List.cons.injEq, and_true] at e0 e1
  subst e0 e1
  exact ⟨⟨k, l⟩, _, rfl, hL⟩
theorem Up.simples {H : Type} {enc : TypeId × Value → H} {w : World} {base : Nat} {spare : Nat → Bool} {held : Bool} {N : Nat} (hN0 : N ≤ 1048576) {fuel : Nat} {cs : List Value} {x : DataW H × List MemPlace} (h : DataW.trod enc Tryz.prog w base spare held fuel 47 cs = some x) (hN : Rows.uptoBulk x.1 ≤ N) :
    ∃ v l, cs = [v] ∧ Sp.LIn w (fun _ => True) l v ∧ l.length ≤ N := by
  rcases Up.slice (N := N) Tryz.underlying47 Up.cellsM (by decide) h hN with e | ⟨len, cap, n', hn', hl, hm, hle, hh⟩
  · exact ⟨_, [], e, .inl ⟨rfl, rfl⟩, Nat.zero_le _⟩
  · rcases hh with ⟨_, a, e⟩ | ⟨hp, b, off, e, hb, hel⟩
    · exact ⟨_, [], e, .inr (.inl ⟨_, _, rfl, rfl⟩), Nat.zero_le _⟩
    · obtain ⟨l, hl1, hl2⟩ := Up.choose (P := fun i (s : Sp) => ∃ fv, w.cell? ⟨b, off + i * 2, none⟩ = some (.int .i64 s.t) ∧ w.cell? ⟨b, off + i * 2 + 1, none⟩ = some fv ∧ Tr.LIn w (fun _ => True) s.f fv) len (fun i hi => by
        obtain ⟨y, es, hby, hd, hes, hcell⟩ := hel i hi
        obtain ⟨s, fv, rfl, hL⟩ := Up.simple hN0 hd hby
        obtain ⟨u0, q0, r0⟩ := hcell 0 (by decide)
        obtain ⟨u1, q1, r1⟩ := hcell 1 (by decide)
        simp only [List.getElem?_cons_zero, List.getElem?_cons_succ, Option.some.injEq] at q0 q1
        subst q0 q1
        exact ⟨s, _, r0, r1, hL⟩)
      exact ⟨_, l, e, .inr (.inr ⟨by omega, b, off, cap, by rw [hl1], by omega, by simp only [maxLen] at hm; omega, hb, trivial, fun k s hk => hl2 k s hk⟩), by omega⟩
theorem Up.flat {N : Nat} : ∀ (ls : List (List Sp)), (∀ l ∈ ls, l.length ≤ N) → ls.flatten.length ≤ ls.length * N
  | [], _ => by simp
  | a :: r, h => by
    have h1 := Up.flat r (fun l hl => h l (List.mem_cons_of_mem _ hl))
    have h2 := h a (List.mem_cons_self ..)
    rw [List.flatten_cons, List.length_append, List.length_cons, Nat.succ_mul]
    omega
theorem Up.lists {H : Type} {enc : TypeId × Value → H} {w : World} {base : Nat} {spare : Nat → Bool} {held : Bool} {N : Nat} (hN0 : N ≤ 1048576) {fuel : Nat} {cs : List Value} {x : DataW H × List MemPlace} (h : DataW.trod enc Tryz.prog w base spare held fuel 46 cs = some x) (hN : Rows.uptoBulk x.1 ≤ N) :
    ∃ v ls, cs = [v] ∧ Sp.LLIn w (fun _ => True) ls v ∧ ls.length ≤ N ∧ ls.flatten.length ≤ N * N := by
  rcases Up.slice (N := N) Tryz.underlying46 Up.cellsMs (by decide) h hN with e | ⟨len, cap, n', hn', hl, hm, hle, hh⟩
  · exact ⟨_, [], e, .inl ⟨rfl, rfl⟩, Nat.zero_le _, by simp⟩
  · rcases hh with ⟨_, a, e⟩ | ⟨hp, b, off, e, hb, hel⟩
    · exact ⟨_, [], e, .inr (.inl ⟨_, _, rfl, rfl⟩), Nat.zero_le _, by simp⟩
    · obtain ⟨ls, hl1, hl2⟩ := Up.choose (P := fun i (l : List Sp) => l.length ≤ N ∧ ∃ lv, w.cell? ⟨b, off + i, none⟩ = some lv ∧ Sp.LIn w (fun _ => True) l lv) len (fun i hi => by
        obtain ⟨y, es, hby, hd, hes, hcell⟩ := hel i hi
        obtain ⟨v, l, rfl, hL, hlN⟩ := Up.simples hN0 hd hby
        obtain ⟨u0, q0, r0⟩ := hcell 0 (by decide)
        simp only [List.getElem?_cons_zero, Option.some.injEq] at q0
        subst q0
        rw [Nat.mul_one, Nat.add_zero] at r0
        exact ⟨l, hlN, _, r0, hL⟩)
      refine ⟨_, ls, e, .inr (.inr ⟨by omega, b, off, cap, by rw [hl1], by omega, by simp only [maxLen] at hm; omega, hb, trivial, fun k l hk => (hl2 k l hk).2⟩), by omega, ?_⟩
      have h1 := Up.flat (N := N) ls (fun l hl => by
        obtain ⟨k, hk, rfl⟩ := List.getElem_of_mem hl
        exact (hl2 k _ (List.getElem?_eq_getElem hk)).1)
      exact Nat.le_trans h1 (Nat.mul_le_mul_right _ (by omega))
section
variable {H : Type} {enc : TypeId × Value → H} {w : World} {base : Nat} {spare : Nat → Bool} {held : Bool} {N : Nat} {v : Value} {d : DataW H} {p : List MemPlace}
theorem Up.simplesT (hN0 : N ≤ 1048576) (hv : ∃ a len cap, v = .slice a len cap) (h : DataW.Trod enc Tryz.prog w base spare held 47 v d p) (hN : Rows.uptoBulk d ≤ N) : ∃ l, Sp.LIn w (fun _ => True) l v ∧ l.length ≤ N := by
  obtain ⟨a, len, cap, rfl⟩ := hv
  obtain ⟨fuel, hf⟩ := h
  obtain ⟨v', l, e, h1, h2⟩ := Up.simples hN0 hf hN
  have e2 : v' = .slice a len cap := by simpa [Value.cells] using e.symm
  subst e2
  exact ⟨l, h1, h2⟩
theorem Up.listsT (hN0 : N ≤ 1048576) (hv : ∃ a len cap, v = .slice a len cap) (h : DataW.Trod enc Tryz.prog w base spare held 46 v d p) (hN : Rows.uptoBulk d ≤ N) : ∃ ls, Sp.LLIn w (fun _ => True) ls v ∧ ls.length ≤ N ∧ ls.flatten.length ≤ N * N := by
  obtain ⟨a, len, cap, rfl⟩ := hv
  obtain ⟨fuel, hf⟩ := h
  obtain ⟨v', ls, e, h1, h2, h3⟩ := Up.lists hN0 hf hN
  have e2 : v' = .slice a len cap := by simpa [Value.cells] using e.symm
  subst e2
  exact ⟨ls, h1, h2, h3⟩
end
set_option maxRecDepth 100000 in
theorem Up.treeT {H : Type} {enc : TypeId × Value → H} {w : World} {base b0 : Nat} {r : Reach} {spare : Nat → Bool} {held : Bool} {N : Nat} {v : Value} {d : DataW H} {p : List MemPlace} (hN0 : N ≤ 1048576) (hv : Value.okWide Tryz.prog w r b0 30 v) (h : DataW.Trod enc Tryz.prog w base spare held 30 v d p) (hN : Rows.uptoBulk d ≤ N) : ∃ t, Tr.In w (fun _ => True) t v := by
  obtain ⟨cs, rfl, hsz⟩ := okWide_struct Tryz.underlying30 hv
  obtain ⟨fuel, hf⟩ := h
  obtain ⟨t, C, e, h1⟩ := Up.datum hN0 fuel _ _ hf hN
  have e2 : cs = C := Array.toList_inj.1 (by simpa [Value.cells] using e)
  subst e2
  exact ⟨t, h1⟩
end Go.Proofs.YtikmebkfdpbidaaGreatDoor
