/-
  The methods of the strings.Builder that lies ahead in a writer of write's own: copyCheck, WriteString, String. Conditions: the writer is one of the call's own, its length stays within 2^47 bytes.
  write.Display of a text or a symbol that is short and plain.
  cond.Tell of what cond.Error has made, and the fixed fact of layer 16's laws.
-/
import Derived.Test.YtikmebkfdpbidaaGreatDoorProg
import Derived.WalkKit
import Derived.WalkSpells
import Derived.WalkLawsBesides
import Derived.Handy
import Derived.Lib.Hide
import Derived.Shelf.Strings.Builder1
import Derived.Outline
import Derived.Test.YtikmebkfdpbidaaGreatDoorPh
import Derived.Test.YtikmebkfdpbidaaGreatDoorCoErrorP
namespace Go.Proofs.YtikmebkfdpbidaaGreatDoor
open Go.RowKit
set_option linter.unusedVariables false

theorem Wr.infoByte : (Tryz.prog.info? 5).map (fun i => (i.zero, i.size, i.bytes)) = some (some (.int .u8 0), 1, 1) := by kernel_rfl
theorem Wr.sizeBuilder : (Tryz.prog.info? 94).map (·.size) = some 2 := by kernel_rfl
theorem Wr.lies : liesAt Tryz.prog Tryz.prog.depth 128 (3 / Tryz.prog.cellsOf 128) 0 94 1 = true := by kernel_rfl
theorem Wr.cellsByte : Tryz.prog.cellsOf 5 = 1 := by kernel_rfl

/-- A writer at block b (one of the call's own), that holds the bytes bs. -/
def Wr.At (B b : Nat) (p : Value) (m : Bool) (bs : List Value) (w : World) : Prop :=
  B ≤ b ∧ ∃ v, w.heap[b]? = some (.cells #[p, v, .bool m] 128 (0, 0)) ∧ w.ownsRowF B 5 1 v bs.length bs ∧ v.ownBlock ≠ some b
def Wr.Is (B b : Nat) (m : Bool) (bs : List Value) (w : World) : Prop := Wr.At B b (.pointer none) m bs w ∨ Wr.At B b (.pointer (some ⟨b, 0, none⟩)) m bs w

theorem Wr.At.cells {B b : Nat} {p : Value} {m : Bool} {bs : List Value} {w : World} (h : Wr.At B b p m bs w) : w.cell? ⟨b, 0, none⟩ = some p ∧ w.cell? ⟨b, 2, none⟩ = some (.bool m) ∧ w.frozen? ⟨b, 0, none⟩ = false ∧ w.shape? b = some (128, 3) := by
  obtain ⟨_, v, hb, _⟩ := h
  simp [World.cell?, World.frozen?, World.shape?, hb]
theorem Wr.At.used {B b : Nat} {p : Value} {m : Bool} {bs : List Value} {w : World} (h : Wr.At B b p m bs w) (q : Value) : Wr.At B b q m bs (w.setCell ⟨b, 0, none⟩ q) := by
  obtain ⟨hB, v, hb, hown, hne⟩ := h
  refine ⟨hB, v, ?_, ?_, hne⟩
  · simp [World.setCell, Array.getElem?_modify, hb]
  · exact hown.kept (row := some b) ⟨rfl, rfl, rfl, by simp [World.setCell], fun k _ hk => Below.heap_setCell _ _ _ _ (fun e => hk (by simp [e]))⟩ (Or.inr hne)
theorem Wr.At.put {B b : Nat} {p v v' : Value} {m : Bool} {bs' : List Value} {w : World} (hB : B ≤ b) (hb : w.heap[b]? = some (.cells #[p, v, .bool m] 128 (0, 0))) (hown : w.ownsRowF B 5 1 v' bs'.length bs') :
    Wr.At B b p m bs' (w.setCell ⟨b, 1, none⟩ v') := by
  have hne := Lib.ownBlock_neF hown hb (by decide)
  refine ⟨hB, v', ?_, ?_, hne⟩
  · simp [World.setCell, Array.getElem?_modify, hb]
  · exact hown.kept (row := some b) ⟨rfl, rfl, rfl, by simp [World.setCell], fun k _ hk => Below.heap_setCell _ _ _ _ (fun e => hk (by simp [e]))⟩ (Or.inr hne)

set_option maxHeartbeats 1000000 in
set_option maxRecDepth 100000 in
theorem Wr.copyCheck_used (b : Nat) (w : World) (h0 : w.cell? ⟨b, 0, none⟩ = some (.pointer (some ⟨b, 0, none⟩))) :
    Calls Tryz.prog 81 #[.pointer (some ⟨b, 0, none⟩)] w fun e w' => e = .returned (.tuple #[]) ∧ w' = w := by
  obtain ⟨j, hj, _⟩ := Option.map_eq_some_iff.1 Wr.sizeBuilder
  go_enter Tryz.func81, Tryz.ntmps81
  go_wp2
  rw [Lib.run_neq_ptr_same w _ Tryz.underlying92 hj]
  go_wp2
  go_end0
  exact ⟨rfl, rfl⟩

set_option maxHeartbeats 1000000 in
set_option maxRecDepth 100000 in
theorem Wr.copyCheck_fresh (b : Nat) (w : World) (h0 : w.cell? ⟨b, 0, none⟩ = some (.pointer none)) (hsh : w.shape? b = some (128, 3)) (hfz : w.frozen? ⟨b, 0, none⟩ = false) :
    Calls Tryz.prog 81 #[.pointer (some ⟨b, 0, none⟩)] w fun e w' => e = .returned (.tuple #[]) ∧ w' = w.setCell ⟨b, 0, none⟩ (.pointer (some ⟨b, 0, none⟩)) := by
  obtain ⟨j, hj, hjs⟩ := Option.map_eq_some_iff.1 Wr.sizeBuilder
  go_enter Tryz.func81, Tryz.ntmps81
  go_wp2
  rw [Lib.run_to_unsafe w ⟨b, 0, none⟩ Tryz.underlying92 Tryz.underlying173 hj (by rw [hjs]; decide) hsh (Nat.zero_lt_succ 2)]
  simp only [Result.andThen]
  rw [Oper.upon_value]
  go_wp2
  rw [run_callFunc_extern Tryz.func127 (by kernel_rfl) (by kernel_rfl) (by kernel_rfl) (e := Extern.AbiNoEscape.same) (by kernel_rfl)]
  rw [Lib.run_noEscape]
  simp only [Result.andThen]
  rw [Oper.upon_value]
  go_wp2
  rw [Lib.run_from_unsafe w ⟨b, 0, none⟩ Tryz.underlying173 Tryz.underlying92 hj hsh Wr.lies]
  simp only [Result.andThen]
  rw [Oper.upon_value]
  go_wp2
  go_end0
  exact ⟨rfl, rfl⟩

theorem Wr.copyCheck (B b : Nat) (m : Bool) (bs : List Value) (w : World) (h : Wr.Is B b m bs w) :
    Calls Tryz.prog 81 #[.pointer (some ⟨b, 0, none⟩)] w fun e w' => e = .returned (.tuple #[]) ∧ (Wr.At B b (.pointer (some ⟨b, 0, none⟩)) m bs w' ∧ Below B w w') := by
  rcases h with h | h
  · refine (Wr.copyCheck_fresh b w h.cells.1 h.cells.2.2.2 h.cells.2.2.1).mono ?_
    rintro e w' ⟨rfl, rfl⟩
    exact ⟨rfl, h.used _, (Below.refl B w).setCell (p := ⟨b, 0, none⟩) h.1 _⟩
  · refine (Wr.copyCheck_used b w h.cells.1).mono ?_
    rintro e w' ⟨rfl, rfl⟩
    exact ⟨rfl, h, Below.refl B _⟩

set_option maxHeartbeats 2000000 in
set_option maxRecDepth 100000 in
theorem Wr.writeString (B b : Nat) (m : Bool) (bs : List Value) (s : ByteArray) (w : World) (h : Wr.Is B b m bs w) (hlen : bs.length + s.size ≤ 140737488355328) (hBw : B ≤ w.heap.size) :
    Calls Tryz.prog 45 #[.pointer (some ⟨b, 0, none⟩), .string s] w fun e w' => e = .returned (.tuple #[.int .i64 s.size, .nilIface]) ∧ (Wr.At B b (.pointer (some ⟨b, 0, none⟩)) m (bs ++ Lib.strCells s) w' ∧ Below B w w') := by
  obtain ⟨i0, hi, hz0, hz1, hz2⟩ := info_parts Wr.infoByte
  go_enter Tryz.func45, Tryz.ntmps45
  go_wp2_with (go_at_call 81; refine (Wr.copyCheck B b m bs _ h).mono ?_)
  rintro e w1 ⟨rfl, h1, hb1⟩
  obtain ⟨hB, v, hbk, hown, hne⟩ := h1
  have c0 : w1.cell? ⟨b, 0, none⟩ = some (.pointer (some ⟨b, 0, none⟩)) := by rw [Lib.cell_of_heap hbk]; rfl
  have c1 : w1.cell? ⟨b, 1, none⟩ = some v := by rw [Lib.cell_of_heap hbk]; rfl
  go_wp2_with (at_builtin; refine Lib.wpList_append_own_stringF _ rfl _ _ 27 9 rfl B 5 i0 Tryz.underlying27 Tryz.underlying9 hi hz0 hz1 hz2 _ _ _ rfl hown s rfl ?c3 ?c4 ?c5 ?_)
  case c3 => unfold maxLen; omega
  case c4 => omega
  case c5 => have := hb1.size; omega
  intro v' w2 hown' hgrow _
  have hlt : b < w1.heap.size := (Array.getElem?_eq_some_iff.1 hbk).1
  have hb2 : w2.heap[b]? = some (.cells #[.pointer (some ⟨b, 0, none⟩), v, .bool m] 128 (0, 0)) := by
    rw [hgrow.block b hlt (fun e => hne e.symm)]
    exact hbk
  have d0 : w2.cell? ⟨b, 0, none⟩ = some (.pointer (some ⟨b, 0, none⟩)) := by rw [Lib.cell_of_heap hb2]; rfl
  have d1 : w2.cell? ⟨b, 1, none⟩ = some v := by rw [Lib.cell_of_heap hb2]; rfl
  have f1 : w2.frozen? ⟨b, 1, none⟩ = false := Lib.frozen_of_heap hb2 1
  obtain ⟨ao, n', cap, rfl⟩ : ∃ ao n' cap, v' = .slice ao n' cap := by
    rcases hown'.2 with ⟨hv, _⟩ | ⟨g, cap, cur, fz, hv, _⟩
    · exact ⟨_, _, _, hv⟩
    · exact ⟨_, _, _, hv⟩
  go_wp2
  go_ret2
  refine ⟨rfl, ?_, ?_⟩
  · exact Wr.At.put hB hb2 (bs' := bs ++ Lib.strCells s) (by simpa [Lib.strCells_length] using hown')
  · exact (hb1.grown hgrow (by have := hb1.size; omega) (fun k hk => (hown.lt k hk).1)).setCell (p := ⟨b, 1, none⟩) hB _

set_option maxHeartbeats 1000000 in
set_option maxRecDepth 100000 in
/-- String, of a writer that holds at least one byte. -/
theorem Wr.string (B b : Nat) (m : Bool) (l : List UInt8) (p : Value) (w : World) (h : Wr.At B b p m (Lib.byteCells l) w) (h0 : l ≠ []) :
    Calls Tryz.prog 49 #[.pointer (some ⟨b, 0, none⟩)] w fun e w' => e = .returned (.string ⟨l.toArray⟩) ∧ Below B w w' := by
  obtain ⟨hB, v, hbk, hown, hne⟩ := h
  have hl0 : l.length ≠ 0 := by simpa using h0
  rw [Lib.byteCells_length] at hown
  obtain ⟨g, cap, cur, fz, rfl, hbg, hg, hfz, hnc, hcm, hcs, htake⟩ : ∃ g cap cur fz, v = .slice (some ⟨g, 0, none⟩) l.length cap ∧ B ≤ g ∧ w.heap[g]? = some (.cells cur 5 fz) ∧ fz.2 ≤ l.length * 1 ∧ l.length ≤ cap ∧ cap ≤ maxLen ∧ cur.size = cap * 1 ∧ cur.toList.take (l.length * 1) = Lib.byteCells l := by
    rcases hown.2 with ⟨_, hz⟩ | ⟨g, cap, cur, fz, hv, r⟩
    · exact absurd hz hl0
    · exact ⟨g, cap, cur, fz, hv, r⟩
  have c1 : w.drew.cell? ⟨b, 1, none⟩ = some (.slice (some ⟨g, 0, none⟩) l.length cap) := by
    have : w.drew.heap[b]? = some (.cells #[p, .slice (some ⟨g, 0, none⟩) l.length cap, .bool m] 128 (0, 0)) := hbk
    rw [Lib.cell_of_heap this]; rfl
  have hSD : (Builtin.unsafeSliceData_ #[27] 142 #[.slice (some ⟨g, 0, none⟩) l.length cap]).run Tryz.prog w.drew = .ok (.pointer (some ⟨g, 0, none⟩)) w.drew :=
    Lib.run_unsafeSliceData_row _ _ _ _ _ _ (by omega)
  have hUS : (Builtin.unsafeString_ #[142, 3] 9 #[.pointer (some ⟨g, 0, none⟩), .int .i64 l.length]).run Tryz.prog w.drew = .ok (.string ⟨l.toArray⟩) (w.drew.freeze ⟨g, 0, none⟩ l.length) := by
    refine Lib.run_unsafeString_row w.drew 142 3 9 5 Tryz.underlying142 Wr.cellsByte g cur.size (by have hg' : w.drew.heap[g]? = some (.cells cur 5 fz) := hg; simp [World.shape?, hg']) l h0 (by omega) (by unfold maxLen at hcm; omega) ?_
    intro j x hx
    have := hown.cells (g := g) rfl j (.int .u8 x.toNat) (by simp [Lib.byteCells, hx])
    exact this
  have hend : Below B w (w.drew.freeze ⟨g, 0, none⟩ l.length) := Lib.below_freeze (Below.drew (Below.refl B w)) (p := ⟨g, 0, none⟩) hbg _
  go_enter Tryz.func49, Tryz.ntmps49
  go_wp2
  go_region
  all_goals (go_wp2; go_ret; exact ⟨rfl, hend⟩)
end Go.Proofs.YtikmebkfdpbidaaGreatDoor
namespace Go.Proofs.YtikmebkfdpbidaaGreatDoor
open Go.RowKit
set_option linter.unusedVariables false

theorem Wr.strCells_eq (l : List UInt8) : Lib.strCells ⟨l.toArray⟩ = Lib.byteCells l := by
  simp [Lib.strCells, Lib.byteCells]

set_option maxHeartbeats 4000000 in
set_option maxRecDepth 1000000 in
theorem Wr.text_plain (B b : Nat) (l : List UInt8) (hl : l.length ≤ 1000) (w : World) (h : Wr.At B b (.pointer none) false [] w) (hBw : B ≤ w.heap.size) :
    Calls Tryz.prog 98 #[.pointer (some ⟨b, 0, none⟩), .string ⟨l.toArray⟩] w fun e w' => e = .returned (.tuple #[]) ∧ Wr.At B b (.pointer (some ⟨b, 0, none⟩)) false (Lib.byteCells l) w' ∧ Below B w w' := by
  have KW := Lib.hid (Wr.writeString B b false [] ⟨l.toArray⟩ w (.inl h) (by show 0 + l.length ≤ _; omega) hBw)
  rw [List.nil_append, Wr.strCells_eq] at KW
  obtain ⟨c0, c2, z0, _⟩ := h.cells
  clear h
  go_enter Tryz.func98, Tryz.ntmps98
  go_wp2_with fail
  refine KW.out.mono ?_
  rintro x w1 ⟨rfl, hA, hb⟩
  have HA := Lib.hid hA
  have HB := Lib.hid hb
  clear hA hb KW
  go_wp2_with fail
  first | go_end0 | refine bodyPost_ret (results_none rfl _ _ _) rfl ?_
  exact ⟨rfl, HA.out, HB.out⟩
set_option maxHeartbeats 4000000 in
set_option maxRecDepth 1000000 in
theorem Wr.symbol_plain (B b : Nat) (l : List UInt8) (hl : l.length ≤ 1000) (w : World) (h : Wr.At B b (.pointer none) false [] w) (hBw : B ≤ w.heap.size) :
    Calls Tryz.prog 99 #[.pointer (some ⟨b, 0, none⟩), .string ⟨l.toArray⟩] w fun e w' => e = .returned (.tuple #[]) ∧ Wr.At B b (.pointer (some ⟨b, 0, none⟩)) false (Lib.byteCells l) w' ∧ Below B w w' := by
  have KW := Lib.hid (Wr.writeString B b false [] ⟨l.toArray⟩ w (.inl h) (by show 0 + l.length ≤ _; omega) hBw)
  rw [List.nil_append, Wr.strCells_eq] at KW
  obtain ⟨c0, c2, z0, _⟩ := h.cells
  clear h
  go_enter Tryz.func99, Tryz.ntmps99
  go_wp2_with fail
  refine KW.out.mono ?_
  rintro x w1 ⟨rfl, hA, hb⟩
  have HA := Lib.hid hA
  have HB := Lib.hid hb
  clear hA hb KW
  go_wp2_with fail
  first | go_end0 | refine bodyPost_ret (results_none rfl _ _ _) rfl ?_
  exact ⟨rfl, HA.out, HB.out⟩
theorem Wr.At.alloc {B b : Nat} {p : Value} {m : Bool} {bs : List Value} {w : World} (h : Wr.At B b p m bs w) (o : Obj) : Wr.At B b p m bs (w.alloc o) := by
  obtain ⟨hB, v, hb, hown, hne⟩ := h
  have hlt : b < w.heap.size := (Array.getElem?_eq_some_iff.1 hb).1
  exact ⟨hB, v, (Lib.alloc_old w o b hlt).trans hb, hown.kept (World.grownBy_alloc w o none) (by cases hv : v.ownBlock <;> simp), hne⟩
set_option maxHeartbeats 4000000 in
set_option maxRecDepth 1000000 in
theorem Wr.datum_plain (B b : Nat) (k : Int) (hk : k = 5 ∨ k = 6) (l : List UInt8) (hl : l.length ≤ 1000) (lst : Value) (hlst : ∃ ad cap, lst = .slice ad 0 cap) (w : World) (h : Wr.At B b (.pointer none) false [] w) (hBw : B ≤ w.heap.size) :
    Calls Tryz.prog 68 #[.pointer (some ⟨b, 0, none⟩), Dt.leaf k ⟨l.toArray⟩ lst] w fun e w' => e = .returned (.tuple #[]) ∧ Wr.At B b (.pointer (some ⟨b, 0, none⟩)) false (Lib.byteCells l) w' ∧ Below B w w' := by
  have hA := fun o => h.alloc o
  have hb0 : ∀ o, Below B w (w.alloc o) := fun o => (Below.refl _ _).alloc hBw _
  have hz : ∀ o, B ≤ (w.alloc o).heap.size := fun o => (hb0 o).size |> Nat.le_trans hBw
  obtain ⟨ad, cap, rfl⟩ := hlst
  have KT := fun o => Wr.text_plain B b l hl (w.alloc o) (hA o) (hz o)
  have KS := fun o => Wr.symbol_plain B b l hl (w.alloc o) (hA o) (hz o)
  clear h hA
  rcases hk with rfl | rfl
  · unfold Dt.leaf Dt.cells
    go_enter Tryz.func68, Tryz.ntmps68
    go_wp2_with fail
    refine (KT _).mono ?_
    rintro x w1 ⟨rfl, hA, hb⟩
    have HA := Lib.hid hA
    have HB := Lib.hid ((hb0 _).trans hb)
    clear hA hb KT KS
    go_wp2_with fail
    first | go_end0 | refine bodyPost_ret (results_none rfl _ _ _) rfl ?_
    exact ⟨rfl, HA.out, HB.out⟩
  · unfold Dt.leaf Dt.cells
    go_enter Tryz.func68, Tryz.ntmps68
    go_wp2_with fail
    refine (KS _).mono ?_
    rintro x w1 ⟨rfl, hA, hb⟩
    have HA := Lib.hid hA
    have HB := Lib.hid ((hb0 _).trans hb)
    clear hA hb KT KS
    go_wp2_with fail
    first | go_end0 | refine bodyPost_ret (results_none rfl _ _ _) rfl ?_
    exact ⟨rfl, HA.out, HB.out⟩
set_option maxHeartbeats 4000000 in
set_option maxRecDepth 1000000 in
theorem Wr.display_plain (k : Int) (hk : k = 5 ∨ k = 6) (l : List UInt8) (h0 : l ≠ []) (hl : l.length ≤ 1000) (lst : Value) (hlst : ∃ ad cap, lst = .slice ad 0 cap) (hV : Dt.valid ⟨l.toArray⟩) (w : World) :
    Calls Tryz.prog 40 #[Dt.leaf k ⟨l.toArray⟩ lst, .bool false] w fun e w' => e = .returned (.tuple #[.string ⟨l.toArray⟩, .int .i64 0]) ∧ Below w.heap.size w w' := by
  have KS := Lib.hid (fun w => Dt.Sound_leaf k ⟨l.toArray⟩ lst (hk.elim (fun h => .inr (.inr (.inl h))) (fun h => .inr (.inr (.inr h)))) hlst hV w)
  have KD := Lib.hid (fun (B b : Nat) (w : World) h hb => Wr.datum_plain B b k hk l hl lst hlst w h hb)
  have KG := Lib.hid (fun (B b : Nat) (w : World) h => Wr.string B b false l (.pointer (some ⟨b, 0, none⟩)) w h h0)
  obtain ⟨ad, cap, rfl⟩ := hlst
  have hq0 : ∀ o, (w.alloc o).heap[w.heap.size]? = some o := fun o => heap_alloc_new w o
  have hb0 : ∀ o, Below w.heap.size w (w.alloc o) := fun o => (Below.refl _ _).alloc (Nat.le_refl _) _
  have hsz : ∀ o, (w.alloc o).heap.size = w.heap.size + 1 := by intro o; simp
  unfold Dt.leaf Dt.cells at *
  go_enter Tryz.func40, Tryz.ntmps40
  go_wp2_with fail
  refine (KS.out _).mono ?_
  rintro x w1 ⟨rfl, hb1⟩
  have q1 := (hb1.block w.heap.size (by rw [hsz]; omega)).trans (hq0 _)
  have HB1 := Lib.hid ((hb0 _).trans (hb1.mono (by rw [hsz]; omega)))
  have hz1 : w.heap.size < w1.heap.size := (Array.getElem?_eq_some_iff.1 q1).1
  obtain ⟨c0, c1, c2, c3, c4, c5, c6, c7, c8, c9, c10⟩ := Dt.cells11 q1
  clear hb1 q1 hq0 hb0 hsz KS
  have hA : Wr.At w1.heap.size w1.heap.size (.pointer none) false [] (w1.alloc (.cells #[.pointer none, .slice none 0 0, .bool false] 128)) :=
    ⟨Nat.le_refl _, .slice none 0 0, heap_alloc_new _ _, ⟨by simp, .inl ⟨rfl, rfl⟩⟩, by simp [Value.ownBlock]⟩
  have HA := Lib.hid hA
  clear hA
  go_wp2_with fail
  refine (KD.out w1.heap.size w1.heap.size _ HA.out (by simp)).mono ?_
  rintro x w2 ⟨rfl, hA2, hb2⟩
  have HB2 := Lib.hid (HB1.out.trans ((((Below.refl w1.heap.size w1).alloc (Nat.le_refl _) _).trans hb2).mono (Nat.le_of_lt hz1)))
  have HA2 := Lib.hid hA2
  have hz2 : w1.heap.size < w2.heap.size := by
    obtain ⟨_, v, hb, _⟩ := hA2
    exact (Array.getElem?_eq_some_iff.1 hb).1
  clear hA2 hb2 KD HA
  go_wp2_with fail
  refine (KG.out w1.heap.size w1.heap.size _ HA2.out).mono ?_
  rintro x w3 ⟨rfl, hb3⟩
  have HB3 := Lib.hid (HB2.out.trans (hb3.mono (Nat.le_of_lt hz1)))
  clear hb3 KG
  go_wp2_with fail
  go_ret2
  exact ⟨rfl, HB3.out⟩
set_option maxHeartbeats 4000000 in
set_option maxRecDepth 1000000 in
theorem Wr.Display_plain (k : Int) (hk : k = 5 ∨ k = 6) (l : List UInt8) (h0 : l ≠ []) (hl : l.length ≤ 1000) (lst : Value) (hlst : ∃ ad cap, lst = .slice ad 0 cap) (hV : Dt.valid ⟨l.toArray⟩) (w : World) :
    Calls Tryz.prog 11 #[Dt.leaf k ⟨l.toArray⟩ lst] w fun e w' => e = .returned (.tuple #[.string ⟨l.toArray⟩, .int .i64 0]) ∧ Below w.heap.size w w' := by
  have KD := Lib.hid (fun w => Wr.display_plain k hk l h0 hl lst hlst hV w)
  have hb0 : ∀ o, Below w.heap.size w (w.alloc o) := fun o => (Below.refl _ _).alloc (Nat.le_refl _) _
  obtain ⟨ad, cap, rfl⟩ := hlst
  unfold Dt.leaf Dt.cells at *
  go_enter Tryz.func11, Tryz.ntmps11
  go_wp2_with fail
  refine (KD.out _).mono ?_
  rintro x w1 ⟨rfl, hb1⟩
  have HB1 := Lib.hid ((hb0 _).trans (hb1.mono (by simp)))
  clear hb1 KD hb0
  go_wp2_with fail
  go_ret2
  exact ⟨rfl, HB1.out⟩
end Go.Proofs.YtikmebkfdpbidaaGreatDoor
namespace Go.Proofs.YtikmebkfdpbidaaGreatDoor
open Go.RowKit
set_option linter.unusedVariables false

def Co.S1 : ByteArray := ⟨#[99, 97, 114]⟩
def Co.S2 : ByteArray := ⟨#[110, 111]⟩
def Co.t4 (i : Nat) : Nat := match i with | 0 => 6 | 1 => 8 | 2 => 1 | _ => 7
def Co.f4 (f1 f2 f3 : Value) (i : Nat) : Value := match i with | 0 => .slice none 0 0 | 1 => f1 | 2 => f2 | _ => f3
theorem Co.At.up {w : World} {B B2 a n : Nat} {t : Nat → Nat} {f : Nat → Value} (h : Co.At w B a n t f) (hB : B ≤ B2) : Co.At w B2 a n t f := by
  refine ⟨Nat.lt_of_lt_of_le h.1 hB, fun i hi => ⟨(h.2 i hi).1, (h.2 i hi).2.1, (h.2 i hi).2.2.1, ?_⟩⟩
  rcases (h.2 i hi).2.2.2 with h | ⟨h1, b, k, s, ad, cap, hlt, r⟩
  · exact .inl h
  · exact .inr ⟨h1, b, k, s, ad, cap, by omega, r⟩
/-- What cond.Error has made, as Tell reads it. -/
theorem Co.Four.open {w : World} {B : Nat} {v : Value} (h : Co.Four w B v Co.S1 Co.S2) : ∃ a cap f1 f2 f3, v = .slice (some ⟨a, 0, none⟩) 4 cap ∧ Co.At w w.heap.size a 4 Co.t4 (Co.f4 f1 f2 f3) ∧
    (∃ b ad cap, f1 = .slice (some ⟨b, 0, none⟩) 1 1 ∧ w.heap[b]? = some (.cells (Dt.cells 6 Co.S1 (.slice ad 0 cap)) 30 (0, 0))) ∧
    (∃ b ad cap, f2 = .slice (some ⟨b, 0, none⟩) 1 1 ∧ w.heap[b]? = some (.cells (Dt.cells 5 Co.S2 (.slice ad 0 cap)) 30 (0, 0))) ∧
    (∃ b ad cap, f3 = .slice (some ⟨b, 0, none⟩) 1 1 ∧ w.heap[b]? = some (.cells (Dt.cells 1 ⟨#[]⟩ (.slice ad 0 cap)) 30 (0, 0))) := by
  have V1 : Dt.valid Co.S1 := fun w => Dt.valid_short [99, 97, 114] (by decide) (by decide) w
  have V2 : Dt.valid Co.S2 := fun w => Dt.valid_short [110, 111] (by decide) (by decide) w
  have V3 : Dt.valid ⟨#[]⟩ := fun w => Dt.valid_short [] (by decide) (by simp) w
  obtain ⟨f1, f2, f3, hown, h1, h2, h3⟩ := h
  rcases hown.2 with ⟨_, h0⟩ | ⟨g, cap, cur, rfl, hB, hg, hr⟩
  · omega
  · have e := fun j u (hj : ([.int .i64 6, .slice none 0 0, .int .i64 8, f1, .int .i64 1, f2, .int .i64 7, f3] : List Value)[j]? = some u) => hown.cells (g := g) rfl j u hj
    simp only [Dt.addr_add, Nat.zero_add] at e
    refine ⟨g, cap, f1, f2, f3, rfl, ⟨(Array.getElem?_eq_some_iff.1 hg).1, ?_⟩, h1, h2, h3⟩
    obtain ⟨b1, ad1, cap1, e1, q1⟩ := h1
    obtain ⟨b2, ad2, cap2, e2, q2⟩ := h2
    obtain ⟨b3, ad3, cap3, e3, q3⟩ := h3
    intro i hi
    match i, hi with
    | 0, _ => exact ⟨by decide, e 0 _ rfl, e 1 _ rfl, .inl ⟨rfl, by decide⟩⟩
    | 1, _ => exact ⟨by decide, e 2 _ rfl, e 3 _ rfl, .inr ⟨by decide, b1, 6, Co.S1, ad1, cap1, (Array.getElem?_eq_some_iff.1 q1).1, e1, q1, .inr (.inr (.inr rfl)), V1⟩⟩
    | 2, _ => exact ⟨by decide, e 4 _ rfl, e 5 _ rfl, .inr ⟨by decide, b2, 5, Co.S2, ad2, cap2, (Array.getElem?_eq_some_iff.1 q2).1, e2, q2, .inr (.inr (.inl rfl)), V2⟩⟩
    | 3, _ => exact ⟨by decide, e 6 _ rfl, e 7 _ rfl, .inr ⟨by decide, b3, 1, ⟨#[]⟩, ad3, cap3, (Array.getElem?_eq_some_iff.1 q3).1, e3, q3, .inl ⟨rfl, rfl⟩, V3⟩⟩

set_option maxHeartbeats 4000000 in
set_option maxRecDepth 1000000 in
theorem Co.Tell_at (v : Value) (w : World) (B : Nat) (h : Co.Four w B v Co.S1 Co.S2) :
    Calls Tryz.prog 54 #[v] w fun e w' => e = .returned (.tuple #[.string ⟨#[97, 115, 115, 101, 114, 116, 105, 111, 110, 32, 105, 110, 32, 99, 97, 114, 58, 32, 110, 111]⟩, .int .i64 0]) ∧ Below w.heap.size w w' := by
  have V1 : Dt.valid Co.S1 := fun w => Dt.valid_short [99, 97, 114] (by decide) (by decide) w
  have V2 : Dt.valid Co.S2 := fun w => Dt.valid_short [110, 111] (by decide) (by decide) w
  obtain ⟨a, cap, f1, f2, f3, rfl, hat, ⟨b1, ad1, cap1, rfl, q1⟩, ⟨b2, ad2, cap2, rfl, q2⟩, ⟨b3, ad3, cap3, rfl, q3⟩⟩ := h.open
  have l1 := (Array.getElem?_eq_some_iff.1 q1).1
  have l2 := (Array.getElem?_eq_some_iff.1 q2).1
  have l3 := (Array.getElem?_eq_some_iff.1 q3).1
  generalize hF : Co.f4 _ _ _ = F at hat
  have F1 : F 0 = .slice none 0 0 := by rw [← hF]; rfl
  have F2 : F 1 = .slice (some ⟨b1, 0, none⟩) 1 1 := by rw [← hF]; rfl
  have F3 : F 2 = .slice (some ⟨b2, 0, none⟩) 1 1 := by rw [← hF]; rfl
  have F4 : F 3 = .slice (some ⟨b3, 0, none⟩) 1 1 := by rw [← hF]; rfl
  have u0 : ∀ j, j < 0 → Co.under (Co.t4 j) 3 = false := fun j h => by omega
  have u1 : ∀ j, j < 1 → Co.under (Co.t4 j) 8 = false := fun j h => by
    match j, h with
    | 0, _ => decide
  have u2 : ∀ j, j < 2 → Co.under (Co.t4 j) 1 = false := fun j h => by
    match j, h with
    | 0, _ => decide
    | 1, _ => decide
  have u3 : ∀ j, j < 3 → Co.under (Co.t4 j) 7 = false := fun j h => by
    match j, h with
    | 0, _ => decide
    | 1, _ => decide
    | 2, _ => decide
  have K0 := Lib.hid (fun (w' : World) (hb : Below w.heap.size w w') => Co.Check_ok a 4 cap (by decide) Co.t4 F w' ((hat.below hb).up hb.size))
  have K1 := fun (w' : World) (hb : Below w.heap.size w w') => Co.first_at a 4 cap (by decide) Co.t4 F 3 0 (by decide) u0 (by decide) w' ((hat.below hb).up hb.size)
  have K2 := fun (w' : World) (hb : Below w.heap.size w w') => Co.first_at a 4 cap (by decide) Co.t4 F 8 1 (by decide) u1 (by decide) w' ((hat.below hb).up hb.size)
  have K3 := fun (w' : World) (hb : Below w.heap.size w w') => Co.first_at a 4 cap (by decide) Co.t4 F 1 2 (by decide) u2 (by decide) w' ((hat.below hb).up hb.size)
  have K4 := fun (w' : World) (hb : Below w.heap.size w w') => Co.first_at a 4 cap (by decide) Co.t4 F 7 3 (by decide) u3 (by decide) w' ((hat.below hb).up hb.size)
  rw [F1] at K1
  rw [F2] at K2
  rw [F3] at K3
  rw [F4] at K4
  have K1 := Lib.hid K1
  have K2 := Lib.hid K2
  have K3 := Lib.hid K3
  have K4 := Lib.hid K4
  have KN := Lib.hid (fun w => Co.name_any 6 w)
  have KD1 := Lib.hid (fun ad cap w => Wr.Display_plain 6 (.inr rfl) [99, 97, 114] (by decide) (by decide) (.slice ad 0 cap) ⟨_, _, rfl⟩ V1 w)
  have KD2 := Lib.hid (fun ad cap w => Wr.Display_plain 5 (.inl rfl) [110, 111] (by decide) (by decide) (.slice ad 0 cap) ⟨_, _, rfl⟩ V2 w)
  have KI := Lib.hid (fun ad cap w => Ls.Items_nil (.slice ad 0 cap) ⟨_, _, rfl⟩ w)
  unfold Dt.leaf at KD1 KD2 KI
  unfold Dt.cells Co.S1 at q1
  unfold Dt.cells Co.S2 at q2
  unfold Dt.cells at q3 KD1 KD2 KI
  have Q1 := Lib.hid q1
  have Q2 := Lib.hid q2
  have Q3 := Lib.hid q3
  have e6 : (if Co.thr 6 then Co.nm (6 : Int).toNat else ⟨#[]⟩) = ⟨#[97, 115, 115, 101, 114, 116, 105, 111, 110]⟩ := by decide
  have e60 : (if Co.thr 6 then (0 : Int) else 7) = 0 := by decide
  rw [e6, e60] at KN
  have t0 : Co.t4 0 = 6 := rfl
  have t1 : Co.t4 1 = 8 := rfl
  have t2 : Co.t4 2 = 1 := rfl
  have t3 : Co.t4 3 = 7 := rfl
  rw [t0] at K1
  rw [t1] at K2
  rw [t2] at K3
  rw [t3] at K4
  clear e6 e60 t0 t1 t2 t3 u0 u1 u2 u3 F1 F2 F3 F4 hF hat q1 q2 q3 V1 V2 h
  have hbr : Below w.heap.size w w := Below.refl _ _
  go_enter Tryz.func54, Tryz.ntmps54
  go_wp2_with fail
  refine (K0.out _ hbr).mono ?_
  rintro x w1 ⟨rfl, hb1⟩
  have HB1 := Lib.hid hb1
  clear hb1 hbr K0
  go_wp2_with fail
  refine (K1.out _ HB1.out).mono ?_
  rintro x w2 ⟨rfl, hb2⟩
  have HB2 := Lib.hid (HB1.out.trans (hb2.mono HB1.out.size))
  have HA2 : Hid (∀ o, Below w.heap.size w (w2.alloc o)) := Lib.hid (fun o => HB2.out.alloc HB2.out.size o)
  clear hb2 K1
  go_wp2_with fail
  refine (KN.out _).mono ?_
  rintro x w3 ⟨rfl, hb3⟩
  have HB3 := Lib.hid ((HA2.out _).trans (hb3.mono (HA2.out _).size))
  clear hb3 KN HA2
  go_wp2_with fail
  refine (K2.out _ HB3.out).mono ?_
  rintro x w4 ⟨rfl, hb4⟩
  have HB4 := Lib.hid (HB3.out.trans (hb4.mono HB3.out.size))
  have HA4 : Hid (∀ o, Below w.heap.size w (w4.alloc o)) := Lib.hid (fun o => HB4.out.alloc HB4.out.size o)
  have q4 := (HB4.out.block b1 l1).trans Q1.out
  have l14 : b1 < w4.heap.size := (Array.getElem?_eq_some_iff.1 q4).1
  obtain ⟨a0, a1, a2, a3, a4, a5, a6, a7, a8, a9, a10⟩ := Dt.cells11 q4
  clear hb4 K2 q4
  go_wp2_with fail
  refine (KD1.out _ _ _).mono ?_
  rintro x w5 ⟨rfl, hb5⟩
  have HB5 := Lib.hid ((HA4.out _).trans (hb5.mono (HA4.out _).size))
  clear hb5 KD1 HA4 a0 a1 a2 a3 a4 a5 a6 a7 a8 a9 a10 l14
  go_wp2_with fail
  refine (K3.out _ HB5.out).mono ?_
  rintro x w6 ⟨rfl, hb6⟩
  have HB6 := Lib.hid (HB5.out.trans (hb6.mono HB5.out.size))
  have HA6 : Hid (∀ o, Below w.heap.size w (w6.alloc o)) := Lib.hid (fun o => HB6.out.alloc HB6.out.size o)
  have q6 := (HB6.out.block b2 l2).trans Q2.out
  have l26 : b2 < w6.heap.size := (Array.getElem?_eq_some_iff.1 q6).1
  obtain ⟨a0, a1, a2, a3, a4, a5, a6, a7, a8, a9, a10⟩ := Dt.cells11 q6
  clear hb6 K3 q6
  go_wp2_with fail
  refine (KD2.out _ _ _).mono ?_
  rintro x w7 ⟨rfl, hb7⟩
  have HB7 := Lib.hid ((HA6.out _).trans (hb7.mono (HA6.out _).size))
  clear hb7 KD2 HA6 a0 a1 a2 a3 a4 a5 a6 a7 a8 a9 a10 l26
  go_wp2_with fail
  refine (K4.out _ HB7.out).mono ?_
  rintro x w8 ⟨rfl, hb8⟩
  have HB8 := Lib.hid (HB7.out.trans (hb8.mono HB7.out.size))
  have HA8 : Hid (∀ o, Below w.heap.size w (w8.alloc o)) := Lib.hid (fun o => HB8.out.alloc HB8.out.size o)
  have q8 := (HB8.out.block b3 l3).trans Q3.out
  have l38 : b3 < w8.heap.size := (Array.getElem?_eq_some_iff.1 q8).1
  obtain ⟨a0, a1, a2, a3, a4, a5, a6, a7, a8, a9, a10⟩ := Dt.cells11 q8
  clear hb8 K4 q8
  go_wp2_with fail
  refine (KI.out _ _ _).mono ?_
  rintro x w9 ⟨rfl, hb9⟩
  have HB9 := Lib.hid ((HA8.out _).trans (hb9.mono (HA8.out _).size))
  clear hb9 KI HA8 a0 a1 a2 a3 a4 a5 a6 a7 a8 a9 a10 l38
  go_wp2_with fail
  go_loopw [5, 93] (fun s i wr => s = .string ⟨#[97, 115, 115, 101, 114, 116, 105, 111, 110, 32, 105, 110, 32, 99, 97, 114, 58, 32, 110, 111]⟩ ∧ i = .int .i64 0 ∧ wr = w9) (fun _ _ _ => 0)
  case atStart => exact ⟨congrArg Value.string (by decide), rfl, rfl⟩
  case round =>
    obtain ⟨rfl, rfl, rfl⟩ := hrel
    go_wp2_with fail
    go_ret2
    exact ⟨rfl, HB9.out⟩

set_option maxHeartbeats 4000000 in
set_option maxRecDepth 1000000 in
theorem Co.awake_any (w : World) : Calls Tryz.prog 22 #[] w fun e w' => e = .returned (.bool true) ∧ Below w.heap.size w w' := by
  have V1 : Dt.valid Co.S1 := fun w => Dt.valid_short [99, 97, 114] (by decide) (by decide) w
  have V2 : Dt.valid Co.S2 := fun w => Dt.valid_short [110, 111] (by decide) (by decide) w
  have KE := Lib.hid (fun w => Co.Error_at Co.S1 Co.S2 V1 V2 w)
  have KT := Lib.hid (fun v w h => Co.Tell_at v w w.heap.size h)
  have KT := Lib.hid (fun v w B h => Co.Tell_at v w B h)
  clear V1 V2
  unfold Dt.leaf Dt.cells at KE
  rw [show Co.S1 = ⟨#[99, 97, 114]⟩ from rfl, show Co.S2 = ⟨#[110, 111]⟩ from rfl] at KE
  go_enter Tryz.func22, Tryz.ntmps22
  go_wp2_with fail
  refine (KE.out _).mono ?_
  rintro x w1 ⟨v, rfl, hf, hb1⟩
  have HB1 := Lib.hid hb1
  have HF := Lib.hid hf
  clear hb1 hf KE
  go_wp2_with fail
  refine (KT.out v w1 w.heap.size HF.out).mono ?_
  rintro x w2 ⟨rfl, hb2⟩
  have HB2 := Lib.hid (HB1.out.trans (hb2.mono HB1.out.size))
  clear hb2
  go_wp2
  go_ret
  exact ⟨rfl, HB2.out⟩
end Go.Proofs.YtikmebkfdpbidaaGreatDoor
